/-
  Layer 19: whether an image may be run: the walk; something of how things stand.
-/
import Derived.Test.YtejkaalhjocmgaaDoorYd
namespace Go.Proofs.YtejkaalhjocmgaaDoor
open Go.RowKit
set_option maxHeartbeats 1000000
set_option maxRecDepth 100000
noncomputable def goodB (m : Im) : Bool := @decide (Good conB m) (Classical.propDecidable _)
theorem goodB_iff {m : Im} : goodB m = true ↔ Good conB m := by unfold goodB; simp
noncomputable def verE (m : Im) : Int := if imgE m = 0 then (if goodB m then 0 else 190) else imgE m
theorem imgE_code {m : Im} (h : imgE m = 0) : codeE m.code = 0 := by
  unfold imgE at h
  split at h
  · cases h
  · exact h
/-- How high, and of which function, as plain data. -/
noncomputable def depAt (m : Im) (k : Nat) : Int := @dite Int (∃ s, Reach conB m k s) (Classical.propDecidable _) (fun h => h.choose.height) (fun _ => -1)
noncomputable def ownAt (m : Im) (k : Nat) : Int := @dite Int (∃ s, Reach conB m k s) (Classical.propDecidable _) (fun h => h.choose.of) (fun _ => -1)
theorem depAt_some {m : Im} (hg : Good conB m) {k : Nat} {s : RSt} (h : Reach conB m k s) : depAt m k = s.height := by
  unfold depAt
  have hx : ∃ s, Reach conB m k s := ⟨s, h⟩
  rw [dif_pos hx, hg.one k _ s hx.choose_spec h]
theorem ownAt_some {m : Im} (hg : Good conB m) {k : Nat} {s : RSt} (h : Reach conB m k s) : ownAt m k = s.of := by
  unfold ownAt
  have hx : ∃ s, Reach conB m k s := ⟨s, h⟩
  rw [dif_pos hx, hg.one k _ s hx.choose_spec h]
theorem depAt_none {m : Im} {k : Nat} (h : ¬ ∃ s, Reach conB m k s) : depAt m k = -1 := by unfold depAt; rw [dif_neg h]
theorem ownAt_none {m : Im} {k : Nat} (h : ¬ ∃ s, Reach conB m k s) : ownAt m k = -1 := by unfold ownAt; rw [dif_neg h]
noncomputable def depL (m : Im) : List Int := if verE m = 0 then (List.range m.code.length).map (depAt m) else []
noncomputable def ownL (m : Im) : List Int := if verE m = 0 then (List.range m.code.length).map (ownAt m) else []
def CheckYes (m : Im) (w : World) (e : Ending) (w' : World) : Prop := ∃ (b : Nat) (cs : Array Value) (C : PC), e = .returned (.tuple #[.slice (some ⟨b, 0, none⟩) m.code.length m.code.length, .bool true]) ∧ w.heap.size ≤ b ∧ Chg (fun _ => False) w w' ∧ AtRep (fun _ => True) w' b cs C.at_ ∧ C.at_.length = m.code.length ∧ (∀ (k : Nat) (p : PSt), C.at_[k]? = some (some p) → 0 ≤ p.height ∧ p.height ≤ 1000 ∧ -1 ≤ p.of ∧ p.of ≤ 100000000) ∧ ∀ (k : Nat) (s : RSt), Reach conB m k s ↔ ∃ p, C.at_[k]? = some (some p) ∧ lift C.has p = s
def CheckNo (m : Im) (w : World) (e : Ending) (w' : World) : Prop := ∃ (b : Nat), e = .returned (.tuple #[.slice (some ⟨b, 0, none⟩) m.code.length m.code.length, .bool false]) ∧ Chg (fun _ => False) w w'
theorem CheckOut.yes {m : Im} {w w' : World} {e : Ending} (h : CheckOut m w e w') (hg : Good conB m) : CheckYes m w e w' := by
  obtain ⟨b, cs, C, h1, h2, h3, h4 | ⟨h5, _, h6, h7, h8, h9⟩⟩ := h
  · exact absurd hg h4.2
  · exact ⟨b, cs, C, by rw [h1, h5]; rfl, h2, h3, h6, h7, h8, h9⟩
theorem CheckOut.no {m : Im} {w w' : World} {e : Ending} (h : CheckOut m w e w') (hg : ¬ Good conB m) : CheckNo m w e w' := by
  obtain ⟨b, cs, C, h1, h2, h3, h4 | ⟨h5, h6, _⟩⟩ := h
  · exact ⟨b, by rw [h1, h4.1]; rfl, h3⟩
  · exact absurd h6 hg
theorem dep_clo (s : PSt) (tv : Value) (x : Bool) (w : World) : Calls Tryd.prog 20 #[.agg #[.int .i64 s.of, .int .i64 s.height, tv, .bool x]] w fun e w' => e = .returned (.int .i64 s.height) ∧ Chg (fun _ => False) w w' := by
  have h1 := (Chg.refl (fun _ => False) w).alloc (.cells #[.int .i64 s.of, .int .i64 s.height, tv, .bool x] 49)
  have H1 := hide h1
  clear h1
  go_enter Tryd.func20, Tryd.ntmps20
  go_wp2_with fail
  go_ret
  exact ⟨rfl, unhide H1⟩
theorem own_clo (s : PSt) (tv : Value) (x : Bool) (w : World) : Calls Tryd.prog 21 #[.agg #[.int .i64 s.of, .int .i64 s.height, tv, .bool x]] w fun e w' => e = .returned (.int .i64 s.of) ∧ Chg (fun _ => False) w w' := by
  have h1 := (Chg.refl (fun _ => False) w).alloc (.cells #[.int .i64 s.of, .int .i64 s.height, tv, .bool x] 49)
  have H1 := hide h1
  clear h1
  go_enter Tryd.func21, Tryd.ntmps21
  go_wp2_with fail
  go_ret
  exact ⟨rfl, unhide H1⟩
theorem verify_any (m : Im) (pA cA : Option Addr) (pc cc : Nat) (T T2 : Nat → Prop) (w : World) (hp : Rd T w pA (m.pool.flatMap cstv)) (hc : Rd T2 w cA (m.code.flatMap insv)) (hn : m.code.length ≤ 900) (pn : m.pool.length ≤ 100000) (px : ∀ x ∈ m.pool, x.text.size ≤ 9223372036854775807) (lay : Lay w) :
    Calls Tryd.prog 13 #[.agg #[.slice pA m.pool.length pc, .slice cA m.code.length cc]] w fun e w' => e = .returned (.int .i64 (verE m)) ∧ Chg (fun _ => False) w w' := by
  have b1 := Blk.new w 25 #[.slice pA m.pool.length pc, .slice cA m.code.length cc]
  have c1 := (Chg.refl (fun _ => False) w).alloc (.cells #[.slice pA m.pool.length pc, .slice cA m.code.length cc] 25)
  have HI := hide (fun W (hW : Chg (fun _ => False) w W) => img_any m pc cc pA cA T T2 W (hp.chg hW (fun _ _ _ => id)) (hc.chg hW (fun _ _ _ => id)) (by omega) (by omega) px (lay.chg hW (fun _ _ => id)))
  have HE := hide (show verE m = if imgE m = 0 then (if goodB m then 0 else 190) else imgE m from rfl)
  generalize verE m = E at *
  have HB := hide b1
  have HC1 := hide c1
  have x0 := b1.cell 0
  have x1 := b1.cell 1
  simp only [List.getElem?_toArray, List.getElem?_cons_zero, List.getElem?_cons_succ] at x0 x1
  clear b1 c1
  by_cases hi : imgE m = 0
  · rw [hi] at HI HE
    have hK := fun W (hW : Chg (fun _ => False) w W) => check_any m pA cA pc cc T T2 W (hp.chg hW (fun _ _ _ => id)) (hc.chg hW (fun _ _ _ => id)) (codeOk_of (imgE_code hi)) hn pn px (lay.chg hW (fun _ _ => id))
    cases hg : goodB m with
    | true =>
      have HY := hide (fun W (hW : Chg (fun _ => False) w W) => (hK W hW).mono (fun e w' h => h.yes (goodB_iff.1 hg)))
      have HE2 := hide (show E = 0 by rw [unhide HE, hg]; rfl)
      clear hK hg hi hp hc px lay
      go_enter Tryd.func13, Tryd.ntmps13
      go_wp2_with (first
        | (go_at_call 22; refine (unhide HI _ (unhide HC1)).mono ?_; rintro e w2 ⟨rfl, hch⟩; have hc2 := (unhide HC1).trans' hch; have hb2 := (unhide HB).chg hch id; have y0 := hb2.cell 0; have y1 := hb2.cell 1; simp only [List.getElem?_toArray, List.getElem?_cons_zero, List.getElem?_cons_succ] at y0 y1; have HC2 := hide hc2; clear hch hc2 hb2)
        | (go_at_call 23; refine (unhide HY _ (unhide HC2)).mono ?_; rintro e w3 ⟨b, cs, C, rfl, _, hch, _⟩; have HC3 := hide hch; clear hch))
      go_ret
      exact ⟨retv (intv (unhide HE2).symm), (unhide HC2).trans' (unhide HC3)⟩
    | false =>
      have HY := hide (fun W (hW : Chg (fun _ => False) w W) => (hK W hW).mono (fun e w' h => h.no (fun hh => by rw [goodB_iff.2 hh] at hg; cases hg)))
      have HE2 := hide (show E = 190 by rw [unhide HE, hg]; rfl)
      clear hK hg hi hp hc px lay
      go_enter Tryd.func13, Tryd.ntmps13
      go_wp2_with (first
        | (go_at_call 22; refine (unhide HI _ (unhide HC1)).mono ?_; rintro e w2 ⟨rfl, hch⟩; have hc2 := (unhide HC1).trans' hch; have hb2 := (unhide HB).chg hch id; have y0 := hb2.cell 0; have y1 := hb2.cell 1; simp only [List.getElem?_toArray, List.getElem?_cons_zero, List.getElem?_cons_succ] at y0 y1; have HC2 := hide hc2; clear hch hc2 hb2)
        | (go_at_call 23; refine (unhide HY _ (unhide HC2)).mono ?_; rintro e w3 ⟨b, rfl, hch⟩; have HC3 := hide hch; clear hch))
      go_ret
      exact ⟨retv (intv (unhide HE2).symm), (unhide HC2).trans' (unhide HC3)⟩
  · have HE2 := hide (show E = imgE m by rw [unhide HE, if_neg hi])
    have hne : (imgE m != 0) = true := by rw [bne_iff_ne]; exact hi
    clear hi hp hc px lay
    generalize imgE m = F at *
    go_enter Tryd.func13, Tryd.ntmps13
    go_wp2_with (first
      | (go_at_call 22; refine (unhide HI _ (unhide HC1)).mono ?_; rintro e w2 ⟨rfl, hch⟩; have HC2 := hide ((unhide HC1).trans' hch); clear hch))
    go_ret
    exact ⟨retv (intv (unhide HE2).symm), unhide HC2⟩
end Go.Proofs.YtejkaalhjocmgaaDoor
