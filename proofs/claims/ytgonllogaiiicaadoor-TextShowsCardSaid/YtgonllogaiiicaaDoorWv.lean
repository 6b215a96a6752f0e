/-
  Layer 17: law.go: what the example fixes.
-/
import Derived.Test.YtgonllogaiiicaaDoorWu
import Derived.Test.YtgonllogaiiicaaDoorWq
namespace Go.Proofs.YtgonllogaiiicaaDoor
open Go.RowKit
set_option maxHeartbeats 4000000
set_option maxRecDepth 100000
def tx1 : Bs := [120, 58, 32, 59, 32, 104, 101, 114, 101, 10, 106, 117, 109, 112, 32, 120]
def tx2 : Bs := [120, 58, 10, 10, 106, 117, 109, 112, 32, 121]
def tx3 : Bs := [76, 48, 58, 10, 32, 32, 106, 117, 109, 112, 32, 76, 48, 10]
def tx4 : Bs := [97, 58, 10, 32, 32, 106, 117, 109, 112, 32, 97, 10]
theorem aw1 : readT tx1 = .ok [⟨15, 0, 0⟩] := by kernel_rfl
theorem aw2 : readT tx2 = .label 2 := by kernel_rfl
theorem aw3 : showT [⟨15, 0, 0⟩] = tx3 := by kernel_rfl
theorem aw4 : renT tx3 [76, 48] [97] = tx4 := by kernel_rfl
theorem aw5 : checkE [⟨15, 0, 0⟩] = 0 := by kernel_rfl
theorem aw6 : labs (linesL tx3) (linesL tx3).length = [([76, 48], 0)] := by kernel_rfl
theorem aw7 : (linesL tx1).length = 2 := by kernel_rfl
theorem aw8 : (linesL tx2).length = 3 := by kernel_rfl
theorem aw9 : (linesL tx3).length = 3 := by kernel_rfl
/-- A map with one key, as a literal makes it. -/
theorem map_one (w : World) (a b : Bs) (ha : a.length ≤ 1000) (hb : b.length ≤ 1000) : ∃ w', (Instr.mapUpdate 49 (.map (some w.heap.size)) (.string ⟨a.toArray⟩) (.string ⟨b.toArray⟩)).run Tryd.prog (w.alloc (.map #[] 0)) = .ok () w' ∧
    MapS w' w.heap.size 1 (fun z => if z = a then some b else none) ∧ Chg (fun _ => False) w w' := by
  obtain ⟨D, h1, h2, h3⟩ := MapS.made w w.heap.size rfl
  have hbs : (⟨b.toArray⟩ : ByteArray).size ≤ maxLen := by rw [bs_size]; simp only [maxLen]; omega
  obtain ⟨w', hrun, hw', hgr⟩ := h1.update keyed9 Tryd.underlying49 (by decide) (key9 a (by omega)) (plainElem_string Tryd.underlying9 hbs)
  refine ⟨w', hrun, ⟨_, hw', h2.put _ _, fun z => ?_⟩, ?_⟩
  · by_cases hz : z = a
    · subst hz
      simp only [if_true]
      exact ⟨Maps.has_put_same h2 (skey_lit z) _, by rw [Maps.atKey_put_same h2 (skey_lit z) _ _]; simp⟩
    · have hne : skey z ≠ skey a := fun e => hz (skey_inj _ _ e)
      simp only [if_neg hz]
      rw [Maps.has_put_other hne, Maps.atKey_put_other hne]
      exact h3 z
  · have hc : Chg (fun j => j = w.heap.size) (w.alloc (.map #[] 0)) w' := ⟨hgr.os, hgr.tape, hgr.output, hgr.size, fun i hi hne => hgr.block i hi (fun e => hne (by injection e))⟩
    exact ((Chg.refl (fun _ => False) w).alloc (.map #[] 0)).trans hc (fun i hi h => by have : i = w.heap.size := h; omega)
theorem awR1 (w : World) (hl : Lay w) : Calls Tryd.prog 14 #[.string ⟨#[120, 58, 32, 59, 32, 104, 101, 114, 101, 10, 106, 117, 109, 112, 32, 120]⟩] w fun e w' => ∃ b o c, e = .returned (.tuple #[.slice (some ⟨b, o, none⟩) 1 c, .int .i64 0, .int .i64 0]) ∧ Rd (fun k => w.heap.size ≤ k) w' (some ⟨b, o, none⟩) ([⟨15, 0, 0⟩].flatMap insv) ∧ Chg (fun _ => False) w w' :=
  (readAll_any ⟨#[120, 58, 32, 59, 32, 104, 101, 114, 101, 10, 106, 117, 109, 112, 32, 120]⟩ w hl (by decide) (by show (linesL tx1).length ≤ 20000; rw [aw7]; omega)).mono fun e w' h => by
    have h : ReadOut w (readT tx1) e w' := h
    rw [aw1] at h
    obtain ⟨⟨A, c, rfl, hr⟩, hc⟩ := h
    obtain ⟨b, o, rfl, _, _⟩ := hr.flat (by simp [insv])
    exact ⟨b, o, c, rfl, hr, hc⟩
theorem awR2 (w : World) (hl : Lay w) : Calls Tryd.prog 14 #[.string ⟨#[120, 58, 10, 10, 106, 117, 109, 112, 32, 121]⟩] w fun e w' => e = .returned (.tuple #[.slice none 0 0, .int .i64 2, .int .i64 171]) ∧ Chg (fun _ => False) w w' :=
  (readAll_any ⟨#[120, 58, 10, 10, 106, 117, 109, 112, 32, 121]⟩ w hl (by decide) (by show (linesL tx2).length ≤ 20000; rw [aw8]; omega)).mono fun e w' h => by
    have h : ReadOut w (readT tx2) e w' := h
    rw [aw2] at h
    exact h
theorem awS (w : World) (hl : Lay w) (A : Option Addr) (c : Nat) (T : Nat → Prop) (hr : Rd T w A ([⟨15, 0, 0⟩].flatMap insv)) : Calls Tryd.prog 10 #[.slice A 1 c] w fun e w' => e = .returned (.tuple #[.string ⟨#[76, 48, 58, 10, 32, 32, 106, 117, 109, 112, 32, 76, 48, 10]⟩, .int .i64 0]) ∧ Chg (fun _ => False) w w' :=
  (show_any [⟨15, 0, 0⟩] c A T w hr hl aw5 (by rw [aw3]; decide)).mono fun e w' h => by
    rw [aw3] at h
    exact h
theorem awL (w : World) (hl : Lay w) : Calls Tryd.prog 17 #[.string ⟨#[76, 48, 58, 10, 32, 32, 106, 117, 109, 112, 32, 76, 48, 10]⟩] w fun e w' => ∃ b o c B d, e = .returned (.tuple #[.slice (some ⟨b, o, none⟩) 1 c, .slice B 1 d]) ∧ b < w'.heap.size ∧ w'.cell? ⟨b, o, none⟩ = some (.string ⟨#[76, 48]⟩) ∧ Rd (fun k => k < w'.heap.size) w' B ([(0 : Int)].map iv) ∧ Chg (fun _ => False) w w' :=
  (labels_any ⟨#[76, 48, 58, 10, 32, 32, 106, 117, 109, 112, 32, 76, 48, 10]⟩ w hl (by decide)).mono fun e w' h => by
    have h : LabOut w (labs (linesL tx3) (linesL tx3).length) e w' := h
    rw [aw6] at h
    obtain ⟨A, c, B, d, rfl, h1, h2, h3⟩ := h
    obtain ⟨b, o, rfl, hT, hc⟩ := h1.low.flat (by simp)
    exact ⟨b, o, c, B, d, rfl, hT, hc 0 _ rfl, h2.low, h3⟩
theorem awM (w : World) (hl : Lay w) (bm n : Nat) (hm : MapS w bm n (fun z => if z = [76, 48] then some [97] else none)) : Calls Tryd.prog 22 #[.string ⟨#[76, 48, 58, 10, 32, 32, 106, 117, 109, 112, 32, 76, 48, 10]⟩, .map (some bm)] w fun e w' => e = .returned (.string ⟨#[97, 58, 10, 32, 32, 106, 117, 109, 112, 32, 97, 10]⟩) ∧ Chg (fun _ => False) w w' :=
  (rename_any tx3 [76, 48] [97] w hl (by decide) (by rw [aw9]; omega) (by decide) bm n hm).mono fun e w' h => by
    rw [aw4] at h
    exact h
theorem awake_any (w : World) (hl : Lay w) : Calls Tryd.prog 9 #[] w fun e w' => e = .returned (.bool true) ∧ Chg (fun _ => False) w w' := by
  have HLY := hide (fun W (hW : Chg (fun _ => False) w W) => hl.chg hW (fun _ _ => id))
  have HR1 := hide (awR1 w hl)
  clear hl
  go_enter Tryd.func9, Tryd.ntmps9
  go_upto_region 2 with (go_at_call 14; (refine (unhide HR1).mono ?_); rintro e w1 ⟨b1, o1, c1, rfl, hr1, hc1⟩; have HRD := hide hr1; have HC1 := hide hc1; clear hr1 hc1)
  have HSH := hide (awS w1 (unhide HLY _ (unhide HC1)) _ c1 _ (unhide HRD))
  go_upto_region 3 with (go_at_call 10; (with_reducible refine (unhide HSH).mono ?_); rintro e w2 ⟨rfl, hc2⟩; have HC2 := hide ((unhide HC1).trans' hc2); have HRD2 := hide ((unhide HRD).low.chg hc2 (fun _ _ _ => id)); clear hc2)
  have HLA := hide (awL w2 (unhide HLY _ (unhide HC2)))
  go_upto_region 4 with (go_at_call 17; (refine (unhide HLA).mono ?_); rintro e w3 ⟨b3, o3, c3, B3, d3, rfl, hb3, k3, hr3, hc3⟩; have HC3 := hide ((unhide HC2).trans' hc3); have HRD3 := hide ((unhide HRD2).low.chg hc3 (fun _ _ _ => id)); have HB3 := hide hb3; have HK3 := hide k3; have HR3 := hide hr3; clear hc3 hb3 k3 hr3)
  have HR2 := hide (awR2 w3 (unhide HLY _ (unhide HC3)))
  go_upto_region 5 with (go_at_call 14; (with_reducible refine (unhide HR2).mono ?_); rintro e w4 ⟨rfl, hc4⟩; have HC4 := hide ((unhide HC3).trans' hc4); have HRD4 := hide ((unhide HRD3).low.chg hc4 (fun _ _ _ => id)); have HC34 := hide hc4; clear hc4)
  have q3 := (unhide HC34).cell (p := ⟨b3, o3, none⟩) (unhide HB3) id
  rw [unhide HK3] at q3
  have HR4 := hide ((unhide HR3).chg (unhide HC34) (fun _ _ _ => id))
  obtain ⟨b5, o5, e5, h5, c5⟩ := code_at (unhide HRD4) (by simp)
  injection e5 with e5
  injection e5 with e5a e5b
  subst e5a e5b
  obtain ⟨p0, p1, p2⟩ := c5 0 _ rfl
  simp only [Nat.zero_mul, Nat.add_zero] at p0 p1 p2
  clear HR1 HSH HLA HR2 HRD HRD2 HRD3 HRD4 HB3 HK3 HR3 HC34 HC1 HC2 HC3 c5 h5
  have HC5 := hide ((Chg.refl (fun _ => False) w4).alloc (.cells #[.int .i64 0] 3))
  have HROW := hide (show Calls Tryd.prog 21 #[.slice B3 1 d3, .slice (some ⟨w4.heap.size, 0, none⟩) 1 1] (w4.alloc (.cells #[.int .i64 0] 3)) fun e w' => e = .returned (.bool true) ∧ Chg (fun _ => False) (w4.alloc (.cells #[.int .i64 0] 3)) w' from
    refRow_any [(0 : Int)] [(0 : Int)] B3 (some ⟨w4.heap.size, 0, none⟩) d3 1 _ (fun _ => True) _ ((unhide HR4).chg (unhide HC5) (fun _ _ _ => id)) ((rd_new w4 w4.heap.size 3 [iv 0] rfl).mono (fun _ _ => trivial)) (by decide) (by decide))
  have hmm := @run_makeMap Tryd.prog
  go_wp2_with (first
    | (go_at_call 21; (with_reducible refine (unhide HROW).mono ?_); rintro e w6 ⟨rfl, hc6⟩; have HC6 := hide ((unhide HC5).trans' hc6); clear hc6; (obtain ⟨w7, hins, hm7, hc7⟩ := map_one w6 [76, 48] [97] (by decide) (by decide)); have HM7 := hide hm7; have HC7 := hide ((unhide HC6).trans' hc7); clear hm7 hc7)
    | (go_at_call 22; (with_reducible refine (awM w7 (unhide HLY _ ((unhide HC4).trans' (unhide HC7))) _ _ (unhide HM7)).mono ?_); rintro e w8 ⟨rfl, hc8⟩; have HC8 := hide ((unhide HC7).trans' hc8); clear hc8))
  go_ret
  exact ⟨rfl, (unhide HC4).trans' (unhide HC8)⟩
end Go.Proofs.YtgonllogaiiicaaDoor
