/-
  Walks of the document's small functions: Need, in, refs, Same, SameCells.
-/
import Derived.Test.YtlgkgglecgdkgaaPlayA
import Derived.BigQuiet
namespace Go.Proofs.Ytlgkgglecgdkgaa
open Go.RowKit
set_option maxHeartbeats 400000
set_option maxRecDepth 100000

theorem cell_old {w w' : World} {b o : Nat} {v : Value} (h : w.cell? ⟨b, o, none⟩ = some v) (hc : Chg (fun _ => False) w w') : w'.cell? ⟨b, o, none⟩ = some v := by
  rw [hc.cell (block_lt_of_cell h) id]; exact h
def RefsT (T : Nat → Prop) (w : World) (v : Value) (l : List Rf) : Prop := ∃ A c, v = .slice A l.length c ∧ Rd T w A (l.flatMap rfv)
def oev (p : Value × ObjM) : List Value := [.int .i64 p.2.kind, .int .i64 p.2.tag, .string p.2.text, p.1]
/-- The slice that begins at A has these things. -/
def RdObjs (T : Nat → Prop) (w : World) (A : Option Addr) (l : List ObjM) : Prop :=
  ∃ fin : List (Value × ObjM), fin.map (·.2) = l ∧ Rd T w A (fin.flatMap oev) ∧ ∀ p ∈ fin, RefsT T w p.1 p.2.parts

section
variable {T T' S : Nat → Prop} {w w' : World}
theorem RefsT.chg {v : Value} {l : List Rf} (h : RefsT T w v l) (hc : Chg S w w') (hT : ∀ b, T b → b < w.heap.size → ¬ S b) : RefsT T w' v l := by
  obtain ⟨A, c, e, h⟩ := h
  exact ⟨A, c, e, h.chg hc hT⟩
theorem RefsT.mono {v : Value} {l : List Rf} (h : RefsT T w v l) (hT : ∀ b, T b → T' b) : RefsT T' w v l := by
  obtain ⟨A, c, e, h⟩ := h
  exact ⟨A, c, e, h.mono hT⟩
theorem RdObjs.chg {A : Option Addr} {l : List ObjM} (h : RdObjs T w A l) (hc : Chg S w w') (hT : ∀ b, T b → b < w.heap.size → ¬ S b) : RdObjs T w' A l := by
  obtain ⟨fin, e, h1, h2⟩ := h
  exact ⟨fin, e, h1.chg hc hT, fun p hp => (h2 p hp).chg hc hT⟩
theorem RdObjs.mono {A : Option Addr} {l : List ObjM} (h : RdObjs T w A l) (hT : ∀ b, T b → T' b) : RdObjs T' w A l := by
  obtain ⟨fin, e, h1, h2⟩ := h
  exact ⟨fin, e, h1.mono hT, fun p hp => (h2 p hp).mono hT⟩
/-- What a row of things has at i. -/
structure ObjAt (T : Nat → Prop) (w : World) (b o i : Nat) (x : ObjM) (v : Value) : Prop where
  c0 : w.cell? ⟨b, o + i * 4, none⟩ = some (.int .i64 x.kind)
  c1 : w.cell? ⟨b, o + i * 4 + 1, none⟩ = some (.int .i64 x.tag)
  c2 : w.cell? ⟨b, o + i * 4 + 2, none⟩ = some (.string x.text)
  c3 : w.cell? ⟨b, o + i * 4 + 3, none⟩ = some v
  ps : RefsT T w v x.parts
theorem RdObjs.flat {A : Option Addr} {l : List ObjM} (h : RdObjs T w A l) (hn : l ≠ []) : ∃ b o, A = some ⟨b, o, none⟩ ∧ T b ∧ ∀ i x, l[i]? = some x → ∃ v, ObjAt T w b o i x v := by
  obtain ⟨fin, rfl, h2, h3⟩ := h
  obtain ⟨b, o, hA, hT, hc⟩ := h2.flat (by
    intro e
    rcases fin with _ | ⟨x, l⟩
    · exact hn rfl
    · simp [oev] at e)
  refine ⟨b, o, hA, hT, fun i a ha => ?_⟩
  rw [List.getElem?_map] at ha
  obtain ⟨p, hp, rfl⟩ := Option.map_eq_some_iff.1 ha
  have hg := fun j (hj : j < 4) => flat_get oev 4 (fun _ => rfl) fin i j p hp hj
  have hcell : ∀ j v, j < 4 → (oev p)[j]? = some v → w.cell? ⟨b, o + i * 4 + j, none⟩ = some v := fun j v hj hv => by
    rw [Nat.add_assoc]
    exact hc _ _ ((hg j hj).trans hv)
  exact ⟨p.1, hcell 0 _ (by omega) rfl, hcell 1 _ (by omega) rfl, hcell 2 _ (by omega) rfl, hcell 3 _ (by omega) rfl, h3 p (List.mem_of_getElem? hp)⟩
theorem refs_flat {A : Option Addr} {l : List Rf} (h : Rd T w A (l.flatMap rfv)) (hn : l ≠ []) : ∃ b o, A = some ⟨b, o, none⟩ ∧ T b ∧ ∀ i r, l[i]? = some r → w.cell? ⟨b, o + i * 2, none⟩ = some (.bool r.1) ∧ w.cell? ⟨b, o + i * 2 + 1, none⟩ = some (.int .i64 r.2) := by
  obtain ⟨b, o, hA, hT, hc⟩ := h.flat (by
    intro e
    rcases l with _ | ⟨x, l⟩
    · exact hn rfl
    · simp [rfv] at e)
  refine ⟨b, o, hA, hT, fun i r hr => ?_⟩
  have h0 := flat_get rfv 2 (fun _ => rfl) l i 0 r hr (by omega)
  have h1 := flat_get rfv 2 (fun _ => rfl) l i 1 r hr (by omega)
  exact ⟨hc _ _ h0, by rw [Nat.add_assoc]; exact hc _ _ h1⟩
theorem cells_objs {v : Value} {cs : List CellM} (h : RdCells w v cs) : ∃ A c, v = .slice A (cs.map CellM.obj).length c ∧ RdObjs (fun _ => True) w A (cs.map CellM.obj) := by
  obtain ⟨A, c, fin, e, hf, hr, hp⟩ := h
  refine ⟨A, c, by rw [List.length_map]; exact e, fin.map (fun p => (p.1, p.2.obj)), ?_, ?_, ?_⟩
  · rw [← hf]; simp
  · rw [List.flatMap_map]
    exact hr
  · intro p hp2
    obtain ⟨q, hq, rfl⟩ := List.mem_map.1 hp2
    exact hp q hq
end

theorem need_o (o : ObjM) (A : Option Addr) (c : Nat) (w : World) (h1 : o.text.size ≤ 1048576) (h2 : o.parts.length ≤ 1048576) :
    Calls Try.prog 12 #[.agg #[.int .i64 o.kind, .int .i64 o.tag, .string o.text, .slice A o.parts.length c]] w fun e w' => e = .returned (.int .i64 (needO o : Nat)) ∧ Chg (fun _ => False) w w' := by
  have hn : (needO o : Int) = if o.kind = 4 then (1 : Int) + ((o.text.size : Int) + 7) / 8 else 1 + (o.parts.length : Int) := by
    unfold needO
    split <;> omega
  generalize needO o = N at *
  generalize o.parts.length = n at *
  by_cases h4 : o.kind = 4
  · rw [if_pos h4] at hn
    have h5 : (o.kind == 4) = true := by rw [h4]; rfl
    go_enter Try.func12, Try.ntmps12
    go_wp2_with fail
    go_ret
    refine ⟨retv (intv ?_), by repeat (first | exact Chg.refl _ _ | refine Chg.alloc ?_ _)⟩
    rw [hn]
  · rw [if_neg h4] at hn
    have h5 : (o.kind == 4) = false := by rw [beq_eq_false_iff_ne]; exact h4
    go_enter Try.func12, Try.ntmps12
    go_wp2_with fail
    go_ret
    exact ⟨retv (intv hn.symm), by repeat (first | exact Chg.refl _ _ | refine Chg.alloc ?_ _)⟩

theorem inL_found {l : List Int} {n : Int} {j : Nat} (h : l[j]? = some n) (hb : ∀ k, k < j → l[k]? ≠ some n) : inL l n = j := by
  have : l.idxOf? n = some j := by
    simp only [List.idxOf?, List.findIdx?_eq_some_iff_getElem]
    obtain ⟨hlt, he⟩ := List.getElem?_eq_some_iff.1 h
    refine ⟨hlt, by simpa using he, fun k hk => ?_⟩
    have := hb k hk
    rw [List.getElem?_eq_getElem (by omega)] at this
    simpa using this
  unfold inL
  rw [this]
theorem inL_none {l : List Int} {n : Int} (hb : ∀ k, k < l.length → l[k]? ≠ some n) : inL l n = -1 := by
  unfold inL
  rw [idx_not]
  intro hm
  obtain ⟨k, hk, e⟩ := List.getElem_of_mem hm
  exact hb k hk (by rw [List.getElem?_eq_getElem hk, e])

theorem in_any (l : List Int) (n : Int) (A : Option Addr) (c : Nat) (T : Nat → Prop) (w : World) (h : Rd T w A (l.map intl)) (hl : l.length ≤ 1048576) :
    Calls Try.prog 44 #[.slice A l.length c, .int .i64 n] w fun e w' => e = .returned (.int .i64 (inL l n)) ∧ w = w' := by
  have Hh := hide h
  clear h
  go_enter Try.func44, Try.ntmps44
  go_wp2_with fail
  go_loop [5] (fun i => ∃ j : Nat, j ≤ l.length ∧ i = .int .i64 j ∧ ∀ k, k < j → l[k]? ≠ some n) (fun i => l.length - (intOf i).toNat)
  case atStart => exact ⟨0, Nat.zero_le _, rfl, fun k hk => absurd hk (by omega)⟩
  case round =>
    obtain ⟨j, hj, rfl, hall⟩ := hrel
    have Hall := hide hall
    clear hall
    by_cases hlt : j < l.length
    · have hget : (l.map intl)[j]? = some (intl l[j]) := by rw [List.getElem?_map, List.getElem?_eq_getElem hlt]; rfl
      have hge : l[j]? = some l[j] := List.getElem?_eq_getElem hlt
      obtain ⟨b, o, rfl, _, hc⟩ := (unhide Hh).flat (by intro e; have := congrArg List.length e; rw [List.length_map, List.length_nil] at this; omega)
      have hc0 := hc j _ hget
      generalize l[j] = y at *
      unfold intl at hc0
      have HG := hide hge
      clear hc hget hge
      by_cases he : y = n
      · subst he
        have hd : (y == y) = true := by simp
        go_wp2_with fail
        go_ret
        exact ⟨retv (intv (inL_found (unhide HG) (unhide Hall)).symm), rfl⟩
      · have hd : (y == n) = false := by rw [beq_eq_false_iff_ne]; exact he
        go_wp2_with fail
        go_round
        case rel => exact ⟨j + 1, by omega, by go_num, fun k hk => by
          rcases Nat.lt_or_ge k j with h1 | h1
          · exact (unhide Hall) k h1
          · obtain rfl : k = j := by omega
            rw [unhide HG]
            intro e
            injection e with e
            exact he e⟩
        case measure => simp [intOf]; omega
    · obtain rfl : j = l.length := by omega
      go_wp2_with fail
      go_ret
      exact ⟨retv (intv (inL_none (unhide Hall)).symm), rfl⟩

theorem same_true (l : List Rf) (A B : Option Addr) (c d : Nat) (T T' : Nat → Prop) (w : World) (h : Rd T w A (l.flatMap rfv)) (h' : Rd T' w B (l.flatMap rfv)) (hl : l.length ≤ 1048576) :
    Calls Try.prog 26 #[.slice A l.length c, .slice B l.length d] w fun e w' => e = .returned (.bool true) ∧ ∃ n, w' = w.drewN n := by
  have Hh := hide h
  have Hh' := hide h'
  clear h h'
  go_enter Try.func26, Try.ntmps26
  go_wp2_with fail
  go_loopw [5] (fun i wr => ∃ j n : Nat, j ≤ l.length ∧ i = .int .i64 j ∧ wr = w.drewN n) (fun i _ => l.length - (intOf i).toNat)
  case atStart => exact ⟨0, 0, Nat.zero_le _, rfl, rfl⟩
  case round =>
    obtain ⟨j, n, hj, rfl, hw⟩ := hrel
    have hcw : ∀ p, wr.cell? p = w.cell? p := fun p => by rw [hw]; rfl
    have HW := hide hw
    clear hw
    by_cases hlt : j < l.length
    · have hge : l[j]? = some l[j] := List.getElem?_eq_getElem hlt
      have hne : l ≠ [] := by rintro rfl; simp at hlt
      obtain ⟨b, o, rfl, _, hc⟩ := refs_flat (unhide Hh) hne
      obtain ⟨b', o', rfl, _, hc'⟩ := refs_flat (unhide Hh') hne
      obtain ⟨q0, q1⟩ := hc j _ hge
      obtain ⟨q2, q3⟩ := hc' j _ hge
      rw [← hcw] at q0 q1 q2 q3
      generalize l[j] = r at *
      obtain ⟨r1, r2⟩ := r
      dsimp only at q0 q1 q2 q3
      clear hc hc' hge hcw
      go_wp2_with fail
      go_quiet (fail)
      go_wp2_with fail
      go_roundw
      case rel => exact ⟨j + 1, n + nq, by omega, by go_num, by rw [unhide HW, World.drewN_drewN]⟩
      case measure => simp [intOf]; omega
    · obtain rfl : j = l.length := by omega
      clear hcw
      go_wp2_with fail
      go_ret
      exact ⟨rfl, n, unhide HW⟩

theorem sameCells_true (l : List ObjM) (A B : Option Addr) (c d : Nat) (T T' : Nat → Prop) (w : World) (h : RdObjs T w A l) (h' : RdObjs T' w B l) (hl : l.length ≤ 1048576) (hp : ∀ x ∈ l, x.parts.length ≤ 1048576) :
    Calls Try.prog 27 #[.slice A l.length c, .slice B l.length d] w fun e w' => e = .returned (.bool true) ∧ ∃ n, w' = w.drewN n := by
  have Hh := hide h
  have Hh' := hide h'
  have HP := hide hp
  clear h h' hp
  go_enter Try.func27, Try.ntmps27
  go_wp2_with fail
  go_loopw [5] (fun i wr => ∃ j n : Nat, j ≤ l.length ∧ i = .int .i64 j ∧ wr = w.drewN n) (fun i _ => l.length - (intOf i).toNat)
  case atStart => exact ⟨0, 0, Nat.zero_le _, rfl, rfl⟩
  case round =>
    obtain ⟨j, n, hj, rfl, hw⟩ := hrel
    have hcw : ∀ p, wr.cell? p = w.cell? p := fun p => by rw [hw]; rfl
    have HW := hide hw
    by_cases hlt : j < l.length
    · have hge : l[j]? = some l[j] := List.getElem?_eq_getElem hlt
      have hne : l ≠ [] := by rintro rfl; simp at hlt
      obtain ⟨b, o, rfl, _, hc⟩ := (unhide Hh).flat hne
      obtain ⟨b', o', rfl, _, hc'⟩ := (unhide Hh').flat hne
      obtain ⟨v, q0, q1, q2, q3, ⟨Ap, cp, rfl, hps⟩⟩ := hc j _ hge
      obtain ⟨v', q4, q5, q6, q7, ⟨Bp, dp, rfl, hps'⟩⟩ := hc' j _ hge
      rw [← hcw] at q0 q1 q2 q3 q4 q5 q6 q7
      have hpl := unhide HP _ (List.getElem_mem hlt)
      have hs := hide (fun n => same_true l[j].parts Ap Bp cp dp T T' (wr.drewN n) (by rw [hw]; exact hps) (by rw [hw]; exact hps') hpl)
      generalize l[j] = x at *
      obtain ⟨xk, xt, xx, xp⟩ := x
      dsimp only at q0 q1 q2 q3 q4 q5 q6 q7 hs
      clear hc hc' hge hcw hw hps hps'
      go_wp2_with fail
      go_quiet ((go_at_call 26; exact Calls.quiet_of (unhide hs _)))
      go_wp2_with fail
      go_roundw
      case rel => exact ⟨j + 1, n + nq, by omega, by go_num, by rw [unhide HW, World.drewN_drewN]⟩
      case measure => simp [intOf]; omega
    · obtain rfl : j = l.length := by omega
      clear hcw hw
      go_wp2_with fail
      go_ret
      exact ⟨rfl, n, unhide HW⟩

theorem refs_any (l : List Int) (rs : List Rf) (A B : Option Addr) (c d : Nat) (T T' : Nat → Prop) (w : World) (h : Rd T w A (l.map intl)) (h' : Rd T' w B (rs.flatMap rfv)) (hl : l.length ≤ 1048576) (hrl : rs.length ≤ 1048576) :
    Calls Try.prog 42 #[.slice A l.length c, .slice B rs.length d] w fun e w' => ∃ A' c', e = .returned (.slice A' rs.length c') ∧ Rd (fun k => w.heap.size ≤ k) w' A' ((rs.map (refR l)).flatMap rfv) ∧ Chg (fun _ => False) w w' := by
  obtain ⟨i0, hi0, hz0, hz1, hz2⟩ := info_parts info51
  have Hh := hide h
  have Hh' := hide h'
  clear h h'
  go_enter Try.func42, Try.ntmps42
  go_wp2_with fail
  go_loopw [5, 6] (fun v i wr => ∃ j : Nat, j ≤ rs.length ∧ i = .int .i64 j ∧ wr.ownsRow w.heap.size 51 2 v j (((rs.take j).map (refR l)).flatMap rfv) ∧ Chg (fun _ => False) w wr) (fun _ i _ => rs.length - (intOf i).toNat)
  case atStart => exact ⟨0, Nat.zero_le _, rfl, by simpa using World.ownsRow_made w #[] 0 (Nat.le_refl _) (Nat.zero_le _) rfl, (Chg.refl _ w).alloc _⟩
  case round =>
    obtain ⟨wq, rfl⟩ : ∃ wq : World, wq = wr := ⟨_, rfl⟩
    obtain ⟨j, hj, rfl, hown, hchg⟩ := hrel
    obtain ⟨Ap, cp, rfl⟩ := own_val hown
    have hsz := hchg.size
    by_cases hlt : j < rs.length
    · have hge : rs[j]? = some rs[j] := List.getElem?_eq_getElem hlt
      have htake : rs.take (j + 1) = rs.take j ++ [rs[j]] := by rw [List.take_add_one, List.getElem?_eq_getElem hlt]; rfl
      obtain ⟨b, o, rfl, _, hc⟩ := refs_flat ((unhide Hh').chg hchg (fun _ _ _ => id)) (by rintro rfl; simp at hlt)
      obtain ⟨q0, q1⟩ := hc j _ hge
      generalize rs[j] = r at *
      obtain ⟨r1, r2⟩ := r
      dsimp only at q0 q1
      have HTK := hide htake
      cases r1 with
      | true =>
        have HOW := hide hown
        have HCH := hide hchg
        clear hc hge htake hown hchg
        go_wp2_with (at_builtin
                     refine wpList_append_rd _ rfl (.tmp 27) (.tmp 29) 33 rfl w.heap.size 51 i0 _ 2 16 Try.underlying33 hi0 hz0 hz1 hz2 rfl (by omega) (.slice Ap j cp) j _ rfl (((unhide HOW).alloc _).alloc _) (· = wq.heap.size + 1) (some ⟨wq.heap.size + 1, 0, none⟩) 1 1 (rfv (true, r2)) rfl rfl (rd_new _ _ 51 (rfv (true, r2)) (by simp)) (by intro u hu; simp [rfv] at hu; rcases hu with rfl | rfl <;> rfl) (by simp only [maxLen]; omega) (by omega) (by simp; omega) ?_
                     intro v3 w3 ho3 hc3 hat
                     have HO3 := hide ho3
                     have HC3 := hide hc3
                     clear ho3 hc3 hat)
        go_roundw
        case rel =>
          refine ⟨j + 1, by omega, by go_num, ?_, ?_⟩
          · have := unhide HO3
            rw [unhide HTK, List.map_append, List.flatMap_append]
            simpa [refR] using this
          · exact (((unhide HCH).alloc _).alloc _).trans (unhide HC3) (fun i hi hs => by have := ((unhide HOW).lt i hs).1; omega)
        case measure => simp [intOf]; omega
      | false =>
        have hL := ((unhide Hh).chg hchg (fun _ _ _ => id)).chg ((Chg.refl (fun _ => False) wq).alloc (.cells #[.bool false, .int .i64 r2] 51)) (fun _ _ _ => id)
        have HI := hide (in_any l r2 A c T (wq.alloc (.cells #[.bool false, .int .i64 r2] 51)) hL hl)
        have hrf : refR l (false, r2) = (false, inL l r2) := rfl
        have HRF := hide hrf
        have HOW := hide hown
        have HCH := hide hchg
        generalize inL l r2 = R at *
        clear hc hge htake hown hchg hL hrf
        go_wp2_with (first
          | (go_at_call 44; refine (unhide HI).mono ?_; rintro e w' ⟨rfl, rfl⟩)
          | (at_builtin
             refine wpList_append_rd _ rfl (.tmp 27) (.tmp 29) 33 rfl w.heap.size 51 i0 _ 2 16 Try.underlying33 hi0 hz0 hz1 hz2 rfl (by omega) (.slice Ap j cp) j _ rfl (((unhide HOW).alloc _).alloc _) (· = wq.heap.size + 1) (some ⟨wq.heap.size + 1, 0, none⟩) 1 1 (rfv (false, R)) rfl rfl (rd_new _ _ 51 (rfv (false, R)) (by simp)) (by intro u hu; simp [rfv] at hu; rcases hu with rfl | rfl <;> rfl) (by simp only [maxLen]; omega) (by omega) (by simp; omega) ?_
             intro v3 w3 ho3 hc3 hat
             have HO3 := hide ho3
             have HC3 := hide hc3
             clear ho3 hc3 hat))
        go_roundw
        case rel =>
          refine ⟨j + 1, by omega, by go_num, ?_, ?_⟩
          · have := unhide HO3
            rw [unhide HTK, List.map_append, List.flatMap_append, List.map_cons, unhide HRF]
            simpa using this
          · exact (((unhide HCH).alloc _).alloc _).trans (unhide HC3) (fun i hi hs => by have := ((unhide HOW).lt i hs).1; omega)
        case measure => simp [intOf]; omega
    · obtain rfl : j = rs.length := by omega
      rw [List.take_length] at hown
      have HOW := hide hown
      have HCH := hide hchg
      clear hown hchg
      go_wp2_with fail
      go_ret
      exact ⟨Ap, cp, rfl, (own_rd (unhide HOW) (by omega)).mono (fun k hk => ((unhide HOW).lt k hk).1), unhide HCH⟩
end Go.Proofs.Ytlgkgglecgdkgaa
