/-
  Layer 17: law.go: own, named, uses.
-/
import Derived.Test.YtgonllogaiiicaaDoorWv
namespace Go.Proofs.YtgonllogaiiicaaDoor
open Go.RowKit
set_option maxHeartbeats 4000000
set_option maxRecDepth 100000
theorem insv_ones (l : List Ins) : ∀ u ∈ l.flatMap insv, u.oneCell' = true := by
  intro u hu
  obtain ⟨i, _, hi⟩ := List.mem_flatMap.1 hu
  exact insv_one i u hi
/-- law.own: instructions of their own memory. -/
theorem own_any (l : List Ins) (c : Nat) (A : Option Addr) (T : Nat → Prop) (w : World) (hr : Rd T w A (l.flatMap insv)) (hn : l.length ≤ 1000000) :
    Calls Tryd.prog 11 #[.slice A l.length c] w fun e w' => ∃ B d, e = .returned (.slice B l.length d) ∧ Rd (fun k => w.heap.size ≤ k) w' B (l.flatMap insv) ∧ Chg (fun _ => False) w w' := by
  obtain ⟨i_i, i_hi, i_hz, i_hs, i_hb⟩ := info_parts infoIns
  have ho0 := own_start (base := w.heap.size) (size := 3) (Blk.new w 42 #[]) (Nat.le_refl _)
  have hc0 := (Chg.refl (fun _ => False) w).alloc (.cells #[] 42)
  have HRD := hide (hr.low.chg hc0 (fun _ _ _ => id))
  have HO0 := hide ho0
  have HC0 := hide hc0
  have HL := hide (show (l.flatMap insv).length = l.length * 3 from insv_len l)
  have HON := hide (insv_ones l)
  have hm1 : 0 + l.length ≤ maxLen := by simp only [maxLen]; omega
  have hm2 : (0 + l.length) * 24 ≤ 140737488355328 := by omega
  have hb4 : w.heap.size ≤ (w.alloc (.cells #[] 42)).heap.size := hc0.size
  clear hr ho0 hc0
  go_enter Tryd.func11, Tryd.ntmps11
  go_wp2_with (at_builtin; (refine wpList_append_rd _ rfl (.tmp 3) (.tmp 4) 22 rfl w.heap.size 42 i_i (.agg #[.int .i64 0, .int .i64 0, .int .i64 0]) 3 24 Tryd.underlying22 i_hi i_hz i_hs i_hb rfl (by decide) _ 0 _ rfl (unhide HO0) _ A l.length c (l.flatMap insv) rfl (unhide HL) (unhide HRD) (unhide HON) hm1 hm2 hb4 ?_); intro v5 w5 ho_ hc_ hat_; (have HO5 := hide ho_); (have HC5 := hide ((unhide HC0).trans hc_ (fun i hi e => by have := ((unhide HO0).lt i e).1; omega))); clear ho_ hc_ hat_)
  go_ret
  have hO := unhide HO5
  obtain ⟨B, d, rfl⟩ := own_val hO
  rw [List.nil_append] at hO
  refine ⟨B, d, ?_, (own_rd hO (by decide)).mono (fun k hk => (hO.lt k hk).1), unhide HC5⟩
  rw [Nat.zero_add]
  rfl
theorem doesW_not2 (o : Nat) (s : Bs) (p : Nat) (ws : List (Bs × Nat)) : (doesW o s p ws).kind ≠ 2 := by
  rcases doesW_kind o s p ws with h | h <;> rw [h] <;> decide
theorem readL_two {s : Bs} (h : (readL s).kind = 2) : labelB (readL s).label = true := by
  unfold readL at h ⊢
  generalize wordsL s = ws at *
  unfold readW at h ⊢
  split at h
  · cases h
  · split at h
    · rename_i h58
      rw [if_pos h58]
      split at h
      · rename_i hc
        rw [if_pos hc]
        exact hc.2
      · cases h
    · exfalso
      split at h
      · cases h
      · rename_i o _
        unfold opW at h
        split at h
        · split at h
          · cases h
          · split at h
            · exact doesW_not2 _ _ _ _ h
            · cases h
        · exact doesW_not2 _ _ _ _ h
def namedB (b : Bs) : Bool := ((readL (b ++ [58])).kind == 2) && ((readL (b ++ [58])).label == b)
theorem named_label {b : Bs} (h : namedB b = true) : labelB b = true := by
  unfold namedB at h
  rw [Bool.and_eq_true, beq_iff_eq, beq_iff_eq] at h
  obtain ⟨h1, h2⟩ := h
  rw [← h2]
  exact readL_two h1
/-- law.named: may a word be a label? -/
theorem named_any (b : Bs) (w : World) (hb : b.length ≤ 1000) : Calls Tryd.prog 23 #[.string ⟨b.toArray⟩] w fun e w' => e = .returned (.bool (namedB b)) ∧ Chg (fun _ => False) w w' := by
  have hcat : (⟨b.toArray⟩ : ByteArray) ++ ⟨#[58]⟩ = ⟨(b ++ [58]).toArray⟩ := by
    rw [show (⟨#[58]⟩ : ByteArray) = ⟨[58].toArray⟩ from rfl, ByteArray.mk_append_mk]
  have r1 := fun wx : World => run_string_add_sum (P := Tryd.prog) wx ⟨b.toArray⟩ ⟨#[58]⟩ (by rw [bs_size]; show b.length + 1 ≤ _; omega)
  rw [hcat] at r1
  have HR := hide (fun W => refRead1_any ⟨(b ++ [58]).toArray⟩ W (by rw [bs_size, List.length_append]; show b.length + 1 ≤ _; omega))
  have hd : (ByteArray.data ⟨(b ++ [58]).toArray⟩).toList = b ++ [58] := by simp
  rw [hd] at HR
  clear hd
  have HNB := hide (show namedB b = (((readL (b ++ [58])).kind == 2) && ((readL (b ++ [58])).label == b)) from rfl)
  generalize readL (b ++ [58]) = X at *
  generalize namedB b = NB at *
  unfold lnV at HR
  generalize (⟨(b ++ [58]).toArray⟩ : ByteArray) = BC at *
  clear hcat
  obtain ⟨kd, lb, at_, ii⟩ := X
  simp only at HR HNB
  have hk : ((kd : Int) == 2) = (kd == 2) := by rw [Bool.eq_iff_iff]; simp; omega
  have HE := hide (show NB = (((kd : Int) == 2) && (lb == b)) from by rw [hk]; exact unhide HNB)
  clear hk HNB
  have f0 : ∀ W : World, (Instr.field 44 (.agg #[.int .i64 (kd : Int), .string ⟨lb.toArray⟩, .int .i64 (at_ : Int), .int .i64 ii.op, .int .i64 ii.a, .int .i64 ii.b]) 0).run Tryd.prog W = .ok (.int .i64 (kd : Int)) W := fun W => by kernel_rfl
  have f1 : ∀ W : World, (Instr.field 44 (.agg #[.int .i64 (kd : Int), .string ⟨lb.toArray⟩, .int .i64 (at_ : Int), .int .i64 ii.op, .int .i64 ii.a, .int .i64 ii.b]) 1).run Tryd.prog W = .ok (.string ⟨lb.toArray⟩) W := fun W => by kernel_rfl
  cases hk2 : ((kd : Int) == 2) <;> cases hlb : (lb == b)
  all_goals
    rw [hk2, hlb] at HE
    go_enter Tryd.func23, Tryd.ntmps23
    go_wp2_with (first
      | (go_at_call 19; (with_reducible refine (unhide HR _).mono ?_); rintro e w3 ⟨rfl, hc3⟩; first | (have HC4 := hide ((unhide HC3).trans' hc3); clear hc3) | (have HC3 := hide hc3; clear hc3)))
    go_ret
    refine ⟨by rw [unhide HE]; rfl, ?_⟩
    first | exact unhide HC4 | exact unhide HC3
def usesB (ls : List Ln) (n : Bs) (k : Nat) : Bool := (ls.take k).any fun y => decide (2 ≤ y.kind) && (y.label == n)
theorem usesB_next {ls : List Ln} {n : Bs} {k : Nat} {x : Ln} (h : ls[k]? = some x) : usesB ls n (k + 1) = (usesB ls n k || (decide (2 ≤ x.kind) && (x.label == n))) := by
  unfold usesB
  rw [(ln_split h).2.2.1, List.any_append]
  simp
theorem usesB_found {ls : List Ln} {n : Bs} {x : Ln} (h : x ∈ ls) (h1 : 2 ≤ x.kind) (h2 : (x.label == n) = true) : usesB ls n ls.length = true := by
  unfold usesB
  rw [List.take_length, List.any_eq_true]
  exact ⟨x, h, by rw [h2, decide_eq_true h1]; rfl⟩
theorem uses_none {ls : List Ln} {n : Bs} (h : usesB ls n ls.length = false) : NoneIs n ls := by
  intro x hx h2 e
  rw [usesB_found hx h2 (beq_iff_eq.2 e)] at h
  cases h
/-- law.uses: is a label one of a text's? -/
theorem uses_any (s : ByteArray) (n : Bs) (w : World) (hs : s.size ≤ 100000000) : Calls Tryd.prog 24 #[.string s, .string ⟨n.toArray⟩] w fun e w' =>
    e = .returned (.bool (usesB ((linesL s.data.toList).map readL) n ((linesL s.data.toList).map readL).length)) ∧ Chg (fun _ => False) w w' := by
  have HLI := hide (refLines_any s w hs)
  have HLE := hide (fun x (hx : x ∈ linesL s.data.toList) => show x.length ≤ 100000000 from by
    have h1 := line_len hx
    have h2 : s.data.toList.length = s.size := rfl
    omega)
  have hll : (linesL s.data.toList).length ≤ 100000001 := by
    have h1 := linesA_length s.data.toList []
    have h2 : s.data.toList.length = s.size := rfl
    unfold linesL
    omega
  generalize linesL s.data.toList = LS at *
  obtain ⟨LN, hLN⟩ : ∃ LN, LS.map readL = LN := ⟨_, rfl⟩
  have HAT := hide (fun (k : Nat) (x : Bs) (hx : LS[k]? = some x) => show LN[k]? = some (readL x) from by rw [← hLN, List.getElem?_map, hx]; rfl)
  have HLL := hide (show LN.length = LS.length by rw [← hLN, List.length_map])
  rw [hLN]
  clear hLN hs
  go_enter Tryd.func24, Tryd.ntmps24
  go_wp2_with (go_at_call 18; (refine (unhide HLI).mono ?_); rintro e w2 ⟨A, c, rfl, hr, hc2⟩; have HR := hide hr.low; have HC2 := hide hc2; clear hr hc2)
  go_loopw [6] (fun i wr => ∃ k : Nat, i = .int .i64 (k : Int) ∧ k ≤ LS.length ∧ usesB LN n k = false ∧ Chg (fun _ => False) w2 wr) (fun i _ => LS.length - (intOf i).toNat)
  case atStart => exact ⟨0, rfl, Nat.zero_le _, rfl, Chg.refl _ _⟩
  case round =>
    obtain ⟨wq, rfl⟩ : ∃ wq : World, wq = wr := ⟨_, rfl⟩
    obtain ⟨k, rfl, hk, hno, hch⟩ := hrel
    have HNO := hide hno
    have HCH := hide hch
    by_cases hlt : k < LS.length
    · have hki : (k : Int) < (LS.length : Int) := by omega
      have hx := List.getElem?_eq_getElem hlt
      generalize LS[k] = x at *
      have hxl := (unhide HLE) x (List.mem_of_getElem? hx)
      have hln2 := (unhide HAT) k x hx
      obtain ⟨b1, o1, rfl, _, h1⟩ := map_at ((unhide HR).chg hch (fun _ _ _ => id)) (by rintro rfl; simp at hlt)
      have k1 := h1 k hlt
      rw [show LS[k] = x from (List.getElem?_eq_some_iff.1 hx).2] at k1
      simp only [bv] at k1
      have HRE := hide (refRead1_any ⟨x.toArray⟩ wq (by show x.toArray.size ≤ _; rw [List.size_toArray]; exact hxl))
      have hd : (ByteArray.data ⟨x.toArray⟩).toList = x := by simp
      rw [hd] at HRE
      have HNX := hide (usesB_next (n := n) hln2)
      have HFD := hide (fun h1 h2 => usesB_found (n := n) (List.mem_of_getElem? hln2) h1 h2)
      generalize readL x = X at *
      unfold lnV at HRE
      obtain ⟨kd, lb, at_, ii⟩ := X
      simp only at HRE HNX HFD
      clear hno hch hx hxl hln2 h1 hd
      go_upto_region 6 with (go_at_call 19; (with_reducible refine (unhide HRE).mono ?_); rintro e w3 ⟨rfl, hc3⟩; have HC3 := hide ((unhide HCH).trans' hc3); clear hc3)
      by_cases hk2 : 2 ≤ kd
      · have e2 : (2 : Int) ≤ (kd : Int) := by omega
        cases hlb : (lb == n) with
        | true =>
          have HE := hide (unhide HFD hk2 hlb)
          clear hk2
          go_wp2_with fail
          go_ret
          rw [unhide HE]
          exact ⟨rfl, ((unhide HC2).trans' (unhide HC3)).alloc _⟩
        | false =>
          have HE := hide (show usesB LN n (k + 1) = false by rw [unhide HNX, unhide HNO, hlb]; simp)
          clear hk2
          go_wp2_with fail
          go_roundw
          case rel => exact ⟨k + 1, by go_num, by omega, unhide HE, (unhide HC3).alloc _⟩
          case measure => simp [intOf]; omega
      · have e2 : ¬ (2 : Int) ≤ (kd : Int) := by omega
        have HE := hide (show usesB LN n (k + 1) = false by rw [unhide HNX, unhide HNO, decide_eq_false hk2]; rfl)
        clear hk2
        go_wp2_with fail
        go_roundw
        case rel => exact ⟨k + 1, by go_num, by omega, unhide HE, (unhide HC3).alloc _⟩
        case measure => simp [intOf]; omega
    · obtain rfl : k = LS.length := by omega
      have HE := hide (show usesB LN n LN.length = false by rw [unhide HLL]; exact hno)
      have HCF := hide ((unhide HC2).trans' hch)
      clear hno hch
      go_wp2_with fail
      go_ret
      rw [unhide HE]
      exact ⟨rfl, unhide HCF⟩
end Go.Proofs.YtgonllogaiiicaaDoor
