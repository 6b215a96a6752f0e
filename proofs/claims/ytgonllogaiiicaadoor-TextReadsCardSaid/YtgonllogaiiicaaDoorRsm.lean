/-
  Layer 17, the document's side: are two rows the same?
-/
import Derived.Test.YtgonllogaiiicaaDoorRw
import Derived.Test.YtgonllogaiiicaaDoorWb
import Derived.Deep.QuietTactic
import Derived.BigQuiet
namespace Go.Proofs.YtgonllogaiiicaaDoor
open Go.RowKit
set_option maxHeartbeats 2000000
set_option maxRecDepth 100000
theorem take_beqA {α : Type} [BEq α] [LawfulBEq α] {l k : List α} {n : Nat} (hl : n < l.length) (hk : n < k.length) : ((l.take (n + 1)) == (k.take (n + 1))) = ((l.take n == k.take n) && (l[n] == k[n])) := by
  rw [List.take_succ_eq_append_getElem hl, List.take_succ_eq_append_getElem hk]
  have h1 : (l.take n).length = n := by rw [List.length_take]; omega
  have h2 : (k.take n).length = n := by rw [List.length_take]; omega
  rw [Bool.eq_iff_iff]
  simp only [beq_iff_eq, Bool.and_eq_true]
  constructor
  · intro h
    have h3 := List.append_inj h (by rw [h1, h2])
    exact ⟨h3.1, by simpa using h3.2⟩
  · rintro ⟨h3, h4⟩
    rw [h3, h4]
theorem beq_take_falseA {α : Type} [BEq α] [LawfulBEq α] {l k : List α} {n : Nat} (h : (l.take n == k.take n) = false) : (l == k) = false := by
  cases hb : (l == k) with
  | false => rfl
  | true => rw [beq_iff_eq] at hb; subst hb; rw [beq_self_eq_true] at h; cases h
theorem beq_lensA {α : Type} [BEq α] [LawfulBEq α] {l k : List α} (h : l.length ≠ k.length) : (l == k) = false := by
  rw [beq_eq_false_iff_ne]
  rintro rfl
  exact h rfl
def iv (n : Int) : Value := .int .i64 n
theorem map_at {α : Type} {f : α → Value} {T : Nat → Prop} {w : World} {A : Option Addr} {l : List α} (h : Rd T w A (l.map f)) (hn : l ≠ []) : ∃ b o, A = some ⟨b, o, none⟩ ∧ T b ∧ ∀ (j : Nat) (hj : j < l.length), w.cell? ⟨b, o + j, none⟩ = some (f l[j]) := by
  obtain ⟨b, o, rfl, hT, hc⟩ := h.flat (by simpa using hn)
  exact ⟨b, o, rfl, hT, fun j hj => hc j _ (by rw [List.getElem?_map, List.getElem?_eq_getElem hj]; rfl)⟩
theorem refRow_any (l k : List Int) (A B : Option Addr) (c d : Nat) (T T' : Nat → Prop) (w : World) (hv : Rd T w A (l.map iv)) (hu : Rd T' w B (k.map iv)) (hl : l.length ≤ 1000000) (hk : k.length ≤ 1000000) :
    Calls Tryd.prog 21 #[.slice A l.length c, .slice B k.length d] w fun e w' => e = .returned (.bool (l == k)) ∧ Chg (fun _ => False) w w' := by
  by_cases hlen : l.length = k.length
  · have hne : ((l.length : Int) != (k.length : Int)) = false := by rw [hlen]; simp
    have HV := hide hv
    have HU := hide hu
    have HLEN := hide hlen
    clear hv hu hlen
    go_enter Tryd.func21, Tryd.ntmps21
    go_wp2_with fail
    go_loopw [5] (fun i wr => ∃ n : Nat, i = .int .i64 n ∧ n ≤ l.length ∧ (l.take n == k.take n) = true ∧ Chg (fun _ => False) w wr) (fun i _ => l.length - (intOf i).toNat)
    case atStart => exact ⟨0, rfl, Nat.zero_le _, by simp, Chg.refl _ _⟩
    case round =>
      obtain ⟨wq, rfl⟩ : ∃ wq : World, wq = wr := ⟨_, rfl⟩
      obtain ⟨n, rfl, hn, heq, hch⟩ := hrel
      have HEQ := hide heq
      have HCH := hide hch
      clear heq
      by_cases hlt : n < l.length
      · have hlk : n < k.length := by have := unhide HLEN; omega
        obtain ⟨b, o, rfl, _, h1⟩ := map_at ((unhide HV).chg hch (fun _ _ _ => id)) (by rintro rfl; simp at hlt)
        obtain ⟨b2, o2, rfl, _, h2⟩ := map_at ((unhide HU).chg hch (fun _ _ _ => id)) (by rintro rfl; simp at hlk)
        have q1 := h1 n hlt
        have q2 := h2 n hlk
        simp only [iv] at q1 q2
        have HT := hide (take_beqA hlt hlk)
        have HTF := hide (fun h => beq_take_falseA (l := l) (k := k) (n := n + 1) h)
        clear h1 h2 hch
        generalize l[n] = x at *
        generalize k[n] = y at *
        have t1 : (n : Int) < (l.length : Int) := by omega
        have t2 : (n : Int) < (k.length : Int) := by omega
        cases hxy : (x == y) with
        | true =>
          rw [hxy] at HT
          have HT2 := hide (show ((l.take (n + 1)) == (k.take (n + 1))) = true by rw [unhide HT, unhide HEQ]; rfl)
          clear HT
          have hxn : (x != y) = false := by rw [bne, hxy]; rfl
          clear hxy
          go_wp2_with fail
          go_quiet (fail)
          go_wp2_with fail
          go_roundw
          case rel => exact ⟨n + 1, by go_num, by omega, unhide HT2, (unhide HCH).drewN _⟩
          case measure => simp [intOf]; omega
        | false =>
          rw [hxy] at HT
          have HT2 := hide ((unhide HTF) (by rw [unhide HT, Bool.and_false]))
          clear HT
          have hxn : (x != y) = true := by rw [bne, hxy]; rfl
          clear hxy
          go_wp2_with fail
          go_quiet (fail)
          go_wp2_with fail
          go_ret
          exact ⟨retv (boolv (unhide HT2).symm), (unhide HCH).drewN _⟩
      · obtain rfl : n = l.length := by omega
        have HF := hide (show (l == k) = true by have := unhide HEQ; rw [List.take_length, unhide HLEN, List.take_length] at this; exact this)
        clear hch
        go_wp2_with fail
        go_ret
        exact ⟨retv (boolv (unhide HF).symm), unhide HCH⟩
  · have hne : ((l.length : Int) != (k.length : Int)) = true := by rw [bne_iff_ne]; omega
    have HE := hide (beq_lensA hlen)
    clear hv hu hlen
    go_enter Tryd.func21, Tryd.ntmps21
    go_wp2_with fail
    go_ret
    exact ⟨retv (boolv (unhide HE).symm), Chg.refl _ _⟩
theorem refSameS_any (l k : List Bs) (A B : Option Addr) (c d : Nat) (T T' : Nat → Prop) (w : World) (hv : Rd T w A (l.map bv)) (hu : Rd T' w B (k.map bv)) (hl : l.length ≤ 1000000) (hk : k.length ≤ 1000000) :
    Calls Tryd.prog 20 #[.slice A l.length c, .slice B k.length d] w fun e w' => e = .returned (.bool (l == k)) ∧ Chg (fun _ => False) w w' := by
  by_cases hlen : l.length = k.length
  · have hne : ((l.length : Int) != (k.length : Int)) = false := by rw [hlen]; simp
    have HV := hide hv
    have HU := hide hu
    have HLEN := hide hlen
    clear hv hu hlen
    go_enter Tryd.func20, Tryd.ntmps20
    go_wp2_with fail
    go_loopw [5] (fun i wr => ∃ n : Nat, i = .int .i64 n ∧ n ≤ l.length ∧ (l.take n == k.take n) = true ∧ Chg (fun _ => False) w wr) (fun i _ => l.length - (intOf i).toNat)
    case atStart => exact ⟨0, rfl, Nat.zero_le _, by simp, Chg.refl _ _⟩
    case round =>
      obtain ⟨wq, rfl⟩ : ∃ wq : World, wq = wr := ⟨_, rfl⟩
      obtain ⟨n, rfl, hn, heq, hch⟩ := hrel
      have HEQ := hide heq
      have HCH := hide hch
      clear heq
      by_cases hlt : n < l.length
      · have hlk : n < k.length := by have := unhide HLEN; omega
        obtain ⟨b, o, rfl, _, h1⟩ := map_at ((unhide HV).chg hch (fun _ _ _ => id)) (by rintro rfl; simp at hlt)
        obtain ⟨b2, o2, rfl, _, h2⟩ := map_at ((unhide HU).chg hch (fun _ _ _ => id)) (by rintro rfl; simp at hlk)
        have q1 := h1 n hlt
        have q2 := h2 n hlk
        simp only [bv] at q1 q2
        have HT := hide (take_beqA hlt hlk)
        have HTF := hide (fun h => beq_take_falseA (l := l) (k := k) (n := n + 1) h)
        clear h1 h2 hch
        generalize l[n] = x at *
        generalize k[n] = y at *
        have t1 : (n : Int) < (l.length : Int) := by omega
        have t2 : (n : Int) < (k.length : Int) := by omega
        cases hxy : (x == y) with
        | true =>
          rw [hxy] at HT
          have HT2 := hide (show ((l.take (n + 1)) == (k.take (n + 1))) = true by rw [unhide HT, unhide HEQ]; rfl)
          clear HT
          obtain rfl : x = y := beq_iff_eq.1 hxy
          clear hxy
          go_wp2_with fail
          go_quiet (fail)
          go_wp2_with fail
          go_roundw
          case rel => exact ⟨n + 1, by go_num, by omega, unhide HT2, (unhide HCH).drewN _⟩
          case measure => simp [intOf]; omega
        | false =>
          rw [hxy] at HT
          have HT2 := hide ((unhide HTF) (by rw [unhide HT, Bool.and_false]))
          clear HT
          have hxm : (x != y) = true := by rw [bne, hxy]; rfl
          go_wp2_with fail
          go_quiet (fail)
          go_wp2_with fail
          go_ret
          exact ⟨retv (boolv (unhide HT2).symm), (unhide HCH).drewN _⟩
      · obtain rfl : n = l.length := by omega
        have HF := hide (show (l == k) = true by have := unhide HEQ; rw [List.take_length, unhide HLEN, List.take_length] at this; exact this)
        clear hch
        go_wp2_with fail
        go_ret
        exact ⟨retv (boolv (unhide HF).symm), unhide HCH⟩
  · have hne : ((l.length : Int) != (k.length : Int)) = true := by rw [bne_iff_ne]; omega
    have HE := hide (beq_lensA hlen)
    clear hv hu hlen
    go_enter Tryd.func20, Tryd.ntmps20
    go_wp2_with fail
    go_ret
    exact ⟨retv (boolv (unhide HE).symm), Chg.refl _ _⟩
theorem refSame_any (l k : List Ins) (A B : Option Addr) (c d : Nat) (T T' : Nat → Prop) (w : World) (hv : Rd T w A (l.flatMap insv)) (hu : Rd T' w B (k.flatMap insv)) (hl : l.length ≤ 1000000) (hk : k.length ≤ 1000000) :
    Calls Tryd.prog 16 #[.slice A l.length c, .slice B k.length d] w fun e w' => e = .returned (.bool (l == k)) ∧ Chg (fun _ => False) w w' := by
  by_cases hlen : l.length = k.length
  · have hne : ((l.length : Int) != (k.length : Int)) = false := by rw [hlen]; simp
    have HV := hide hv
    have HU := hide hu
    have HLEN := hide hlen
    clear hv hu hlen
    go_enter Tryd.func16, Tryd.ntmps16
    go_wp2_with fail
    go_loopw [5] (fun i wr => ∃ n : Nat, i = .int .i64 n ∧ n ≤ l.length ∧ (l.take n == k.take n) = true ∧ Chg (fun _ => False) w wr) (fun i _ => l.length - (intOf i).toNat)
    case atStart => exact ⟨0, rfl, Nat.zero_le _, by simp, Chg.refl _ _⟩
    case round =>
      obtain ⟨wq, rfl⟩ : ∃ wq : World, wq = wr := ⟨_, rfl⟩
      obtain ⟨n, rfl, hn, heq, hch⟩ := hrel
      have HEQ := hide heq
      have HCH := hide hch
      clear heq
      by_cases hlt : n < l.length
      · have hlk : n < k.length := by have := unhide HLEN; omega
        obtain ⟨b, o, rfl, _, h1⟩ := code_at ((unhide HV).chg hch (fun _ _ _ => id)) (by rintro rfl; simp at hlt)
        obtain ⟨b2, o2, rfl, _, h2⟩ := code_at ((unhide HU).chg hch (fun _ _ _ => id)) (by rintro rfl; simp at hlk)
        obtain ⟨q1, q1a, q1b⟩ := h1 n _ (List.getElem?_eq_getElem hlt)
        obtain ⟨q2, q2a, q2b⟩ := h2 n _ (List.getElem?_eq_getElem hlk)
        have HT := hide (take_beqA hlt hlk)
        have HTF := hide (fun h => beq_take_falseA (l := l) (k := k) (n := n + 1) h)
        clear h1 h2 hch
        generalize l[n] = x at *
        generalize k[n] = y at *
        have t1 : (n : Int) < (l.length : Int) := by omega
        have t2 : (n : Int) < (k.length : Int) := by omega
        cases hxy : (x == y) with
        | true =>
          rw [hxy] at HT
          have HT2 := hide (show ((l.take (n + 1)) == (k.take (n + 1))) = true by rw [unhide HT, unhide HEQ]; rfl)
          clear HT
          obtain rfl : x = y := beq_iff_eq.1 hxy
          clear hxy
          go_wp2_with fail
          go_quiet (fail)
          go_wp2_with fail
          go_roundw
          case rel => exact ⟨n + 1, by go_num, by omega, unhide HT2, (unhide HCH).drewN _⟩
          case measure => simp [intOf]; omega
        | false =>
          rw [hxy] at HT
          have HT2 := hide ((unhide HTF) (by rw [unhide HT, Bool.and_false]))
          clear HT
          have hor : (x.op == y.op) = false ∨ ((x.op == y.op) = true ∧ (x.a == y.a) = false) ∨ ((x.op == y.op) = true ∧ (x.a == y.a) = true ∧ (x.b == y.b) = false) := by
            cases h1 : (x.op == y.op) with
            | false => exact .inl rfl
            | true =>
              cases h2 : (x.a == y.a) with
              | false => exact .inr (.inl ⟨rfl, rfl⟩)
              | true =>
                cases h3 : (x.b == y.b) with
                | false => exact .inr (.inr ⟨rfl, rfl, rfl⟩)
                | true =>
                  exfalso
                  rw [beq_iff_eq] at h1 h2 h3
                  rw [beq_eq_false_iff_ne] at hxy
                  obtain ⟨x1, x2, x3⟩ := x
                  obtain ⟨y1, y2, y3⟩ := y
                  simp only at h1 h2 h3
                  subst h1 h2 h3
                  exact hxy rfl
          clear hxy
          rcases hor with e1 | ⟨e1, e2⟩ | ⟨e1, e2, e3⟩
          all_goals
            go_wp2_with fail
            go_quiet (fail)
            go_wp2_with fail
            go_ret
            exact ⟨retv (boolv (unhide HT2).symm), (unhide HCH).drewN _⟩
      · obtain rfl : n = l.length := by omega
        have HF := hide (show (l == k) = true by have := unhide HEQ; rw [List.take_length, unhide HLEN, List.take_length] at this; exact this)
        clear hch
        go_wp2_with fail
        go_ret
        exact ⟨retv (boolv (unhide HF).symm), unhide HCH⟩
  · have hne : ((l.length : Int) != (k.length : Int)) = true := by rw [bne_iff_ne]; omega
    have HE := hide (beq_lensA hlen)
    clear hv hu hlen
    go_enter Tryd.func16, Tryd.ntmps16
    go_wp2_with fail
    go_ret
    exact ⟨retv (boolv (unhide HE).symm), Chg.refl _ _⟩
end Go.Proofs.YtgonllogaiiicaaDoor
