/-
  Layer 23: the plain part of the laws on turned bytes and on digests.
-/
import Derived.Test.YtinekmjengckdaaGreatDoorM28
namespace Go.Proofs.YtinekmjengckdaaGreatDoor
/-- At how many places rows differ. -/
def dif : List UInt8 → List UInt8 → Nat
  | a :: l, b :: m => (if a = b then 0 else 1) + dif l m
  | _, _ => 0
theorem dif_zero : ∀ {l m : List UInt8}, l.length = m.length → dif l m = 0 → l = m
  | [], [], _, _ => rfl
  | [], _ :: _, h, _ => by simp at h
  | _ :: _, [], h, _ => by simp at h
  | a :: l, b :: m, h, hd => by
    rw [dif] at hd
    by_cases hab : a = b
    · rw [hab, dif_zero (l := l) (m := m) (by simpa using h) (by omega)]
    · rw [if_neg hab] at hd
      omega
theorem dif_one : ∀ {l m : List UInt8}, l.length = m.length → dif l m = 1 → ∃ x c d y, l = x ++ c :: y ∧ m = x ++ d :: y ∧ c ≠ d
  | [], [], _, h => by cases h
  | [], _ :: _, h, _ => by simp at h
  | _ :: _, [], h, _ => by simp at h
  | a :: l, b :: m, h, hd => by
    rw [dif] at hd
    by_cases hab : a = b
    · rw [if_pos hab] at hd
      obtain ⟨x, c, d, y, h1, h2, h3⟩ := dif_one (l := l) (m := m) (by simpa using h) (by omega)
      exact ⟨a :: x, c, d, y, by rw [h1]; rfl, by rw [h2, hab]; rfl, h3⟩
    · rw [if_neg hab] at hd
      have := dif_zero (l := l) (m := m) (by simpa using h) (by omega)
      exact ⟨[], a, b, l, rfl, by rw [this]; rfl, hab⟩
theorem dif_snoc : ∀ {l m : List UInt8} (a b : UInt8), l.length = m.length → dif (l ++ [a]) (m ++ [b]) = dif l m + (if a = b then 0 else 1)
  | [], [], a, b, _ => by simp [dif]
  | [], _ :: _, _, _, h => by simp at h
  | _ :: _, [], _, _, h => by simp at h
  | x :: l, y :: m, a, b, h => by
    rw [List.cons_append, List.cons_append, dif, dif, dif_snoc a b (by simpa using h)]
    omega
theorem take_snoc {l : List UInt8} {k : Nat} {a : UInt8} (h : l[k]? = some a) : l.take (k + 1) = l.take k ++ [a] := by
  rw [List.take_add_one, h]
  rfl
theorem dif_step {l m : List UInt8} {k : Nat} {a b : UInt8} (h1 : l[k]? = some a) (h2 : m[k]? = some b) : dif (l.take (k + 1)) (m.take (k + 1)) = dif (l.take k) (m.take k) + (if a = b then 0 else 1) := by
  have e1 := (List.getElem?_eq_some_iff.1 h1).1
  have e2 := (List.getElem?_eq_some_iff.1 h2).1
  rw [take_snoc h1, take_snoc h2, dif_snoc a b (by rw [List.length_take, List.length_take]; omega)]
/-- Of a name that differs by one byte alone the digest is another one. -/
theorem dig_turned {i : Ifc} {nm : ByteArray} (hl : nm.size = i.name.size) (h : dif nm.data.toList i.name.data.toList = 1) : sumB (allP ⟨nm, i.opens, i.datas, i.fixes, i.sigs⟩) ≠ sumB (allP i) := by
  obtain ⟨x, c, d, y, h1, h2, h3⟩ := dif_one (by exact hl) h
  have ea : allP ⟨nm, i.opens, i.datas, i.fixes, i.sigs⟩ = (magicB ++ low 2 i.name.size ++ x) ++ c :: (y ++ (rowP opnP i.opens ++ (rowP dtP i.datas ++ (rowP fxP i.fixes ++ rowP sgP i.sigs)))) := by
    unfold allP textP
    dsimp only
    rw [h1, hl]
    simp only [List.append_assoc, List.cons_append]
  have eb : allP i = (magicB ++ low 2 i.name.size ++ x) ++ d :: (y ++ (rowP opnP i.opens ++ (rowP dtP i.datas ++ (rowP fxP i.fixes ++ rowP sgP i.sigs)))) := by
    unfold allP textP
    rw [h2]
    simp only [List.append_assoc, List.cons_append]
  intro e
  rw [ea, eb] at e
  exact h3 (sum_turned e)
/-- The last four bytes, one by one. -/
theorem tail_get (i : Ifc) (k : Nat) (hk : k < 4) : ∃ b : UInt8, (encP i)[(allP i).length + k]? = some b ∧ valB ((low 4 (sumB (allP i))).drop k) = b.toNat + 256 * valB ((low 4 (sumB (allP i))).drop (k + 1)) := by
  have hl := low_len 4 (sumB (allP i))
  have h1 : k < (low 4 (sumB (allP i))).length := by omega
  refine ⟨(low 4 (sumB (allP i)))[k], ?_, ?_⟩
  · unfold encP
    rw [List.getElem?_append_right (by omega), Nat.add_sub_cancel_left]
    exact List.getElem?_eq_getElem h1
  · rw [List.drop_eq_getElem_cons h1]
    rfl
theorem tail_val (i : Ifc) : valB ((low 4 (sumB (allP i))).drop 0) = sumB (allP i) := by
  rw [List.drop_zero]
  exact val_low 4 _ (sumB_lt _)
theorem tail_none (i : Ifc) : valB ((low 4 (sumB (allP i))).drop 4) = 0 := by
  have : (low 4 (sumB (allP i))).drop 4 = [] := List.drop_eq_nil_of_le (by rw [low_len]; exact Nat.le_refl _)
  rw [this]
  rfl
theorem tail_le (i : Ifc) (k : Nat) : valB ((low 4 (sumB (allP i))).drop k) < 4294967296 := by
  have h := valB_lt ((low 4 (sumB (allP i))).drop k)
  have hl : ((low 4 (sumB (allP i))).drop k).length ≤ 4 := by rw [List.length_drop, low_len]; omega
  exact Nat.lt_of_lt_of_le h (Nat.pow_le_pow_right (by decide) hl)
theorem xor_ne {c d : UInt8} (h : d ≠ 0) : c ≠ c ^^^ d := fun e => h (by
  have h1 := congrArg (fun x => c ^^^ x) e
  simp only [← UInt8.xor_assoc, UInt8.xor_self, UInt8.zero_xor] at h1
  exact h1.symm)
/-- Bytes of which one is another one are none. -/
theorem enc_set {ok : Ifc → Bool} {i : Ifc} {k : Nat} {c d : UInt8} (hc : (encP i)[k]? = some c) (hd : d ≠ 0) : decG ok ((encP i).set k (c ^^^ d)) = none := by
  obtain ⟨hk, e⟩ := List.getElem?_eq_some_iff.1 hc
  have h1 : encP i = (encP i).take k ++ c :: (encP i).drop (k + 1) := by
    rw [← e]
    simp
  rw [List.set_eq_take_append_cons_drop, if_pos hk]
  exact dec_turned h1 (xor_ne hd)
theorem enc_take {ok : Ifc → Bool} {i : Ifc} (hf : IfcFit i) {k : Nat} (hk : k < (encP i).length) : decG ok ((encP i).take k) = none :=
  dec_cut hf (y := (encP i).drop k) (List.take_append_drop k _).symm (fun h => by
    have := congrArg List.length h
    rw [List.length_drop] at this
    simp only [List.length_nil] at this
    omega)
theorem enc_more {ok : Ifc → Bool} {i : Ifc} (hf : IfcFit i) (c : UInt8) : decG ok (encP i ++ [c]) = none := dec_longer hf (by simp)
end Go.Proofs.YtinekmjengckdaaGreatDoor
