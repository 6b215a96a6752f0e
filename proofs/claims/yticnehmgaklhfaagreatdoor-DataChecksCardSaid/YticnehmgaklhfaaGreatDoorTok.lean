/-
  Tokens: what a byte is, the words of the language, which texts are names and operators; with no program in sight.
-/
import Derived.Test.YticnehmgaklhfaaGreatDoorLib
import Derived.Lib.SlicesS
namespace Go.Proofs.YticnehmgaklhfaaGreatDoor
open Go.RowKit
set_option maxHeartbeats 1000000
set_option maxRecDepth 100000
def wordsBA : List ByteArray := [⟨#[108, 101, 116]⟩, ⟨#[114, 101, 99]⟩, ⟨#[105, 110]⟩, ⟨#[102, 117, 110]⟩, ⟨#[105, 102]⟩, ⟨#[116, 104, 101, 110]⟩, ⟨#[101, 108, 115, 101]⟩, ⟨#[109, 97, 116, 99, 104]⟩, ⟨#[119, 105, 116, 104]⟩, ⟨#[101, 110, 100]⟩, ⟨#[114, 97, 105, 115, 101]⟩, ⟨#[116, 114, 121]⟩, ⟨#[111, 112, 101, 110]⟩, ⟨#[116, 121, 112, 101]⟩, ⟨#[111, 102]⟩, ⟨#[105, 110, 102, 105, 120, 108]⟩, ⟨#[105, 110, 102, 105, 120, 114]⟩, ⟨#[105, 110, 102, 105, 120]⟩, ⟨#[45, 62]⟩, ⟨#[61]⟩, ⟨#[124]⟩, ⟨#[40]⟩, ⟨#[41]⟩, ⟨#[95]⟩, ⟨#[59, 59]⟩]
def sgL : List Nat := [33, 36, 37, 38, 42, 43, 45, 47, 58, 60, 61, 62, 63, 64, 94, 124]
/-- What a byte is. -/
def isB (c : Nat) : Int := if c ∈ sgL then 5 else if 97 ≤ c ∧ c ≤ 122 then 1 else if 65 ≤ c ∧ c ≤ 90 then 2 else if 48 ≤ c ∧ c ≤ 57 then 3 else if c = 95 ∨ c = 39 then 4 else 0
theorem sg_notin (c : Nat) (h : ∀ k, k < 16 → sgL.getD k 0 ≠ c) : c ∉ sgL := by
  intro hm
  obtain ⟨k, hk, e⟩ := List.getElem_of_mem hm
  have h2 : k < 16 := hk
  apply h k h2
  rw [List.getD_eq_getElem?_getD, List.getElem?_eq_getElem hk, e]
  rfl
theorem sg_at : ∀ (k : Nat) (h : k < 16), ((⟨#[33, 36, 37, 38, 42, 43, 45, 47, 58, 60, 61, 62, 63, 64, 94, 124]⟩ : ByteArray)[k]'h).toNat = sgL.getD k 0 := by decide
theorem isB_rest (c : Nat) (h : c ∉ sgL) : isB c = if 97 ≤ c ∧ c ≤ 122 then 1 else if 65 ≤ c ∧ c ≤ 90 then 2 else if 48 ≤ c ∧ c ≤ 57 then 3 else if c = 95 ∨ c = 39 then 4 else 0 := if_neg h
def keyB (s : ByteArray) : Bool := Lib.containsS wordsBA s
theorem bytes_eq {a b : ByteArray} (h : a.toList = b.toList) : a = b := by
  rw [ByteArray.toList_eq, ByteArray.toList_eq] at h
  obtain ⟨⟨a⟩⟩ := a
  obtain ⟨⟨b⟩⟩ := b
  obtain rfl : a = b := h
  rfl
/-- May a byte stand within a name? -/
def innerB (c : Nat) : Bool := decide (1 ≤ isB c ∧ isB c ≤ 4)
/-- How many bytes of kinds from one to another one a text begins with. -/
def spanN (lo hi : Int) (s : ByteArray) : Nat := (s.data.toList.takeWhile (fun b => decide (lo ≤ isB b.toNat ∧ isB b.toNat ≤ hi))).length
def allInner (s : ByteArray) : Bool := s.data.toList.all (fun b => innerB b.toNat)
theorem span_stop {α : Type} (p : α → Bool) : ∀ (l : List α) (k : Nat), k ≤ l.length → (∀ j (h : j < l.length), j < k → p l[j] = true) → (∀ (h : k < l.length), p l[k] = false) → (l.takeWhile p).length = k := by
  intro l
  induction l with
  | nil => intro k hk _ _; simp at hk; simp [hk]
  | cons x l ih =>
    intro k hk h1 h2
    cases k with
    | zero =>
      have := h2 (by simp)
      simp at this
      simp [this]
    | succ k =>
      have hx := h1 0 (by simp) (by omega)
      simp at hx
      rw [List.takeWhile_cons, if_pos hx, List.length_cons, ih k (by simpa using hk) (fun j h hj => by have := h1 (j + 1) (by simpa using h) (by omega); simpa using this) (fun h => by have := h2 (by simpa using h); simpa using this)]
theorem take_all {α : Type} (p : α → Bool) : ∀ l : List α, l.all p = true → l.takeWhile p = l := by
  intro l
  induction l with
  | nil => intro _; rfl
  | cons x l ih =>
    intro h
    rw [List.all_cons, Bool.and_eq_true] at h
    rw [List.takeWhile_cons, if_pos h.1, ih h.2]
theorem span_all {α : Type} (p : α → Bool) (l : List α) : (((l.takeWhile p).length : Int) == (l.length : Int)) = l.all p := by
  rw [Bool.eq_iff_iff, beq_iff_eq]
  constructor
  · intro h
    induction l with
    | nil => rfl
    | cons x l ih =>
      rw [List.takeWhile_cons] at h
      split at h
      · rename_i hx
        simp only [List.length_cons] at h
        rw [List.all_cons, hx, Bool.true_and]
        exact ih (by omega)
      · simp at h
        omega
  · intro h
    rw [take_all p l h]
/-- Has an operator such a byte? -/
def signB (c : Nat) : Bool := decide (5 ≤ isB c ∧ isB c ≤ 5)
def allSign (s : ByteArray) : Bool := s.data.toList.all (fun b => signB b.toNat)
def headK (k : Int) (s : ByteArray) : Bool := match s.data.toList with | [] => false | b :: _ => isB b.toNat == k
/-- Is a text a name (1), or a constructor's (2)? -/
def nameB (k : Int) (s : ByteArray) : Bool := headK k s && allInner s && !keyB s
/-- Is a text an operator? -/
def opB (s : ByteArray) : Bool := !s.toList.isEmpty && allSign s && !keyB s
theorem headK_some (k : Int) (s : ByteArray) (h : 0 < s.size) : headK k s = (isB (s[0]).toNat == k) := by
  unfold headK
  obtain ⟨⟨l⟩⟩ := s
  cases l with
  | nil => exact absurd (show 0 < 0 from h) (Nat.lt_irrefl 0)
  | cons b l => rfl
theorem empty_iff (s : ByteArray) : s.toList.isEmpty = decide (s.size = 0) := by
  rw [ByteArray.toList_eq]
  obtain ⟨⟨l⟩⟩ := s
  cases l with
  | nil => rfl
  | cons b l => exact (decide_eq_false (show ¬ l.length + 1 = 0 by omega)).symm
theorem headK_none (k : Int) (s : ByteArray) (h : s.size = 0) : headK k s = false := by
  unfold headK
  obtain ⟨⟨l⟩⟩ := s
  cases l with
  | nil => rfl
  | cons b l => exact absurd (show l.length + 1 = 0 from h) (by omega)
theorem name_split (k : Int) (s : ByteArray) : nameB k s = ((!s.toList.isEmpty && allInner s) && headK k s && !keyB s) := by
  have h : nameB k s = (headK k s && allInner s && !keyB s) := rfl
  rw [h, empty_iff]
  by_cases h0 : s.size = 0
  · rw [headK_none k s h0, decide_eq_true h0]
    simp
  · rw [decide_eq_false h0]
    cases headK k s <;> cases allInner s <;> simp
def smallB (c : Nat) : Bool := decide (97 ≤ c ∧ c ≤ 122)
def greatB (c : Nat) : Bool := decide (65 ≤ c ∧ c ≤ 90)
def digitB (c : Nat) : Bool := decide (48 ≤ c ∧ c ≤ 57)
theorem inner_eq (c : Nat) (hc : c < 256) : innerB c = (smallB c || greatB c || digitB c || c == 95 || c == 39) := by
  revert c
  decide
theorem great_eq (c : Nat) (hc : c < 256) : greatB c = (isB c == 2) := by
  revert c
  decide
theorem inner_high (c : Nat) (hc : c < 256) (h : 126 < c) : innerB c = false := by
  revert c
  decide
theorem small_eq (c : Nat) (hc : c < 256) : smallB c = (isB c == 1) := by
  revert c
  decide
theorem sign_eq (c : Nat) : signB c = sgL.contains c := by
  unfold signB isB
  rw [Bool.eq_iff_iff, decide_eq_true_eq, List.contains_iff_mem]
  constructor
  · intro h
    split at h
    · assumption
    · split at h
      · omega
      · split at h
        · omega
        · split at h
          · omega
          · split at h <;> omega
  · intro h
    rw [if_pos h]
    omega
theorem sign_high (c : Nat) (h : 126 < c) : signB c = false := by
  rw [sign_eq, ← Bool.not_eq_true, List.contains_iff_mem]
  intro hm
  have : ∀ x ∈ sgL, x ≤ 126 := by decide
  have := this c hm
  omega
end Go.Proofs.YticnehmgaklhfaaGreatDoor
