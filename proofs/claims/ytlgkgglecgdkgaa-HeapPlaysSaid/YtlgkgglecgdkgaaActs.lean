/-
  A row of acts as the law's argument has it; walks of few and pick.
-/
import Derived.Test.YtlgkgglecgdkgaaWawake
import Derived.Test.YtlgkgglecgdkgaaNums
namespace Go.Proofs.Ytlgkgglecgdkgaa
open Go.RowKit
set_option maxHeartbeats 400000
set_option maxRecDepth 100000

structure ActM where
  k : Int
  kind : Int
  tag : Int
  parts : List Int
  text : ByteArray
  at_ : Int
  by_ : Int
  keep : Int

def intl (n : Int) : Value := .int .i64 n
def acv (p : Value × ActM) : List Value := [intl p.2.k, intl p.2.kind, intl p.2.tag, p.1, .string p.2.text, intl p.2.at_, intl p.2.by_, intl p.2.keep]
def RdInts (w : World) (v : Value) (l : List Int) : Prop := ∃ A c, v = .slice A l.length c ∧ Rd (fun _ => True) w A (l.map intl)
/-- The slice that begins at A has these acts. -/
def RdActs (w : World) (A : Option Addr) (l : List ActM) : Prop :=
  ∃ fin : List (Value × ActM), fin.map (·.2) = l ∧ Rd (fun _ => True) w A (fin.flatMap acv) ∧ (∀ p ∈ fin, RdInts w p.1 p.2.parts)

theorem Rd.old {w w' : World} {A : Option Addr} {xs : List Value} (h : Rd (fun _ => True) w A xs) (hc : Chg (fun _ => False) w w') : Rd (fun _ => True) w' A xs := h.chg hc fun _ _ _ h => h
theorem RdInts.old {w w' : World} {v : Value} {l : List Int} (h : RdInts w v l) (hc : Chg (fun _ => False) w w') : RdInts w' v l := by
  obtain ⟨A, c, rfl, h⟩ := h
  exact ⟨A, c, rfl, h.old hc⟩
theorem RdActs.old {w w' : World} {A : Option Addr} {l : List ActM} (h : RdActs w A l) (hc : Chg (fun _ => False) w w') : RdActs w' A l := by
  obtain ⟨fin, h1, h2, h3⟩ := h
  exact ⟨fin, h1, h2.old hc, fun p hp => (h3 p hp).old hc⟩

theorem flat_get {α : Type} (f : α → List Value) (n : Nat) (hn : ∀ x, (f x).length = n) (l : List α) (i j : Nat) (x : α) (hx : l[i]? = some x) (hj : j < n) : (l.flatMap f)[i * n + j]? = (f x)[j]? := by
  induction l generalizing i with
  | nil => simp at hx
  | cons y l ih =>
    rw [List.flatMap_cons]
    cases i with
    | zero =>
      simp only [List.getElem?_cons_zero, Option.some.injEq] at hx
      subst hx
      rw [Nat.zero_mul, Nat.zero_add, List.getElem?_append_left (by rw [hn]; exact hj)]
    | succ i =>
      rw [List.getElem?_cons_succ] at hx
      rw [List.getElem?_append_right (by rw [hn, Nat.succ_mul]; omega), hn, ← ih i hx]
      congr 1
      rw [Nat.succ_mul]; omega

/-- What a row of acts has at i. -/
structure ActAt (w : World) (b o i : Nat) (a : ActM) (v : Value) : Prop where
  c0 : w.cell? ⟨b, o + i * 8, none⟩ = some (.int .i64 a.k)
  c1 : w.cell? ⟨b, o + i * 8 + 1, none⟩ = some (.int .i64 a.kind)
  c2 : w.cell? ⟨b, o + i * 8 + 2, none⟩ = some (.int .i64 a.tag)
  c3 : w.cell? ⟨b, o + i * 8 + 3, none⟩ = some v
  c4 : w.cell? ⟨b, o + i * 8 + 4, none⟩ = some (.string a.text)
  c5 : w.cell? ⟨b, o + i * 8 + 5, none⟩ = some (.int .i64 a.at_)
  c6 : w.cell? ⟨b, o + i * 8 + 6, none⟩ = some (.int .i64 a.by_)
  c7 : w.cell? ⟨b, o + i * 8 + 7, none⟩ = some (.int .i64 a.keep)
  ints : RdInts w v a.parts

theorem RdActs.flat {w : World} {A : Option Addr} {l : List ActM} (h : RdActs w A l) (hn : l ≠ []) : ∃ b o, A = some ⟨b, o, none⟩ ∧ ∀ i a, l[i]? = some a → ∃ v, ActAt w b o i a v := by
  obtain ⟨fin, rfl, h2, h3⟩ := h
  obtain ⟨b, o, hA, _, hc⟩ := h2.flat (by
    intro e
    rcases fin with _ | ⟨x, l⟩
    · exact hn rfl
    · simp [acv] at e)
  refine ⟨b, o, hA, fun i a ha => ?_⟩
  rw [List.getElem?_map] at ha
  obtain ⟨p, hp, rfl⟩ := Option.map_eq_some_iff.1 ha
  have hg := fun j (hj : j < 8) => flat_get acv 8 (fun _ => rfl) fin i j p hp hj
  have hcell : ∀ j v, j < 8 → (acv p)[j]? = some v → w.cell? ⟨b, o + i * 8 + j, none⟩ = some v := fun j v hj hv => by
    rw [Nat.add_assoc]
    exact hc _ _ ((hg j hj).trans hv)
  exact ⟨p.1, hcell 0 _ (by omega) rfl, hcell 1 _ (by omega) rfl, hcell 2 _ (by omega) rfl, hcell 3 _ (by omega) rfl, hcell 4 _ (by omega) rfl, hcell 5 _ (by omega) rfl, hcell 6 _ (by omega) rfl, hcell 7 _ (by omega) rfl,
    h3 p (List.mem_of_getElem? hp)⟩

def ActM.small (a : ActM) : Bool := decide (a.parts.length ≤ 20) && decide (a.text.size ≤ 300)
/-- few -/
def fewL (l : List ActM) : Bool := decide (l.length ≤ 60) && l.all ActM.small

theorem fewL_false {l : List ActM} {j : Nat} {a : ActM} (hj : l[j]? = some a) (hs : a.small = false) : fewL l = false := by
  unfold fewL
  rw [Bool.and_eq_false_iff]
  right
  rw [List.all_eq_false]
  exact ⟨a, List.mem_of_getElem? hj, by simp [hs]⟩
theorem fewL_end {l : List ActM} {j : Nat} (hj : j = l.length) (hs : ∀ i a, i < j → l[i]? = some a → a.small = true) : fewL l = decide (l.length ≤ 60) := by
  unfold fewL
  have : l.all ActM.small = true := by
    rw [List.all_eq_true]
    intro a ha
    obtain ⟨i, hi, rfl⟩ := List.getElem_of_mem ha
    exact hs i _ (by omega) (List.getElem?_eq_getElem hi)
  rw [this, Bool.and_true]

theorem few_any (l : List ActM) (A : Option Addr) (c : Nat) (w : World) (h : RdActs w A l) (hl : l.length ≤ 9223372036854775807) :
    Calls Try.prog 13 #[.slice A l.length c] w fun e w' => e = .returned (.bool (fewL l)) ∧ w = w' := by
  have Hh := hide h
  clear h
  go_enter Try.func13, Try.ntmps13
  go_wp2_with fail
  go_loop [3] (fun i => ∃ j : Nat, j ≤ l.length ∧ j ≤ 61 ∧ i = .int .i64 j ∧ ∀ i a, i < j → l[i]? = some a → a.small = true) (fun i => l.length - (intOf i).toNat)
  case atStart => exact ⟨0, Nat.zero_le _, by omega, rfl, fun a _ ha => absurd ha (by omega)⟩
  case round =>
    obtain ⟨j, hj, hj2, rfl, hall⟩ := hrel
    have Hall := hide hall
    clear hall
    by_cases hlt : j < l.length
    · by_cases h61 : j < 61
      · obtain ⟨b, o, rfl, hc⟩ := (unhide Hh).flat (by rintro rfl; simp at hlt)
        obtain ⟨v, ha⟩ := hc j _ (List.getElem?_eq_getElem hlt)
        have He := hide (List.getElem?_eq_getElem hlt)
        generalize l[j] = a at *
        obtain ⟨pA, pc, rfl, _⟩ := ha.ints
        have c3 := ha.c3
        have c4 := ha.c4
        clear ha hc
        have hsm : a.small = (decide (a.parts.length ≤ 20) && decide (a.text.size ≤ 300)) := rfl
        have HS := hide hsm
        clear hsm
        generalize a.parts.length = p at *
        by_cases hp : p ≤ 20
        · by_cases ht : a.text.size ≤ 300
          · go_wp2_with fail
            go_round
            case rel => exact ⟨j + 1, by omega, by omega, by go_num, fun i a' hi ha' => by
              rcases Nat.lt_or_ge i j with h1 | h1
              · exact (unhide Hall) i a' h1 ha'
              · obtain rfl : i = j := by omega
                rw [unhide He] at ha'
                cases ha'
                rw [unhide HS]
                simp [hp, ht]⟩
            case measure => simp [intOf]; omega
          · go_wp2_with fail
            go_ret
            refine ⟨retv (boolv ?_), rfl⟩
            rw [fewL_false (unhide He) (by rw [unhide HS]; simp [ht])]
        · go_wp2_with fail
          go_ret
          refine ⟨retv (boolv ?_), rfl⟩
          rw [fewL_false (unhide He) (by rw [unhide HS]; simp [hp])]
      · go_wp2_with fail
        go_ret
        refine ⟨retv (boolv ?_), rfl⟩
        rw [show fewL l = false by unfold fewL; rw [decide_eq_false (by omega)]; rfl, decide_eq_false (by omega)]
    · go_wp2_with fail
      go_ret
      refine ⟨retv (boolv ?_), rfl⟩
      rw [fewL_end (show j = l.length by omega) (unhide Hall)]
      exact decide_eq_decide.2 (by omega)
end Go.Proofs.Ytlgkgglecgdkgaa
