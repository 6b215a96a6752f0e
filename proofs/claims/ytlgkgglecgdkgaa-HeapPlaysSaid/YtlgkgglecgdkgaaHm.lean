/-
  The heap's model: its words told by plain lists; how the Go struct lies in memory; what the small functions come to.
-/
import Derived.Test.YtlgkgglecgdkgaaLib
import Derived.Laws.BitsAllLaws
namespace Go.Proofs.Ytlgkgglecgdkgaa
open Go.RowKit

def wv (x : Nat) : Value := .int .u64 (x : Int)
def slv (b n c : Nat) : Value := .slice (some ⟨b, 0, none⟩) n c
def ptr (g : Nat) : Value := .pointer (some ⟨g, 0, none⟩)
def bv (b : Bool) : Value := .bool b

/-- Words in use, what lies behind them; the other half likewise; how many each half has; where blocks begin. -/
structure HM where
  now : List Nat
  nsp : List Nat
  oth : List Nat
  osp : List Nat
  size : Nat
  beg : List Bool

structure HM.Ok (M : HM) : Prop where
  n : M.now.length + M.nsp.length = M.size
  o : M.oth.length + M.osp.length = M.size
  b : M.beg.length = M.size
  s : M.size ≤ 1048576
  w1 : ∀ x ∈ M.now, x < 18446744073709551616
  w2 : ∀ x ∈ M.oth, x < 18446744073709551616

structure HRep (w : World) (g bn bo bb : Nat) (M : HM) : Prop where
  st : Blk w g 84 #[slv bn M.now.length M.size, slv bo M.oth.length M.size, .int .i64 (M.size : Int), slv bb M.size M.size]
  rn : Blk w bn 26 ((M.now ++ M.nsp).map wv).toArray
  ro : Blk w bo 26 ((M.oth ++ M.osp).map wv).toArray
  rb : Blk w bb 4 (M.beg.map bv).toArray
  ne : bn ≠ bo
  ok : M.Ok

/-- What a word's index is, if a block begins there. -/
def HM.at (M : HM) (x : Nat) : Option Nat :=
  if x % 2 = 1 then none else if M.now.length ≤ x / 2 then none else if M.beg[x / 2]? = some true then some (x / 2) else none
def HM.value (M : HM) (x : Nat) : Bool := (M.at x).isSome || x % 2 == 1

theorem HRep.chg {w w' : World} {g bn bo bb : Nat} {M : HM} {S : Nat → Prop} (h : HRep w g bn bo bb M) (hc : Chg S w w') (h1 : ¬ S g) (h2 : ¬ S bn) (h3 : ¬ S bo) (h4 : ¬ S bb) : HRep w' g bn bo bb M :=
  ⟨h.st.chg hc h1, h.rn.chg hc h2, h.ro.chg hc h3, h.rb.chg hc h4, h.ne, h.ok⟩

theorem wv_get (l k : List Nat) {i : Nat} (hi : i < l.length) : (((l ++ k).map wv).toArray)[i]? = some (.int .u64 ((l.getD i 0 : Nat) : Int)) := by
  rw [List.getElem?_toArray, List.getElem?_map, List.getElem?_append_left hi, List.getElem?_eq_getElem hi]
  simp [wv, List.getD_eq_getElem?_getD, List.getElem?_eq_getElem hi]

section
variable {w : World} {g bn bo bb : Nat} {M : HM}
theorem HRep.c0 (h : HRep w g bn bo bb M) : w.cell? ⟨g, 0, none⟩ = some (.slice (some ⟨bn, 0, none⟩) M.now.length M.size) := h.st.cell 0
theorem HRep.c1 (h : HRep w g bn bo bb M) : w.cell? ⟨g, 1, none⟩ = some (.slice (some ⟨bo, 0, none⟩) M.oth.length M.size) := h.st.cell 1
theorem HRep.c2 (h : HRep w g bn bo bb M) : w.cell? ⟨g, 2, none⟩ = some (.int .i64 (M.size : Int)) := h.st.cell 2
theorem HRep.c3 (h : HRep w g bn bo bb M) : w.cell? ⟨g, 3, none⟩ = some (.slice (some ⟨bb, 0, none⟩) M.size M.size) := h.st.cell 3
theorem HRep.len (h : HRep w g bn bo bb M) : M.now.length ≤ M.size := by have := h.ok.n; omega
theorem HRep.cn (h : HRep w g bn bo bb M) {i : Nat} (hi : i < M.now.length) : w.cell? ⟨bn, i, none⟩ = some (.int .u64 ((M.now.getD i 0 : Nat) : Int)) := by
  exact h.rn.cell' (wv_get M.now M.nsp hi)
theorem HRep.cb (h : HRep w g bn bo bb M) {i : Nat} (hi : i < M.size) : w.cell? ⟨bb, i, none⟩ = some (.bool (M.beg.getD i false)) := by
  refine h.rb.cell' ?_
  have hb := h.ok.b
  simp [List.getElem?_eq_getElem (show i < M.beg.length by omega), bv]
end

/-- A block's kind, tag, and how many parts it has (all 0 where there is none). -/
def HM.bk (M : HM) (x : Nat) : Nat := if (M.at x).isSome then M.now.getD (x / 2) 0 % 8 else 0
def HM.bt (M : HM) (x : Nat) : Nat := if (M.at x).isSome then M.now.getD (x / 2) 0 / 65536 else 0
def HM.bn (M : HM) (x : Nat) : Nat := if (M.at x).isSome then (if M.now.getD (x / 2) 0 % 8 = 4 then 0 else M.now.getD (x / 2) 0 / 8 % 8192) else 0

theorem HM.at_some {M : HM} {x a : Nat} (h : M.at x = some a) : a = x / 2 ∧ x % 2 = 0 ∧ x / 2 < M.now.length ∧ M.beg[x / 2]? = some true := by
  unfold HM.at at h
  split at h
  · cases h
  · split at h
    · cases h
    · split at h
      · injection h with h
        exact ⟨h.symm, by omega, by omega, by assumption⟩
      · cases h
theorem HM.at_isSome {M : HM} {x : Nat} (h : (M.at x).isSome = true) : M.at x = some (x / 2) ∧ x % 2 = 0 ∧ x / 2 < M.now.length ∧ M.beg[x / 2]? = some true := by
  obtain ⟨a, ha⟩ := Option.isSome_iff_exists.1 h
  obtain ⟨rfl, h2⟩ := HM.at_some ha
  exact ⟨ha, h2⟩
theorem HM.Ok.getD {M : HM} (h : M.Ok) (i : Nat) : M.now.getD i 0 < 18446744073709551616 := by
  rw [List.getD_eq_getElem?_getD]
  cases hi : M.now[i]? with
  | none => simp
  | some v => simpa using h.w1 v (List.mem_of_getElem? hi)

/-- The heap with a word set. -/
def HM.set (M : HM) (i by_ : Nat) : HM := { M with now := M.now.set i by_ }

theorem and1 (x : Nat) (hx : x < 18446744073709551616) : bits .and .u64 (x : Int) 1 = ((x % 2 : Nat) : Int) := by
  have h := u64_and_nat x 1 hx (by omega)
  rw [nat_mask1] at h
  exact h
theorem and7 (x : Nat) (hx : x < 18446744073709551616) : bits .and .u64 (x : Int) 7 = ((x % 8 : Nat) : Int) := by
  have h := u64_and_nat x 7 hx (by omega)
  rw [nat_mask3] at h
  exact h
theorem and8191 (x : Nat) (hx : x < 18446744073709551616) : bits .and .u64 (x : Int) 8191 = ((x % 8192 : Nat) : Int) := by
  have h := u64_and_nat x 8191 hx (by omega)
  rw [nat_mask13] at h
  exact h
theorem w64 (x : Nat) (hx : x ≤ 9223372036854775807) : wrap64 (x : Int) = (x : Int) := IntWalk.wrap64_in _ (by omega)
theorem or3 (k t s : Nat) (hk : k < 8) (ht : t ≤ 1048576) (hs : s < 8192) :
    bits .or .u64 (bits .or .u64 ((t : Int) * 65536) ((s : Int) * 8)) (k : Int) = ((t * 65536 + s * 8 + k : Nat) : Int) := by
  have e1 : bits .or .u64 ((t : Int) * 65536) ((s : Int) * 8) = ((t * 65536 + s * 8 : Nat) : Int) := by
    have h := u64_or_nat (t * 65536) (s * 8) (by omega) (by omega)
    rw [nat_join 16 _ _ (by omega) (by omega)] at h
    simpa using h
  have h := u64_or_nat (t * 65536 + s * 8) k (by omega) (by omega)
  rw [nat_join 3 _ _ (by omega) (by omega)] at h
  rw [e1, h]

theorem row_app (l k news : List Nat) (vs : List Value) (hv : vs = news.map wv) (n : Nat) (hn : n = l.length) :
    (((l ++ k).map wv).toArray.toList.take (n * 1) ++ vs ++ ((l ++ k).map wv).toArray.toList.drop (n * 1 + vs.length)).toArray = (((l ++ news) ++ k.drop news.length).map wv).toArray := by
  subst hv hn
  simp only [Nat.mul_one, List.length_map, List.map_append, List.map_drop]
  congr 1
  rw [List.take_left' (by simp)]
  congr 1
  rw [← List.length_map (f := wv) (as := l), List.drop_append, List.drop_eq_nil_of_le (by omega), List.nil_append]
  congr 1
  omega
theorem wv_one (l : List Nat) : ∀ u ∈ l.map wv, u.oneCell' = true := by
  intro u hu
  obtain ⟨x, _, rfl⟩ := List.mem_map.1 hu
  rfl

def HM.put (M : HM) (first : Nat) (rest : List Nat) : HM :=
  { M with now := M.now ++ first :: rest, nsp := M.nsp.drop (rest.length + 1), beg := M.beg.set M.now.length true }

theorem HM.put_ok {M : HM} (h : M.Ok) (first : Nat) (rest : List Nat) (hf : first < 18446744073709551616) (hr : ∀ x ∈ rest, x < 18446744073709551616) (hl : M.now.length + rest.length + 1 ≤ M.size) : (M.put first rest).Ok := by
  have h1 := h.n
  refine ⟨?_, h.o, ?_, h.s, ?_, h.w2⟩
  · simp [HM.put]; omega
  · simp [HM.put, h.b]
  · intro x hx
    simp only [HM.put, List.mem_append, List.mem_cons] at hx
    rcases hx with hx | rfl | hx
    · exact h.w1 x hx
    · exact hf
    · exact hr x hx

theorem begs_set (l : List Bool) (i : Nat) : ((l.map bv).toArray).setIfInBounds i (.bool true) = ((l.set i true).map bv).toArray := by
  simp [List.map_set, bv]

theorem HM.set_ok {M : HM} (h : M.Ok) (i y : Nat) (hy : y < 18446744073709551616) : (M.set i y).Ok := by
  refine ⟨by simpa [HM.set] using h.n, h.o, h.b, h.s, ?_, h.w2⟩
  intro x hx
  rcases List.mem_or_eq_of_mem_set hx with hx | rfl
  · exact h.w1 x hx
  · exact hy
theorem wvs_set (l k : List Nat) (i y : Nat) (hi : i < l.length) : (((l ++ k).map wv).toArray).setIfInBounds i (.int .u64 (y : Int)) = (((l.set i y) ++ k).map wv).toArray := by
  rw [List.setIfInBounds_toArray, ← List.set_append_left _ _ hi, List.map_set]
  rfl

/-- A number as a word; a word's number. -/
def numW (n : Int) : Nat := ((2 * n + 1) % 18446744073709551616).toNat
def isNumV (x : Nat) : Int := if x % 2 = 1 then wrap64 (x : Int) / 2 else 0

theorem num_eq (n : Int) : bits .or .u64 (IntKind.u64.wrap (IntKind.u64.wrap (wrap64 (IntKind.u64.wrap (IntKind.u64.wrap n * 2)) / 2) * 2)) 1 = ((numW n : Nat) : Int) := by
  have hu : ∀ m : Int, IntKind.u64.wrap m = m % 18446744073709551616 := fun m => by simp [IntKind.wrap, IntKind.bits, IntKind.signed]
  have e : IntKind.u64.wrap (IntKind.u64.wrap (wrap64 (IntKind.u64.wrap (IntKind.u64.wrap n * 2)) / 2) * 2) = (((2 * n) % 18446744073709551616).toNat : Int) := by
    simp only [hu, wrap64]
    omega
  rw [e]
  have h1 := u64_or_nat ((2 * n) % 18446744073709551616).toNat 1 (by omega) (by omega)
  rw [nat_join 1 _ _ (by omega) (by omega)] at h1
  have : ((2 * n) % 18446744073709551616).toNat + 1 = numW n := by unfold numW; omega
  rw [this] at h1
  exact h1

/-- A block at a, of n parts, moved behind the other half. -/
def HM.moved (M : HM) (a n : Nat) : HM :=
  { M with now := M.now.set a (M.oth.length * 8), oth := M.oth ++ (M.now.drop a).take (1 + n), osp := M.osp.drop (1 + n) }

/-- What move does: the heap, where the other half's blocks begin, and the word as it is there. None: an index out of its range. -/
def HM.mv (M : HM) (b2 : List Bool) (x : Nat) : Option (HM × List Bool × Nat) :=
  if x % 2 = 1 then some (M, b2, x) else
  match M.at x with
  | none => some (M, b2, 1)
  | some a =>
    if M.now.getD a 0 % 8 = 0 then some (M, b2, M.now.getD a 0 / 8 * 2) else
    if a + 1 + M.now.getD a 0 / 8 % 8192 ≤ M.now.length ∧ M.oth.length + 1 + M.now.getD a 0 / 8 % 8192 ≤ M.size then
      some (M.moved a (M.now.getD a 0 / 8 % 8192), b2.set M.oth.length true, M.oth.length * 2)
    else none
def HM.mvs (M : HM) (b2 : List Bool) : List Nat → Option (HM × List Bool × List Nat)
  | [] => some (M, b2, [])
  | x :: xs => match M.mv b2 x with
    | none => none
    | some (M', b2', y) => match M'.mvs b2' xs with
      | none => none
      | some (M'', b2'', ys) => some (M'', b2'', y :: ys)
def HM.setO (M : HM) (i y : Nat) : HM := { M with oth := M.oth.set i y }
/-- The parts from i on, so many. -/
def HM.scanI (M : HM) (b2 : List Bool) (i : Nat) : Nat → Option (HM × List Bool)
  | 0 => some (M, b2)
  | k + 1 => if i < M.oth.length then
      match M.mv b2 (M.oth.getD i 0) with
      | none => none
      | some (M', b2', y) => (M'.setO i y).scanI b2' (i + 1) k
    else none
def HM.scan (M : HM) (b2 : List Bool) (at_ : Nat) : Nat → Option (HM × List Bool)
  | 0 => if at_ < M.oth.length then none else some (M, b2)
  | f + 1 => if at_ < M.oth.length then
      match (if M.oth.getD at_ 0 % 8 = 4 then some (M, b2) else M.scanI b2 (at_ + 1) (M.oth.getD at_ 0 / 8 % 8192)) with
      | none => none
      | some (M', b2') => M'.scan b2' (at_ + 1 + M.oth.getD at_ 0 / 8 % 8192) f
    else some (M, b2)
def HM.empty2 (M : HM) : HM := { M with oth := [], osp := M.oth ++ M.osp }
def HM.swap (M : HM) (b2 : List Bool) : HM := { now := M.oth, nsp := M.osp, oth := M.now, osp := M.nsp, size := M.size, beg := b2 }
def HM.collect (M : HM) (roots : List Nat) (fuel : Nat) : Option (HM × List Nat) :=
  match M.empty2.mvs (List.replicate M.size false) roots with
  | none => none
  | some (M1, b1, out) => match M1.scan b1 0 fuel with
    | none => none
    | some (M2, b2) => some (M2.swap b2, out)

theorem HM.mv_size {M M' : HM} {b2 b2' : List Bool} {x y : Nat} (h : M.mv b2 x = some (M', b2', y)) : M'.size = M.size ∧ b2'.length = b2.length ∧ M.oth.length ≤ M'.oth.length := by
  unfold HM.mv at h
  split at h
  · cases h; exact ⟨rfl, rfl, Nat.le_refl _⟩
  · split at h
    · cases h; exact ⟨rfl, rfl, Nat.le_refl _⟩
    · split at h
      · cases h; exact ⟨rfl, rfl, Nat.le_refl _⟩
      · split at h
        · cases h; exact ⟨rfl, by simp, by simp [HM.moved]⟩
        · cases h
theorem HM.setO_ok {M : HM} (h : M.Ok) (i y : Nat) (hy : y < 18446744073709551616) : (M.setO i y).Ok := by
  refine ⟨h.n, by simpa [HM.setO] using h.o, h.b, h.s, h.w1, ?_⟩
  intro x hx
  rcases List.mem_or_eq_of_mem_set hx with hx | rfl
  · exact h.w2 x hx
  · exact hy
end Go.Proofs.Ytlgkgglecgdkgaa
