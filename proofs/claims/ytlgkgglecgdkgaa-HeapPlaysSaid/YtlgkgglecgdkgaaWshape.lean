/-
  The walk of the heap's Shape.
-/
import Derived.Test.YtlgkgglecgdkgaaWref
import Derived.Deep.RegionLaw
namespace Go.Proofs.Ytlgkgglecgdkgaa
open Go.RowKit
set_option maxHeartbeats 400000
set_option maxRecDepth 100000

/-- What Shape's closure works on: where the heap's pointer, the map and the blocks are kept, and the blocks that are known. -/
structure RS (W wr : World) (g bn bo bb : Nat) (M : HM) (base hb pb kb mb : Nat) (bs : List Nat) : Prop where
  h : HRep wr g bn bo bb M
  hh : Blk wr hb 39 #[.pointer (some ⟨g, 0, none⟩)]
  hp : Blk wr pb 93 #[.map (some mb)]
  hk : ∃ A c, Blk wr kb 46 #[.slice A bs.length c] ∧ wr.ownsRow base 26 1 (.slice A bs.length c) bs.length (bs.map wv)
  hm : Places wr mb bs.length bs
  hc : Chg (fun _ => False) W wr
  hbase : base = W.heap.size
  b0 : bn < base ∧ bo < base
  b1 : base ≤ hb ∧ base ≤ pb ∧ base ≤ kb ∧ base ≤ mb

/-- Blocks of references, or of cells, of the call's own. -/
def Own78 (base : Nat) (wr : World) (S : Nat → Prop) : Prop := ∀ k, S k → k < wr.heap.size → base ≤ k ∧ ∃ t cs, Blk wr k t cs ∧ (t = 51 ∨ t = 78)

section
variable {W wr w' : World} {g bn bo bb : Nat} {M : HM} {base hb pb kb mb : Nat} {bs : List Nat} {S : Nat → Prop}
theorem RS.base_le (h : RS W wr g bn bo bb M base hb pb kb mb bs) : base ≤ wr.heap.size := by have := h.hc.size; have := h.hbase; omega
theorem RS.chg (h : RS W wr g bn bo bb M base hb pb kb mb bs) (hc : Chg S wr w') (hS : Own78 base wr S) : RS W w' g bn bo bb M base hb pb kb mb bs := by
  have key : ∀ {k : Nat} {t : TypeId} {cs : Array Value}, Blk wr k t cs → t ≠ 51 → t ≠ 78 → ¬ S k := fun hk h1 h2 hs => by
    obtain ⟨_, t', cs', hb', ht⟩ := hS _ hs hk.lt
    rcases ht with rfl | rfl
    · exact Blk.ne_ hk hb' h1 rfl
    · exact Blk.ne_ hk hb' h2 rfl
  obtain ⟨A, c, hk, ho⟩ := h.hk
  refine ⟨h.h.chg hc (key h.h.st (by decide) (by decide)) (key h.h.rn (by decide) (by decide)) (key h.h.ro (by decide) (by decide)) (key h.h.rb (by decide) (by decide)),
    h.hh.chg hc (key h.hh (by decide) (by decide)), h.hp.chg hc (key h.hp (by decide) (by decide)), ⟨A, c, hk.chg hc (key hk (by decide) (by decide)), own_chg ho hc ?_⟩, h.hm.chg hc ?_, ?_, h.hbase, h.b0, h.b1⟩
  · intro k hk hs
    obtain ⟨_, t', cs', hb', ht⟩ := hS _ hs (ho.lt _ hk).2
    rcases ht with rfl | rfl
    · exact own_blk_ne ho hb' (by decide) hk
    · exact own_blk_ne ho hb' (by decide) hk
  · intro hs
    obtain ⟨_, t', cs', hb', ht⟩ := hS _ hs h.hm.lt
    exact h.hm.ne_ hb' rfl
  · refine h.hc.trans hc (fun i hi hs => ?_)
    have := (hS i hs (by have := h.hc.size; omega)).1
    have := h.hbase
    omega
theorem RS.alloc (h : RS W wr g bn bo bb M base hb pb kb mb bs) (o : Obj) : RS W (wr.alloc o) g bn bo bb M base hb pb kb mb bs :=
  h.chg (S := fun _ => False) ((Chg.refl _ _).alloc _) (fun _ h _ => h.elim)
theorem RS.drewN (h : RS W wr g bn bo bb M base hb pb kb mb bs) (k : Nat) : RS W (wr.drewN k) g bn bo bb M base hb pb kb mb bs :=
  h.chg (S := fun _ => False) ((Chg.refl _ _).drewN _) (fun _ h _ => h.elim)

theorem own_78 {size m : Nat} {t : TypeId} {v : Value} {xs : List Value} (ho : wr.ownsRow base t size v m xs) (ht : t = 51 ∨ t = 78) : Own78 base wr (fun k => v.ownBlock = some k) := by
  intro k hk _
  rcases ho.2 with ⟨rfl, _⟩ | ⟨g', cap, cur, rfl, hb, hh, _⟩
  · simp [Value.ownBlock] at hk
  · have : g' = k := by simpa [Value.ownBlock] using hk
    subst this
    exact ⟨hb, t, cur, hh, ht⟩

/-- What the closure may change. -/
def RSS (wr : World) (kb mb : Nat) (k : Nat) : Prop := k = kb ∨ k = mb ∨ ∃ cs, Blk wr k 26 cs
theorem ref_any (h : RS W wr g bn bo bb M base hb pb kb mb bs) (x : Nat) (hx : x < 18446744073709551616) (hl : bs.length ≤ 2000000) :
    Calls Try.prog 41 #[.int .u64 (x : Int), .pointer (some ⟨hb, 0, none⟩), .pointer (some ⟨pb, 0, none⟩), .pointer (some ⟨kb, 0, none⟩)] wr fun e w' =>
      e = .returned (.agg #[.bool (M.ref bs x).1.1, .int .i64 (M.ref bs x).1.2]) ∧ RS W w' g bn bo bb M base hb pb kb mb (M.ref bs x).2 ∧ Chg (fun k => base ≤ k ∧ RSS wr kb mb k) wr w' := by
  have hc0 := (h.hh.cell 0)
  simp only [List.getElem?_toArray, List.getElem?_cons_zero] at hc0
  have hp0 := (h.hp.cell 0)
  simp only [List.getElem?_toArray, List.getElem?_cons_zero] at hp0
  by_cases h1 : x % 2 = 1
  · have e : M.ref bs x = ((true, isNumV x), bs) := by simp [HM.ref, h1]
    rw [e]
    refine (ref_num M x hb pb kb wr hx h1).mono ?_
    rintro e w' ⟨rfl, hc⟩
    exact ⟨rfl, h.chg hc (fun _ h _ => h.elim), hc.mono (fun _ _ h => h.elim)⟩
  · cases h2 : M.value x
    · have e : M.ref bs x = ((true, 0), bs) := by simp [HM.ref, h1, h2]
      rw [e]
      refine (ref_bad M g bn bo bb x hb pb kb wr h.h hx (by omega) h2 hc0).mono ?_
      rintro e w' ⟨rfl, hc⟩
      exact ⟨rfl, h.chg hc (fun _ h _ => h.elim), hc.mono (fun _ _ h => h.elim)⟩
    · cases h3 : bs.idxOf? x with
      | some i =>
        have e : M.ref bs x = ((false, (i : Int)), bs) := by simp [HM.ref, h1, h2, h3]
        rw [e]
        refine (ref_old M g bn bo bb x hb pb kb mb bs.length i bs wr h.h hx (by omega) h2 hc0 hp0 h.hm h3).mono ?_
        rintro e w' ⟨rfl, hc⟩
        exact ⟨rfl, h.chg hc (fun _ h _ => h.elim), hc.mono (fun _ _ h => h.elim)⟩
      | none =>
        have e : M.ref bs x = ((false, (bs.length : Int)), bs ++ [x]) := by simp [HM.ref, h1, h2, h3]
        rw [e]
        obtain ⟨A, c, hk, ho⟩ := h.hk
        refine (ref_new M g bn bo bb x hb pb kb mb bs.length base c A bs wr h.h hx (by omega) h2 hc0 h.hp hk h.hm hl hl h3 ho h.base_le).mono ?_
        rintro e w' ⟨rfl, A', c', hk', hm', ho', hat, hc⟩
        have hS : ∀ k, (k = kb ∨ k = mb ∨ (Value.slice A bs.length c).ownBlock = some k) → base ≤ k := by
          rintro k (rfl | rfl | e)
          · exact h.b1.2.2.1
          · exact h.b1.2.2.2
          · exact (ho.lt _ e).1
        have hW : ∀ k, (k = kb ∨ k = mb ∨ (Value.slice A bs.length c).ownBlock = some k) → RSS wr kb mb k := by
          rintro k (rfl | rfl | e)
          · exact .inl rfl
          · exact .inr (.inl rfl)
          · rcases ho.2 with ⟨e2, _⟩ | ⟨g', cap, cur, e2, hb, hh, _⟩
            · rw [e2] at e; simp [Value.ownBlock] at e
            · rw [e2] at e
              have : g' = k := by simpa [Value.ownBlock] using e
              subst this
              exact .inr (.inr ⟨cur, hh⟩)
        have kn : ∀ {k : Nat} {t : TypeId} {cs : Array Value}, Blk wr k t cs → t ≠ 46 → t ≠ 26 → ¬ (k = kb ∨ k = mb ∨ (Value.slice A bs.length c).ownBlock = some k) := by
          rintro k t cs hk2 h46 h26 (rfl | rfl | e)
          · exact Blk.ne_ hk2 hk h46 rfl
          · exact h.hm.ne_ hk2 rfl
          · exact own_blk_ne ho hk2 (Ne.symm h26) e
        have hlt := h.b0
        have hlen : (bs ++ [x]).length = bs.length + 1 := by simp
        refine ⟨rfl, ⟨h.h.chg hc (kn h.h.st (by decide) (by decide)) ?_ ?_ (kn h.h.rb (by decide) (by decide)), h.hh.chg hc (kn h.hh (by decide) (by decide)), h.hp.chg hc (kn h.hp (by decide) (by decide)), ⟨A', c', hk', ho'⟩, by rw [hlen]; exact hm',
          h.hc.trans hc (fun i hi e => by have := hS i e; have := h.hbase; omega), h.hbase, h.b0, h.b1⟩, hc.mono (fun k _ e => ⟨hS k e, hW k e⟩)⟩
        · intro e; have := hS _ e; omega
        · intro e; have := hS _ e; omega
end

theorem RS.blk_keep {W wr w' : World} {g bn bo bb : Nat} {M : HM} {base hb pb kb mb : Nat} {bs : List Nat} {k : Nat} {t : TypeId} {cs : Array Value} (h : RS W wr g bn bo bb M base hb pb kb mb bs)
    (hb' : Blk wr k t cs) (h46 : t ≠ 46) (h26 : t ≠ 26) : ¬ RSS wr kb mb k := by
  obtain ⟨A, c, hk, _⟩ := h.hk
  rintro (rfl | rfl | ⟨cs2, h2⟩)
  · exact Blk.ne_ hb' hk h46 rfl
  · exact h.hm.ne_ hb' rfl
  · exact Blk.ne_ hb' h2 h26 rfl
theorem RS.own_keep {W wr w' : World} {g bn bo bb : Nat} {M : HM} {base hb pb kb mb : Nat} {bs : List Nat} {size m b0 : Nat} {t : TypeId} {v : Value} {xs : List Value} (h : RS W wr g bn bo bb M base hb pb kb mb bs)
    (ho : wr.ownsRow b0 t size v m xs) (ht : t = 51 ∨ t = 78) (hc : Chg (fun k => base ≤ k ∧ RSS wr kb mb k) wr w') : w'.ownsRow b0 t size v m xs := by
  refine own_chg ho hc (fun k hk hs => ?_)
  rcases ho.2 with ⟨e, _⟩ | ⟨g', cap, cur, e, hb, hh, _⟩
  · rw [e] at hk; simp [Value.ownBlock] at hk
  · rw [e] at hk
    have : g' = k := by simpa [Value.ownBlock] using hk
    subst this
    rcases ht with rfl | rfl
    · exact h.blk_keep (w' := w') (t := 51) hh (by decide) (by decide) hs.2
    · exact h.blk_keep (w' := w') (t := 78) hh (by decide) (by decide) hs.2

/-- References out of words, one by one. -/
def HM.refs (M : HM) (bs : List Nat) : List Nat → List (Bool × Int) × List Nat
  | [] => ([], bs)
  | x :: xs => ((M.ref bs x).1 :: (M.refs (M.ref bs x).2 xs).1, (M.refs (M.ref bs x).2 xs).2)
def HM.parts (M : HM) (x : Nat) : List Nat := (List.range (M.bn x)).map fun p => M.now.getD (x / 2 + 1 + p) 0
structure CellM where
  kind : Nat
  tag : Nat
  text : List UInt8
  parts : List (Bool × Int)
def HM.text (M : HM) (x : Nat) : List UInt8 := if (M.at x).isSome ∧ M.bk x = 4 then textBytes M.now (x / 2) (M.bt x) else []
def HM.cell (M : HM) (bs : List Nat) (x : Nat) : CellM × List Nat := (⟨M.bk x, M.bt x, M.text x, (M.refs bs (M.parts x)).1⟩, (M.refs bs (M.parts x)).2)
def HM.cells (M : HM) (bs : List Nat) (i : Nat) : Nat → Option (List CellM × List Nat)
  | 0 => if i < bs.length then none else some ([], bs)
  | f + 1 => if i < bs.length then
      match M.cells (M.cell bs (bs.getD i 0)).2 (i + 1) f with
      | none => none
      | some (cs, bs') => some ((M.cell bs (bs.getD i 0)).1 :: cs, bs')
    else some ([], bs)
def HM.shape (M : HM) (roots : List Nat) (fuel : Nat) : Option (List (Bool × Int) × List CellM × List Nat) :=
  match M.cells (M.refs [] roots).2 0 fuel with
  | none => none
  | some (cs, bs) => some ((M.refs [] roots).1, cs, bs)

theorem HM.ref_len (M : HM) (bs : List Nat) (x : Nat) : bs.length ≤ (M.ref bs x).2.length := by
  unfold HM.ref
  split
  · exact Nat.le_refl _
  · split
    · split <;> simp
    · exact Nat.le_refl _
theorem HM.refs_len (M : HM) (xs : List Nat) : ∀ bs : List Nat, bs.length ≤ (M.refs bs xs).2.length := by
  induction xs with
  | nil => intro bs; exact Nat.le_refl _
  | cons x xs ih => intro bs; exact Nat.le_trans (M.ref_len bs x) (ih _)
theorem HM.refs_count (M : HM) (xs : List Nat) : ∀ bs : List Nat, (M.refs bs xs).1.length = xs.length := by
  induction xs with
  | nil => intro bs; rfl
  | cons x xs ih => intro bs; simp [HM.refs, ih]
theorem HM.cells_len (M : HM) (f : Nat) : ∀ (bs : List Nat) (i : Nat) (cs : List CellM) (bs' : List Nat), M.cells bs i f = some (cs, bs') → bs.length ≤ bs'.length ∧ (i ≤ bs'.length → i + cs.length ≤ bs'.length) := by
  induction f with
  | zero =>
    intro bs i cs bs' h
    unfold HM.cells at h
    split at h
    · cases h
    · cases h; exact ⟨Nat.le_refl _, fun h => h⟩
  | succ f ih =>
    intro bs i cs bs' h
    unfold HM.cells at h
    split at h
    · rename_i hi
      split at h
      · cases h
      · rename_i cs2 bs2 h2
        cases h
        have h3 := ih _ _ _ _ h2
        have h4 : bs.length ≤ (M.cell bs (bs.getD i 0)).2.length := M.refs_len _ _
        refine ⟨by omega, fun _ => ?_⟩
        have := h3.2 (by omega)
        simp; omega
    · cases h; exact ⟨Nat.le_refl _, fun h => h⟩

def rfv (r : Bool × Int) : List Value := [.bool r.1, .int .i64 r.2]
theorem rfv_one (l : List (Bool × Int)) : ∀ u ∈ l.flatMap rfv, u.oneCell' = true := by
  intro u hu
  obtain ⟨r, _, h⟩ := List.mem_flatMap.1 hu
  simp [rfv] at h
  rcases h with rfl | rfl <;> rfl
theorem rfv_len (l : List (Bool × Int)) : (l.flatMap rfv).length = l.length * 2 := by
  induction l with
  | nil => rfl
  | cons r l ih => simp [rfv] at *; omega
theorem info51 : (Try.prog.info? 51).map (fun i => (i.zero, i.size, i.bytes)) = some (some (.agg #[.bool false, .int .i64 0]), 2, 16) := by kernel_rfl
theorem info78 : (Try.prog.info? 78).map (fun i => (i.zero, i.size, i.bytes)) = some (some (.agg #[.int .i64 0, .int .i64 0, .string ByteArray.empty, .slice none 0 0]), 4, 56) := by kernel_rfl

/-- Parts and texts lie within what is used. -/
def HM.Wf (M : HM) : Prop := ∀ x, (M.at x).isSome = true → x / 2 + 1 + M.bn x ≤ M.now.length ∧ (M.bk x = 4 → x / 2 + 1 + (M.bt x + 7) / 8 ≤ M.now.length ∧ M.bt x ≤ 1048576)
def HM.BsOk (M : HM) (bs : List Nat) : Prop := ∀ y ∈ bs, (M.at y).isSome = true ∧ y < 18446744073709551616
theorem HM.ref_ok {M : HM} {bs : List Nat} (h : M.BsOk bs) {x : Nat} (hx : x < 18446744073709551616) : M.BsOk (M.ref bs x).2 := by
  unfold HM.ref
  split
  · exact h
  · rename_i h1
    split
    · rename_i h2
      split
      · exact h
      · intro y hy
        rcases List.mem_append.1 hy with hy | hy
        · exact h y hy
        · simp at hy
          subst hy
          unfold HM.value at h2
          simp [h1] at h2
          exact ⟨h2, hx⟩
    · exact h
theorem HM.refs_ok {M : HM} (xs : List Nat) : ∀ (bs : List Nat), M.BsOk bs → (∀ x ∈ xs, x < 18446744073709551616) → M.BsOk (M.refs bs xs).2 := by
  induction xs with
  | nil => intro bs h _; exact h
  | cons x xs ih => intro bs h hx; exact ih _ (HM.ref_ok h (hx x (by simp))) (fun y hy => hx y (by simp [hy]))
theorem HM.parts_lt {M : HM} (h : M.Ok) (x : Nat) : ∀ y ∈ M.parts x, y < 18446744073709551616 := by
  intro y hy
  obtain ⟨p, _, rfl⟩ := List.mem_map.1 hy
  exact h.getD _
theorem text_any (M : HM) (g bn bo bb x : Nat) (w : World) (h : HRep w g bn bo bb M) (hx : x < 18446744073709551616) (hs : (M.at x).isSome = true) (hwf : M.Wf) :
    Calls Try.prog 30 #[.pointer (some ⟨g, 0, none⟩), .int .u64 x] w fun e w' => ∃ b : Bool, e = .returned (.tuple #[.string ⟨(M.text x).toArray⟩, .bool b]) ∧ Chg (fun _ => False) w w' := by
  by_cases hk : M.bk x = 4
  · have e : M.text x = textBytes M.now (x / 2) (M.bt x) := by simp [HM.text, hs, hk]
    rw [e]
    have h2 := (hwf x hs).2 hk
    refine (text_yes M g bn bo bb x _ w h hx hs hk rfl h2.2 h2.1).mono ?_
    rintro e w' ⟨rfl, hc⟩
    exact ⟨_, rfl, hc⟩
  · have e : M.text x = [] := by simp [HM.text, hk]
    rw [e]
    refine (text_none M g bn bo bb x w h hx (.inr hk)).mono ?_
    rintro e w' ⟨rfl, rfl⟩
    exact ⟨_, rfl, Chg.refl _ _⟩

/-- Rows of references that are finished: all their blocks lie below B. -/
def FR (base B : Nat) (wr : World) (l : List (Value × List (Bool × Int))) : Prop := ∀ p ∈ l, wr.ownsRow base 51 2 p.1 p.2.length (p.2.flatMap rfv) ∧ ∀ k, p.1.ownBlock = some k → k < B
theorem FR.keep {base B : Nat} {wr w' : World} {l : List (Value × List (Bool × Int))} {S : Nat → Prop} (h : FR base B wr l) (hc : Chg S wr w') (hS : ∀ k t cs, k < B → Blk wr k 51 cs → t = 51 → ¬ S k) : FR base B w' l := by
  intro p hp
  obtain ⟨ho, hlt⟩ := h p hp
  refine ⟨own_chg ho hc (fun k hk => ?_), hlt⟩
  rcases ho.2 with ⟨e, _⟩ | ⟨g', cap, cur, e, hb, hh, _⟩
  · rw [e] at hk; simp [Value.ownBlock] at hk
  · have hkl := hlt k hk
    rw [e] at hk
    have : g' = k := by simpa [Value.ownBlock] using hk
    subst this
    exact hS g' 51 cur hkl hh rfl

theorem own_78' {base B : Nat} {wr : World} {size m : Nat} {t : TypeId} {v : Value} {xs : List Value} (ho : wr.ownsRow B t size v m xs) (hB : base ≤ B) (ht : t = 51 ∨ t = 78) : Own78 base wr (fun k => v.ownBlock = some k) := by
  intro k hk hl
  obtain ⟨h1, h2⟩ := own_78 ho ht k hk hl
  exact ⟨by omega, h2⟩
theorem own_own_ne {w : World} {b0 b1 s0 s1 m0 m1 : Nat} {t t' : TypeId} {v v' : Value} {xs xs' : List Value} (h : w.ownsRow b0 t s0 v m0 xs) (h' : w.ownsRow b1 t' s1 v' m1 xs') (hne : t ≠ t') (k : Nat) (e : v.ownBlock = some k) : ¬ v'.ownBlock = some k := by
  rcases h.2 with ⟨e2, _⟩ | ⟨g', cap, cur, e2, hb, hh, _⟩
  · rw [e2] at e; simp [Value.ownBlock] at e
  · rw [e2] at e
    have : g' = k := by simpa [Value.ownBlock] using e
    subst this
    exact own_blk_ne h' (t := t) hh (Ne.symm hne)
theorem HM.parts_drop (M : HM) (x p N : Nat) (hN : M.bn x = N) (hp : p < N) : (M.parts x).drop p = M.now.getD (x / 2 + 1 + p) 0 :: (M.parts x).drop (p + 1) := by
  subst hN
  have hl : p < (M.parts x).length := by simp [HM.parts, hp]
  rw [List.drop_eq_getElem_cons hl]
  simp [HM.parts]
theorem HM.parts_len (M : HM) (x : Nat) : (M.parts x).length = M.bn x := by simp [HM.parts]

/-- A cell's four values. -/
def cev (p : Value × CellM) : List Value := [.int .i64 (p.2.kind : Int), .int .i64 (p.2.tag : Int), .string ⟨p.2.text.toArray⟩, p.1]

theorem shape_round {W wr w2 w3 : World} {g bn bo bb hb : Nat} {M : HM} {base pb kb mb B p nq cp : Nat} {bsp b2 : List Nat} {K TT : Int} {TX : ByteArray} {Ap A3 : Option Addr} {c3 : Nat} {xs xs3 ys : List Value} {Q : Value}
    {l : List (Value × List (Bool × Int))} {u : Array Value}
    (hR : RS W wr g bn bo bb M base hb pb kb mb bsp) (hB : Blk wr B 78 #[.int .i64 K, .int .i64 TT, .string TX, .slice Ap p cp]) (hOc : wr.ownsRow base 78 4 Q nq ys) (hF : FR base B wr l)
    (hR2 : RS W w2 g bn bo bb M base hb pb kb mb b2) (hc2 : Chg (fun k => base ≤ k ∧ RSS (wr.drewN 1) kb mb k) (wr.drewN 1) w2)
    (hB2 : Blk w2 B 78 #[.int .i64 K, .int .i64 TT, .string TX, .slice Ap p cp]) (hO2 : w2.ownsRow B 51 2 (.slice Ap p cp) p xs)
    (hB3 : Blk w3 B 78 #[.int .i64 K, .int .i64 TT, .string TX, .slice Ap p cp]) (hO3 : w3.ownsRow B 51 2 (.slice A3 (p + 1) c3) (p + 1) (xs ++ xs3)) (hc3 : Chg (fun k => (Value.slice Ap p cp).ownBlock = some k) (w2.alloc (.cells u 51)) w3)
    (hset : Chg (fun i => i = B) w3 (w3.setCell ⟨B, 3, none⟩ (.slice A3 (p + 1) c3))) (hBb : base ≤ B) (hOq : ∀ k, Q.ownBlock = some k → k < B) (hbok : M.BsOk b2) :
    RS W (w3.setCell ⟨B, 3, none⟩ (.slice A3 (p + 1) c3)) g bn bo bb M base hb pb kb mb b2 ∧ Blk (w3.setCell ⟨B, 3, none⟩ (.slice A3 (p + 1) c3)) B 78 #[.int .i64 K, .int .i64 TT, .string TX, .slice A3 (p + 1) c3] ∧
      (w3.setCell ⟨B, 3, none⟩ (.slice A3 (p + 1) c3)).ownsRow B 51 2 (.slice A3 (p + 1) c3) (p + 1) (xs ++ xs3) ∧ (w3.setCell ⟨B, 3, none⟩ (.slice A3 (p + 1) c3)).ownsRow base 78 4 Q nq ys ∧
      FR base B (w3.setCell ⟨B, 3, none⟩ (.slice A3 (p + 1) c3)) l ∧ M.BsOk b2 := by
  have hRd := hR.drewN 1
  refine ⟨?_, hB3.set_ 3 _, ?_, ?_, ?_, hbok⟩
  · refine ((hR2.alloc (.cells u 51)).chg hc3 (own_78' (hO2.alloc _) hBb (.inl rfl))).chg hset ?_
    intro k hk _
    subst hk
    exact ⟨hBb, 78, _, hB3, .inr rfl⟩
  · exact own_chg hO3 hset (fun k hk e => own_blk_ne hO3 hB3 (by decide) (e ▸ hk))
  · have h1 := hRd.own_keep (w' := w2) (show (wr.drewN 1).ownsRow base 78 4 Q nq ys from hOc) (.inr rfl) hc2
    have h2 := own_chg (h1.alloc (.cells u 51)) hc3 (fun k hk e => own_own_ne (hO2.alloc (.cells u 51)) (h1.alloc (.cells u 51)) (by decide) k e hk)
    exact own_chg h2 hset (fun k hk e => by have := hOq k hk; omega)
  · have h0 : FR base B (wr.drewN 1) l := hF
    have h1 := h0.keep hc2 (fun k t cs _ hk _ e => hRd.blk_keep (w' := w2) hk (by decide) (by decide) e.2)
    have h2 := h1.keep ((Chg.refl (fun _ => False) w2).alloc (.cells u 51)) (fun _ _ _ _ _ _ => id)
    have h3 := h2.keep hc3 (fun k t cs hk _ _ e => by have := ((hO2.alloc (.cells u 51)).lt k e).1; omega)
    exact h3.keep hset (fun k t cs hk _ _ e => by omega)

theorem own_base {w : World} {b0 b1 size m : Nat} {t : TypeId} {v : Value} {xs : List Value} (h : w.ownsRow b1 t size v m xs) (hb : b0 ≤ b1) : w.ownsRow b0 t size v m xs := by
  obtain ⟨h1, h2⟩ := h
  refine ⟨h1, ?_⟩
  rcases h2 with h2 | ⟨g, cap, cur, hv, hg, r⟩
  · exact .inl h2
  · exact .inr ⟨g, cap, cur, hv, by omega, r⟩
theorem shape_end {W wr w3 : World} {g bn bo bb hb : Nat} {M : HM} {base pb kb mb B p nq cp m3 : Nat} {bsp : List Nat} {Ap : Option Addr} {Q v3 rv : Value}
    {rs1 doneP : List (Bool × Int)} {fin : List (Value × CellM)} {K TT : Nat} {TX : List UInt8} {u : Array Value}
    (hR : RS W wr g bn bo bb M base hb pb kb mb bsp) (hOc : wr.ownsRow base 78 4 Q nq (fin.flatMap cev)) (hF : FR base B wr ((rv, rs1) :: fin.map (fun p => (p.1, p.2.parts)))) (hB : B < wr.heap.size)
    (hO : wr.ownsRow B 51 2 (.slice Ap p cp) p (doneP.flatMap rfv)) (hdp : doneP.length = p) (hO3 : w3.ownsRow base 78 4 v3 m3 (fin.flatMap cev ++ cev (.slice Ap p cp, ⟨K, TT, TX, doneP⟩)))
    (hc3 : Chg (fun k => Q.ownBlock = some k) (wr.alloc (.cells u 78)) w3) (hBb : base ≤ B) (hbok : M.BsOk bsp) :
    RS W w3 g bn bo bb M base hb pb kb mb bsp ∧ M.BsOk bsp ∧ w3.ownsRow base 78 4 v3 m3 ((fin ++ [((Value.slice Ap p cp, (⟨K, TT, TX, doneP⟩ : CellM)) : Value × CellM)]).flatMap cev) ∧
      FR base w3.heap.size w3 ((rv, rs1) :: (fin ++ [((Value.slice Ap p cp, (⟨K, TT, TX, doneP⟩ : CellM)) : Value × CellM)]).map (fun p => (p.1, p.2.parts))) := by
  have hsz : wr.heap.size < w3.heap.size := by have := hc3.size; simp at this; omega
  refine ⟨(hR.alloc _).chg hc3 (own_78 (hOc.alloc _) (.inr rfl)), hbok, by simpa using hO3, ?_⟩
  have h1 := hF.keep ((Chg.refl (fun _ => False) wr).alloc (.cells u 78)) (fun _ _ _ _ _ _ => id)
  have h2 := h1.keep hc3 (fun k t cs _ hk _ e => own_blk_ne (hOc.alloc (.cells u 78)) hk (by decide) e)
  have hnew := own_chg (hO.alloc (.cells u 78)) hc3 (fun k hk e => own_own_ne (hO.alloc (.cells u 78)) (hOc.alloc (.cells u 78)) (by decide) k hk e)
  intro q hq
  rw [List.map_append, ← List.cons_append] at hq
  rcases List.mem_append.1 hq with hq | hq
  · obtain ⟨h3, h4⟩ := h2 q hq
    exact ⟨h3, fun k hk => by have := h4 k hk; omega⟩
  · simp at hq
    subst hq
    dsimp only
    rw [hdp]
    exact ⟨own_base hnew hBb, fun k hk => (hnew.lt k hk).2⟩

def RdRefs (w : World) (v : Value) (l : List (Bool × Int)) : Prop := ∃ A c, v = .slice A l.length c ∧ Rd (fun _ => True) w A (l.flatMap rfv)
def RdCells (w : World) (v : Value) (l : List CellM) : Prop := ∃ (A : Option Addr) (c : Nat) (fin : List (Value × CellM)), v = .slice A l.length c ∧ fin.map (·.2) = l ∧ Rd (fun _ => True) w A (fin.flatMap cev) ∧ ∀ p ∈ fin, RdRefs w p.1 p.2.parts
def ShapeOut (W : World) (v1 v2 : Value) (rs : List (Bool × Int)) (cs : List CellM) (w' : World) : Prop := RdRefs w' v1 rs ∧ RdCells w' v2 cs ∧ Chg (fun _ => False) W w'
theorem FR.refs {base B : Nat} {wr : World} {l : List (Value × List (Bool × Int))} (h : FR base B wr l) {p : Value × List (Bool × Int)} (hp : p ∈ l) : RdRefs wr p.1 p.2 := by
  obtain ⟨ho, _⟩ := h p hp
  obtain ⟨A, c, hv⟩ := own_val ho
  rw [hv] at ho
  exact ⟨A, c, hv, (own_rd ho (by omega)).mono (fun _ _ => trivial)⟩
theorem shape_fin {W wr : World} {g bn bo bb hb : Nat} {M : HM} {base pb kb mb B nq cq n cv : Nat} {bsp : List Nat} {Av Aq : Option Addr} {rs1 rs : List (Bool × Int)} {fin : List (Value × CellM)} {cs : List CellM}
    (hR : RS W wr g bn bo bb M base hb pb kb mb bsp) (hOc : wr.ownsRow base 78 4 (.slice Aq nq cq) nq (fin.flatMap cev)) (hF : FR base B wr ((.slice Av n cv, rs1) :: fin.map (fun p => (p.1, p.2.parts)))) (hfl : fin.length = nq) (hcs : cs = fin.map (·.2)) (hrs : rs1 = rs) :
    ShapeOut W (.slice Av n cv) (.slice Aq nq cq) rs cs wr := by
  subst hrs hcs hfl
  refine ⟨hF.refs (p := (.slice Av n cv, rs1)) (by simp), ⟨Aq, cq, fin, by simp, rfl, (own_rd hOc (by omega)).mono (fun _ _ => trivial), fun p hp => ?_⟩, hR.hc⟩
  exact hF.refs (p := (p.1, p.2.parts)) (List.mem_cons_of_mem _ (List.mem_map.2 ⟨p, hp, rfl⟩))

theorem cev_one (p : Option Addr × Nat × Nat × CellM) : ∀ u ∈ cev (.slice p.1 p.2.1 p.2.2.1, p.2.2.2), u.oneCell' = true := by
  intro u hu
  simp [cev] at hu
  rcases hu with rfl | rfl | rfl | rfl <;> rfl

set_option maxHeartbeats 4000000 in
theorem shape_any (M : HM) (g bn bo bb c fuel : Nat) (A : Option Addr) (roots : List Nat) (T : Nat → Prop) (rs : List (Bool × Int)) (cs : List CellM) (bs : List Nat) (w : World) (h : HRep w g bn bo bb M)
    (hr : Rd T w A (roots.map wv)) (hx : ∀ x ∈ roots, x < 18446744073709551616) (hT : ∀ b, T b → b < w.heap.size) (hn : roots.length ≤ 1048576) (hbs : bs.length ≤ 1048576) (hwf : M.Wf)
    (hsh : M.shape roots fuel = some (rs, cs, bs)) :
    Calls Try.prog 23 #[.pointer (some ⟨g, 0, none⟩), .slice A roots.length c] w fun e w' => ∃ v1 v2, e = .returned (.tuple #[v1, v2]) ∧ ShapeOut w v1 v2 rs cs w' := by
  obtain ⟨i0, hi0, hz0, hz1, hz2⟩ := info_parts info51
  obtain ⟨j0, hj0, hy0, hy1, hy2⟩ := info_parts info78
  have Hh := hide h
  have HR := hide hr
  have HX := hide hx
  have HT := hide hT
  have HSH := hide hsh
  clear h hr hx hT hsh
  have hmm := @run_makeMap Try.prog
  go_enter Try.func23, Try.ntmps23
  go_wp2_with fail
  have hbase : w.heap.size = w.heap.size := rfl
  have hRS : RS w ((((w.alloc (.cells #[.pointer (some ⟨g, 0, none⟩)] 39)).alloc (.cells #[.slice none 0 0] 46)).alloc (.map #[] 0)).alloc (.cells #[.map (some (w.heap.size + 1 + 1))] 93)) g bn bo bb M w.heap.size w.heap.size (w.heap.size + 1 + 1 + 1) (w.heap.size + 1) (w.heap.size + 1 + 1) [] := by
    have hc : Chg (fun _ => False) w ((((w.alloc (.cells #[.pointer (some ⟨g, 0, none⟩)] 39)).alloc (.cells #[.slice none 0 0] 46)).alloc (.map #[] 0)).alloc (.cells #[.map (some (w.heap.size + 1 + 1))] 93)) := ((((Chg.refl _ w).alloc _).alloc _).alloc _).alloc _
    refine ⟨(unhide Hh).chg hc id id id id, (((Blk.new_at w _ 39 _ rfl).alloc _).alloc _).alloc _, Blk.new_at _ _ 93 _ (by simp), ⟨none, 0, ((Blk.new_at _ _ 46 _ (by simp)).alloc _).alloc _, World.ownsRow_nil _ _ _ _⟩, (MapK.made _ _ _ _ _ _ _ (by simp)).alloc _, hc, rfl, ⟨(unhide Hh).rn.lt, (unhide Hh).ro.lt⟩, by omega⟩
  have hRd := (unhide HR).chg hRS.hc (fun b hb _ => id)
  generalize (((w.alloc (.cells #[.pointer (some ⟨g, 0, none⟩)] 39)).alloc (.cells #[.slice none 0 0] 46)).alloc (.map #[] 0)).alloc (.cells #[.map (some (w.heap.size + 1 + 1))] 93) = w1 at *
  generalize w.heap.size + 1 + 1 + 1 = pb at *
  generalize w.heap.size + 1 + 1 = mb at *
  generalize w.heap.size + 1 = kb at *
  generalize hbb : w.heap.size = base at *
  have HRd := hide hRd
  have HBB := hide hbb
  have H64 := hide (getD_lt64 (unhide HX))
  clear hRd hbb hbase
  obtain ⟨rs1, bs1, hrefs⟩ : ∃ a b, M.refs [] roots = (a, b) := ⟨_, _, rfl⟩
  have hlen1 : bs1.length ≤ bs.length := by
    have := unhide HSH
    unfold HM.shape at this
    rw [hrefs] at this
    split at this
    · cases this
    · rename_i hcl
      cases this
      exact (M.cells_len _ _ _ _ _ hcl).1
  have hrr := M.refs_len
  have Hrr := hide hrr
  have HREFS := hide hrefs
  clear hrr hrefs hmm
  go_loopw [9, 27] (fun v i wr => ∃ (j : Nat) (done rest : List (Bool × Int)) (bsj : List Nat), i = .int .i64 j ∧ j ≤ roots.length ∧ done.length = j ∧ rs1 = done ++ rest ∧ M.refs bsj (roots.drop j) = (rest, bs1) ∧
      RS w wr g bn bo bb M base base pb kb mb bsj ∧ wr.ownsRow base 51 2 v j (done.flatMap rfv)) (fun _ i _ => roots.length - (intOf i).toNat)
  case atStart => exact ⟨0, [], rs1, [], rfl, Nat.zero_le _, rfl, rfl, unhide HREFS, hRS, World.ownsRow_nil _ _ _ _⟩
  case round =>
    obtain ⟨j, done, rest, bsj, rfl, hj, hdl, hrs, hrf, hR, hO⟩ := hrel
    obtain ⟨Av, cv, rfl⟩ := own_val hO
    by_cases hlt2 : j < roots.length
    · have hdrop : roots.drop j = roots.getD j 0 :: roots.drop (j + 1) := by
        rw [List.drop_eq_getElem_cons hlt2, List.getD_eq_getElem?_getD, List.getElem?_eq_getElem hlt2]; rfl
      have hne : roots.map wv ≠ [] := by intro e; have := congrArg List.length e; simp at this; subst this; simp at hlt2
      obtain ⟨b, o, rfl, hTb, hcc⟩ := (unhide HR).flat hne
      have hcell := hcc j _ (wv_at roots hlt2)
      have hcell2 : wr.cell? ⟨b, o + j, none⟩ = some (.int .u64 ((roots.getD j 0 : Nat) : Int)) := by
        rw [← hcell]; exact hR.hc.cell (by have := unhide HT b hTb; have := unhide HBB; simp; omega) id
      rw [hdrop] at hrf
      have hx := unhide H64 j
      clear hcc hcell hdrop hne
      generalize roots.getD j 0 = x at *
      have hlenb : bsj.length ≤ 2000000 := by
        have := unhide Hrr (x :: roots.drop (j + 1)) bsj
        rw [hrf] at this
        simp only at this
        omega
      have hcall := ref_any hR x hx hlenb
      unfold HM.refs at hrf
      generalize M.ref bsj x = q at hcall hrf
      obtain ⟨⟨r1, r2⟩, b2⟩ := q
      obtain ⟨rest2, rfl⟩ : ∃ l, rest = (r1, r2) :: l := ⟨_, (congrArg Prod.fst hrf).symm⟩
      have hrf2 : M.refs b2 (roots.drop (j + 1)) = (rest2, bs1) := by
        simp only [Prod.mk.injEq, List.cons.injEq, true_and] at hrf
        exact Prod.ext hrf.1 hrf.2
      have HCALL := hide hcall
      have HRF := hide hrf2
      have HRS := hide hrs
      have HRR := hide hR
      have HO := hide hO
      have HDL := hide hdl
      clear hcall hrf hrf2 hrs hR hO hdl
      go_wp2_with (first
        | (go_at_call 41; refine (unhide HCALL).mono ?_; rintro e w2 ⟨rfl, hR2, hc2⟩; have ho2 := (unhide HRR).own_keep (unhide HO) (.inl rfl) hc2; have HR2 := hide hR2; have HO2 := hide ho2; have hb2 := hR2.base_le; clear hR2 hc2 ho2)
        | (at_builtin
           refine wpList_append_rd _ rfl (.tmp 31) (.tmp 35) 33 rfl base 51 i0 _ 2 16 Try.underlying33 hi0 hz0 hz1 hz2 rfl (by omega) (.slice Av j cv) j (done.flatMap rfv) rfl ((unhide HO2).alloc _) (· = w2.heap.size) (some ⟨w2.heap.size, 0, none⟩) 1 1 (rfv (r1, r2)) rfl rfl (rd_new _ _ 51 (rfv (r1, r2)) rfl) (by intro u hu; simp [rfv] at hu; rcases hu with rfl | rfl <;> rfl) (by simp only [maxLen]; omega) (by omega) (by simp; omega) ?_
           intro v3 w3 ho3 hc3 hat
           have hR3 := ((unhide HR2).alloc (.cells (rfv (r1, r2)).toArray 51)).chg hc3 (own_78 ((unhide HO2).alloc _) (.inl rfl))
           have HR3 := hide hR3
           have HO3 := hide ho3
           clear hR3 ho3 hc3 hat))
      go_roundw
      case rel =>
        refine ⟨j + 1, done ++ [(r1, r2)], rest2, b2, by go_num, by omega, by simp [unhide HDL], by rw [unhide HRS]; simp, unhide HRF, unhide HR3, ?_⟩
        have := unhide HO3
        rw [List.flatMap_append]
        simpa using this
      case measure => simp [intOf]; omega
    · obtain rfl : j = roots.length := by omega
      rw [List.drop_length] at hrf
      simp only [HM.refs, Prod.mk.injEq] at hrf
      obtain ⟨rfl, rfl⟩ := hrf
      rw [List.append_nil] at hrs
      subst hrs
      have hbok : M.BsOk bsj := by
        have := HM.refs_ok (M := M) roots [] (by intro y hy; cases hy) (unhide HX)
        rw [unhide HREFS] at this
        exact this
      have hcells : ∃ f, fuel = f ∧ M.cells bsj 0 fuel = some (cs, bs) ∧ rs = rs1 := by
        have := unhide HSH
        unfold HM.shape at this
        rw [unhide HREFS] at this
        split at this
        · cases this
        · rename_i hcl
          cases this
          exact ⟨_, rfl, hcl, rfl⟩
      obtain ⟨_, _, hcl, hrse⟩ := hcells
      have HCL := hide hcl
      have HBOK := hide hbok
      have HRSE := hide hrse
      have HWF := hide hwf
      have HO1 := hide hO
      have HR1 := hide hR
      clear hcl hbok hrse hwf hO hR
      go_wp2_with fail
      go_loopw [12, 13] (fun v i wq => ∃ (j f : Nat) (fin : List (Value × CellM)) (restC : List CellM) (bsj : List Nat), i = .int .i64 j ∧ fin.length = j ∧ cs = fin.map (·.2) ++ restC ∧ M.cells bsj j f = some (restC, bs) ∧
          RS w wq g bn bo bb M base base pb kb mb bsj ∧ M.BsOk bsj ∧ wq.ownsRow base 78 4 v j (fin.flatMap cev) ∧ FR base wq.heap.size wq ((.slice Av roots.length cv, rs1) :: fin.map (fun p => (p.1, p.2.parts)))) (fun _ i _ => bs.length - (intOf i).toNat)
      case atStart =>
        refine ⟨0, _, [], cs, bsj, rfl, rfl, rfl, unhide HCL, unhide HR1, unhide HBOK, World.ownsRow_nil _ _ _ _, ?_⟩
        intro p hp
        simp at hp
        subst hp
        have hO := unhide HO1
        rw [← hdl] at hO
        exact ⟨by rw [← hdl]; exact hO, fun k hk => by rw [← hdl] at hk; exact (hO.lt k hk).2⟩
      case round =>
        obtain ⟨wq, rfl⟩ : ∃ wq : World, wq = wr := ⟨_, rfl⟩
        obtain ⟨j2, f, fin, restC, bsq, rfl, hfl, hcs, hcl, hR, hbok, hO, hF⟩ := hrel
        obtain ⟨Aq, cq, rfl⟩ := own_val hO
        obtain ⟨Ak, ck, hk, hko⟩ := hR.hk
        have ck0 := hk.cell 0
        have ch0 := hR.hh.cell 0
        simp only [List.getElem?_toArray, List.getElem?_cons_zero] at ck0 ch0
        have hbslen := (M.cells_len _ _ _ _ _ hcl).1
        by_cases hlt3 : j2 < bsq.length
        · obtain ⟨f2, rfl⟩ : ∃ f2, f = f2 + 1 := by
            cases f with
            | zero => simp [HM.cells, hlt3] at hcl
            | succ f => exact ⟨f, rfl⟩
          unfold HM.cells at hcl
          rw [if_pos hlt3] at hcl
          split at hcl
          · cases hcl
          rename_i cs2 bs2 hcl2
          obtain ⟨rfl, rfl⟩ : (M.cell bsq (bsq.getD j2 0)).1 :: cs2 = restC ∧ bs2 = bs := by cases hcl; exact ⟨rfl, rfl⟩
          have hx := hbok (bsq.getD j2 0) (by rw [List.getD_eq_getElem?_getD, List.getElem?_eq_getElem hlt3]; exact List.getElem_mem hlt3)
          obtain ⟨bk, ok, hAk, _, hcc⟩ := (own_rd hko (by omega)).flat (by intro e; have := congrArg List.length e; simp at this; subst this; simp at hlt3)
          have hcx := hcc j2 _ (wv_at bsq hlt3)
          subst hAk
          clear hcl hcc
          generalize bsq.getD j2 0 = x at *
          have hblock := block_any M g bn bo bb x wq hR.h hx.2
          rw [hx.1] at hblock
          have HBLK := hide hblock
          have HR := hide hR
          have HO := hide hO
          have HF := hide hF
          have HX := hide hx
          have HCL2 := hide hcl2
          have HCS := hide hcs
          have HFL := hide hfl
          have HBOK := hide hbok
          have HK := hide hk
          have HKO := hide hko
          have Htext : Hid (∀ W, Chg (fun _ => False) wq W → Calls Try.prog 30 #[.pointer (some ⟨g, 0, none⟩), .int .u64 x] W fun e w' => ∃ b : Bool, e = .returned (.tuple #[.string ⟨(M.text x).toArray⟩, .bool b]) ∧ Chg (fun _ => False) W w') :=
            hide (fun W hc => text_any M g bn bo bb x W (hR.h.chg hc id id id id) hx.2 hx.1 (unhide HWF))
          have hbn := bn_lt M x
          have hbt : M.bt x < 281474976710656 := by
            unfold HM.bt
            split
            · have := hR.h.ok.getD (x / 2); omega
            · omega
          have hbase2 := hR.base_le
          have hltb : base < wq.heap.size := hR.hh.lt
          clear hR hO hF hx hcl2 hcs hfl hbok hk hko hblock
          generalize hBN : M.bn x = N at *
          generalize hBK : M.bk x = K at *
          generalize hBT : M.bt x = TT at *
          generalize hTX : M.text x = TX at *
          have ch1 := World.cell?_alloc_lt wq (.cells #[.int .i64 (K : Int), .int .i64 (TT : Int), .string ⟨#[]⟩, .slice none 0 0] 78) ⟨base, 0, none⟩ hltb
          have HEQ := hide (show _ ∧ _ ∧ _ ∧ _ from ⟨hBN, hBK, hBT, hTX⟩)
          clear hBN hBK hBT hTX
          go_wp2_with (first
            | (go_at_call 29; refine (unhide HBLK).mono ?_; rintro e w' ⟨rfl, rfl⟩)
            | (go_at_call 30; refine (unhide Htext _ (((Chg.refl _ wq).alloc _))).mono ?_; rintro e w4 ⟨tb, rfl, hc4⟩
               have hb4 := (Blk.new_at wq wq.heap.size 78 #[.int .i64 (K : Int), .int .i64 (TT : Int), .string ⟨#[]⟩, .slice none 0 0] rfl).chg hc4 id
               have hf4 := hb4.frozen 2
               have hcc4 := hb4.cell 2
               simp only [List.getElem?_toArray, List.getElem?_cons_zero, List.getElem?_cons_succ] at hcc4
               have HB4 := hide hb4
               have HC4 := hide hc4
               clear hb4 hc4))
          have hB5 := (unhide HB4).set_ 2 (.string ⟨TX.toArray⟩)
          have hC5 : Chg (fun _ => False) wq (w4.setCell ⟨wq.heap.size, 2, none⟩ (.string ⟨TX.toArray⟩)) := (((Chg.refl _ wq).alloc _).trans' (unhide HC4)).setCell (p := ⟨wq.heap.size, 2, none⟩) (fun h => by simp at h) _
          clear HB4 HC4 hf4 hcc4 Htext HBLK ck0 ch0 ch1 hcx
          generalize w4.setCell ⟨wq.heap.size, 2, none⟩ (.string ⟨TX.toArray⟩) = w5 at *
          have hR5 := (unhide HR).chg hC5 (fun _ h _ => h.elim)
          have hO5 := own_chg (unhide HO) hC5 (fun _ _ => id)
          have hF5 := (unhide HF).keep hC5 (fun _ _ _ _ _ _ => id)
          have hlt5 : wq.heap.size < w5.heap.size := hB5.lt
          obtain ⟨prs, bs3, hprs⟩ : ∃ a b, M.refs bsq (M.parts x) = (a, b) := ⟨_, _, rfl⟩
          have hl3 : bs3.length ≤ 1048576 := by
            have h1 := unhide HCL2
            have h2 := (M.cells_len _ _ _ _ _ h1).1
            unfold HM.cell at h2
            rw [hprs] at h2
            exact Nat.le_trans h2 hbs
          have HPRS := hide hprs
          clear hprs
          generalize hBB2 : wq.heap.size = B at *
          have HBB2 := hide hBB2
          have HOQ : ∀ k, (Value.slice Aq j2 cq).ownBlock = some k → k < B := fun k hk => by have := ((unhide HO).lt k hk).2; omega
          have HOQH := hide HOQ
          clear hBB2 HOQ
          go_loopw [67] (fun i wr => ∃ (p : Nat) (doneP restP : List (Bool × Int)) (bsp : List Nat) (Ap : Option Addr) (cp : Nat), i = .int .i64 p ∧ p ≤ N ∧ doneP.length = p ∧ prs = doneP ++ restP ∧ M.refs bsp ((M.parts x).drop p) = (restP, bs3) ∧
              RS w wr g bn bo bb M base base pb kb mb bsp ∧ Blk wr B 78 #[.int .i64 (K : Int), .int .i64 (TT : Int), .string ⟨TX.toArray⟩, .slice Ap p cp] ∧ wr.ownsRow B 51 2 (.slice Ap p cp) p (doneP.flatMap rfv) ∧
              wr.ownsRow base 78 4 (.slice Aq j2 cq) j2 (fin.flatMap cev) ∧ FR base B wr ((.slice Av roots.length cv, rs1) :: fin.map (fun p => (p.1, p.2.parts))) ∧ M.BsOk bsp) (fun i _ => N - (intOf i).toNat)
          case atStart => exact ⟨0, [], prs, bsq, none, 0, rfl, Nat.zero_le _, rfl, rfl, unhide HPRS, hR5, hB5, World.ownsRow_nil _ _ _ _, hO5, hF5, unhide HBOK⟩
          case round =>
            obtain ⟨p, doneP, restP, bsp, Ap, cp, rfl, hp, hdp, hpe, hrf, hR, hB, hO, hOc, hF, hbok⟩ := hrel
            by_cases hpN : p < N
            · have hBN := (unhide HEQ).1
              rw [M.parts_drop x p N hBN hpN] at hrf
              have hx2 := unhide HX
              have hw2 := (unhide HWF x hx2.1).1
              rw [hBN] at hw2
              have hpart := part_yes M g bn bo bb x p wr hR.h hx2.2 hx2.1 (by omega) (by omega)
              have hxp := hR.h.ok.getD (x / 2 + 1 + p)
              generalize M.now.getD (x / 2 + 1 + p) 0 = xp at *
              have hl2 : bsp.length ≤ 2000000 := by
                have := M.refs_len (xp :: (M.parts x).drop (p + 1)) bsp
                rw [hrf] at this
                simp only at this
                omega
              have hbok2 := HM.ref_ok hbok hxp
              have hcall := ref_any (hR.drewN 1) xp hxp hl2
              unfold HM.refs at hrf
              generalize M.ref bsp xp = q at hcall hrf hbok2
              obtain ⟨⟨r1, r2⟩, b2⟩ := q
              obtain ⟨restP2, rfl⟩ : ∃ l, restP = (r1, r2) :: l := ⟨_, (congrArg Prod.fst hrf).symm⟩
              have hrf2 : M.refs b2 ((M.parts x).drop (p + 1)) = (restP2, bs3) := by
                simp only [Prod.mk.injEq, List.cons.injEq, true_and] at hrf
                exact Prod.ext hrf.1 hrf.2
              have cb3 := hB.cell 3
              have fb3 := hB.frozen 3
              simp only [List.getElem?_toArray, List.getElem?_cons_zero, List.getElem?_cons_succ] at cb3
              have ch0 := hR.hh.cell 0
              simp only [List.getElem?_toArray, List.getElem?_cons_zero] at ch0
              have hBb : base ≤ B := by have := (unhide HR).base_le; have := unhide HBB2; omega
              have HCALL := hide hcall
              have HPART := hide hpart
              have HRF := hide hrf2
              have HPE := hide hpe
              have HRR := hide hR
              have HBB' := hide hB
              have HOO := hide hO
              have HOC := hide hOc
              have HFF := hide hF
              have HDP := hide hdp
              have HBOK2 := hide hbok2
              have HBNN := hide hBN
              clear hcall hpart hrf hrf2 hpe hR hB hO hOc hF hdp hbok hbok2 hBN hx2
              have hone : ∀ u ∈ rfv (r1, r2), u.oneCell' = true := by intro u hu; simp [rfv] at hu; rcases hu with rfl | rfl <;> rfl
              have hmax1 : p + 1 ≤ maxLen := by simp only [maxLen]; omega
              have hmax2 : (p + 1) * 16 ≤ 140737488355328 := by omega
              have Hone := hide hone
              clear hone
              go_wp2_with (first
                | (go_at_call 31; refine (unhide HPART).mono ?_; rintro e w' ⟨rfl, rfl⟩))
              go_region_law (first
                | (go_simp; go_at_call 41; refine (unhide HCALL).mono ?_; rintro e w2 ⟨rfl, hR2, hc2⟩
                   have hB2 := ((unhide HBB').drewN 1).chg hc2 (fun e => ((unhide HRR).drewN 1).blk_keep (w' := w2) ((unhide HBB').drewN 1) (by decide) (by decide) e.2)
                   have cb32 := hB2.cell 3
                   have fb32 := hB2.frozen 3
                   simp only [List.getElem?_toArray, List.getElem?_cons_zero, List.getElem?_cons_succ] at cb32
                   have HB2 := hide hB2
                   have HR2 := hide hR2
                   have HC2 := hide hc2
                   have hb2 := hR2.base_le
                   have HO2 := hide (((unhide HRR).drewN 1).own_keep (w' := w2) (show (wr.drewN 1).ownsRow B 51 2 (.slice Ap p cp) p (doneP.flatMap rfv) from unhide HOO) (.inl rfl) hc2)
                   have HNE2 := hide (own_blk_ne (unhide HO2) (unhide HB2) (by decide))
                   have ca32 := World.cell?_alloc_lt w2 (.cells #[.bool r1, .int .i64 r2] 51) ⟨B, 3, none⟩ (unhide HB2).lt
                   have hB2lt : B ≤ (w2.alloc (.cells (rfv (r1, r2)).toArray 51)).heap.size := by have := (unhide HB2).lt; simp; omega
                   clear hB2 hR2 hc2)
                | (refine step_append_rd _ ?_ (.tmp 78) (.tmp 82) 33 ?_ B 51 i0 (.agg #[.bool false, .int .i64 0]) 2 16 Try.underlying33 hi0 hz0 hz1 hz2 ?_ (Nat.succ_pos 1) (.slice Ap p cp) p (doneP.flatMap rfv) ?_ ((unhide HO2).alloc _) (· = w2.heap.size) (some ⟨w2.heap.size, 0, none⟩) 1 1 (rfv (r1, r2)) ?_ ?_ (rd_new _ _ 51 (rfv (r1, r2)) rfl) (unhide Hone) hmax1 hmax2 hB2lt ?_; any_goals (with_unfolding_all rfl)
                   intro v3 w3 ho3 hc3 hat
                   obtain ⟨A3, c3, rfl⟩ := own_val ho3
                   have hB3 := ((unhide HB2).alloc (.cells (rfv (r1, r2)).toArray 51)).chg hc3 (unhide HNE2)
                   have cb33 := hB3.cell 3
                   have fb33 := hB3.frozen 3
                   simp only [List.getElem?_toArray, List.getElem?_cons_zero, List.getElem?_cons_succ] at cb33
                   have HB3 := hide hB3
                   have HO3 := hide ho3
                   have HC3 := hide hc3
                   clear hB3 ho3 hc3 hat))
              all_goals
                go_wp2
                go_roundw
                case rel =>
                  have hset := (Chg.refl (fun i => i = B) w3).setCell (p := ⟨B, 3, none⟩) (fun _ => rfl) (.slice A3 (p + 1) c3)
                  refine ⟨p + 1, doneP ++ [(r1, r2)], restP2, b2, A3, c3, by go_num, by omega, by simp [unhide HDP], by rw [unhide HPE]; simp, unhide HRF, ?_⟩
                  have hres := shape_round (base := base) (Q := .slice Aq j2 cq) (unhide HRR) (unhide HBB') (unhide HOC) (unhide HFF) (unhide HR2) (unhide HC2) (unhide HB2) (unhide HO2) (unhide HB3) (unhide HO3) (unhide HC3) hset hBb (unhide HOQH) (unhide HBOK2)
                  rw [show doneP.flatMap rfv ++ rfv (r1, r2) = (doneP ++ [(r1, r2)]).flatMap rfv by simp] at hres
                  exact hres
                case measure => simp [intOf]; omega
            · obtain rfl : p = N := by omega
              have hpl := M.parts_len x
              rw [(unhide HEQ).1] at hpl
              rw [List.drop_of_length_le (by omega)] at hrf
              simp only [HM.refs, Prod.mk.injEq] at hrf
              obtain ⟨rfl, rfl⟩ := hrf
              rw [List.append_nil] at hpe
              have hBb : base ≤ B := by have := (unhide HR).base_le; have := unhide HBB2; omega
              have hj2 : j2 + 1 ≤ 1048576 := by omega
              have hb2 : base ≤ wr.heap.size := hR.base_le
              have cb0 := hB.cell 0
              have cb1 := hB.cell 1
              have cb2 := hB.cell 2
              have cb3 := hB.cell 3
              simp only [List.getElem?_toArray, List.getElem?_cons_zero, List.getElem?_cons_succ] at cb0 cb1 cb2 cb3
              have HRR := hide hR
              have HBB' := hide hB
              have HOO := hide hO
              have HOC := hide hOc
              have HFF := hide hF
              have HDP := hide hdp
              have HBOK2 := hide hbok
              have HPE := hide hpe
              clear hR hB hO hOc hF hdp hbok hpe hpN
              go_wp2_with (at_builtin
                           refine wpList_append_rd _ rfl (.tmp 86) (.tmp 88) 63 rfl base 78 j0 _ 4 56 Try.underlying63 hj0 hy0 hy1 hy2 rfl (by omega) (.slice Aq j2 cq) j2 (fin.flatMap cev) rfl ((unhide HOC).alloc _) (· = wr.heap.size) (some ⟨wr.heap.size, 0, none⟩) 1 1 (cev (.slice Ap p cp, ⟨K, TT, TX, doneP⟩)) rfl rfl (rd_new _ _ 78 (cev (.slice Ap p cp, ⟨K, TT, TX, doneP⟩)) rfl) (cev_one (Ap, p, cp, ⟨K, TT, TX, doneP⟩)) (by simp only [maxLen]; omega) (by omega) (by simp; omega) ?_
                           intro v3 w3 ho3 hc3 hat
                           obtain ⟨A3, c3, rfl⟩ := own_val ho3
                           have HO3 := hide ho3
                           have HC3 := hide hc3
                           clear ho3 hc3 hat)
              go_roundw
              case rel =>
                have hcell : M.cell bsq x = (⟨K, TT, TX, doneP⟩, bsp) := by
                  unfold HM.cell
                  rw [unhide HPRS, (unhide HEQ).2.1, (unhide HEQ).2.2.1, (unhide HEQ).2.2.2, unhide HPE]
                have hcs := unhide HCS
                have hcl2 := unhide HCL2
                rw [hcell] at hcs hcl2
                refine ⟨j2 + 1, f2, fin ++ [(.slice Ap p cp, ⟨K, TT, TX, doneP⟩)], cs2, bsp, by go_num, by simp [unhide HFL], by rw [hcs]; simp, hcl2, ?_⟩
                exact shape_end (unhide HRR) (unhide HOC) (unhide HFF) (unhide HBB').lt (unhide HOO) (unhide HDP) (unhide HO3) (unhide HC3) hBb (unhide HBOK2)
              case measure => simp [intOf]; omega
        · have hend : cs = fin.map (·.2) := by
            cases f with
            | zero => unfold HM.cells at hcl; rw [if_neg hlt3] at hcl; cases hcl; simpa using hcs
            | succ f => unfold HM.cells at hcl; rw [if_neg hlt3] at hcl; cases hcl; simpa using hcs
          have HFIN := hide (show ShapeOut w (.slice Av roots.length cv) (.slice Aq j2 cq) rs cs wq from shape_fin hR hO hF hfl hend (unhide HRSE).symm)
          clear hR hO hF hfl hend hcs hcl hbok hk hko
          go_wp2_with fail
          go_ret2
          exact ⟨_, _, rfl, unhide HFIN⟩
end Go.Proofs.Ytlgkgglecgdkgaa
