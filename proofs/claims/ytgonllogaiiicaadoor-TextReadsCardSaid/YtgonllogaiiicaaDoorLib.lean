/-
  A small library over the model, of no program: blocks that are known whole, and worlds of which only some blocks have changed.
-/
import Derived.WalkKit
import Derived.WalkSpells
import Derived.Deep.Draws
import Derived.Laws.Rows
import Derived.Laws.BytesString
import Derived.Laws.CopyOwn
import Derived.ScopeJumps
import Derived.Maps.AppendAt
import Derived.Deep.AppendLies
namespace Go.Proofs.YtgonllogaiiicaaDoor
open Go.RowKit

theorem hide {p : Prop} (h : p) : Hid p := h
theorem unhide {p : Prop} (h : Hid p) : p := h
theorem retv {v u : Value} (h : v = u) : Ending.returned v = Ending.returned u := by rw [h]
theorem intv {k : IntKind} {a b : Int} (h : a = b) : Value.int k a = .int k b := by rw [h]
theorem boolv {a b : Bool} (h : a = b) : Value.bool a = .bool b := by rw [h]
theorem tup2 {a b c d : Value} (h : a = c) (k : b = d) : Value.tuple #[a, b] = .tuple #[c, d] := by rw [h, k]
theorem tup3 {a b c d x y : Value} (h : a = c) (k : b = d) (l : x = y) : Value.tuple #[a, b, x] = .tuple #[c, d, y] := by rw [h, k, l]

/-- Block g is just the cells cs of element type t, none frozen. -/
def Blk (w : World) (g : Nat) (t : TypeId) (cs : Array Value) : Prop := w.heap[g]? = some (.cells cs t (0, 0))

/-- Of what there was only blocks in S have changed. -/
structure Chg (S : Nat → Prop) (w w' : World) : Prop where
  os : w'.os = w.os
  tape : w'.tape = w.tape
  output : w'.output = w.output
  size : w.heap.size ≤ w'.heap.size
  block : ∀ k, k < w.heap.size → ¬ S k → w'.heap[k]? = w.heap[k]?

section
variable {w w' : World} {g : Nat} {t : TypeId} {cs : Array Value} {S S' : Nat → Prop}
theorem Blk.lt (h : Blk w g t cs) : g < w.heap.size := by
  rcases Nat.lt_or_ge g w.heap.size with hlt | hge
  · exact hlt
  · unfold Blk at h; rw [Array.getElem?_eq_none hge] at h; cases h
theorem Blk.cell (h : Blk w g t cs) (i : Nat) : w.cell? ⟨g, i, none⟩ = cs[i]? := cell_of_row w g i cs t (0, 0) h
theorem Blk.cell' (h : Blk w g t cs) {i : Nat} {v : Value} (hv : cs[i]? = some v) : w.cell? ⟨g, i, none⟩ = some v := (h.cell i).trans hv
theorem Blk.frozen (h : Blk w g t cs) (i : Nat) : w.frozen? ⟨g, i, none⟩ = false := by
  unfold Blk at h
  simp [World.frozen?, h]
theorem Blk.new (w : World) (t : TypeId) (cs : Array Value) : Blk (w.alloc (.cells cs t)) w.heap.size t cs := heap_alloc_new w _
theorem Blk.new_at (w : World) (b : Nat) (t : TypeId) (cs : Array Value) (hb : b = w.heap.size) : Blk (w.alloc (.cells cs t)) b t cs := by
  subst hb
  exact heap_alloc_new w _
theorem Blk.drew (h : Blk w g t cs) : Blk w.drew g t cs := h
theorem Blk.drewN (h : Blk w g t cs) (n : Nat) : Blk (w.drewN n) g t cs := h
theorem Blk.alloc (h : Blk w g t cs) (o : Obj) : Blk (w.alloc o) g t cs := (Below.heap_alloc w o g h.lt).trans h
theorem Blk.set_ (h : Blk w g t cs) (i : Nat) (u : Value) : Blk (w.setCell ⟨g, i, none⟩ u) g t (cs.setIfInBounds i u) := by
  unfold Blk at h ⊢
  simp [World.setCell, Array.getElem?_modify, h]
theorem Blk.far (h : Blk w g t cs) {p : Addr} (hp : g ≠ p.block) (u : Value) : Blk (w.setCell p u) g t cs := (Below.heap_setCell w p u g hp).trans h
theorem Blk.below {B : Nat} (h : Blk w g t cs) (hb : Below B w w') (hg : g < B) : Blk w' g t cs := (hb.block g hg).trans h
theorem Blk.chg (h : Blk w g t cs) (hb : Chg S w w') (hg : ¬ S g) : Blk w' g t cs := (hb.block g h.lt hg).trans h
theorem Blk.ne_ {g' : Nat} {t' : TypeId} {cs' : Array Value} (h : Blk w g t cs) (h' : Blk w g' t' cs') (hne : t ≠ t') : g ≠ g' := by
  rintro rfl
  unfold Blk at h h'
  rw [h] at h'
  injection h' with h'
  injection h' with _ ht
  exact hne ht

theorem Chg.refl (S : Nat → Prop) (w : World) : Chg S w w := ⟨rfl, rfl, rfl, Nat.le_refl _, fun _ _ _ => rfl⟩
theorem Chg.trans {a b c : World} (h : Chg S a b) (k : Chg S' b c) (hS : ∀ i, i < a.heap.size → S' i → S i) : Chg S a c :=
  ⟨k.os.trans h.os, k.tape.trans h.tape, k.output.trans h.output, Nat.le_trans h.size k.size,
   fun i hi hn => (k.block i (Nat.lt_of_lt_of_le hi h.size) (fun hs => hn (hS i hi hs))).trans (h.block i hi hn)⟩
theorem Chg.trans' {a b c : World} (h : Chg S a b) (k : Chg S b c) : Chg S a c := h.trans k fun _ _ h => h
theorem Chg.mono (h : Chg S w w') (hS : ∀ i, i < w.heap.size → S i → S' i) : Chg S' w w' :=
  ⟨h.os, h.tape, h.output, h.size, fun i hi hn => h.block i hi (fun hs => hn (hS i hi hs))⟩
theorem Chg.drewN {a : World} (h : Chg S a w) (n : Nat) : Chg S a (w.drewN n) := ⟨h.os, h.tape, h.output, h.size, h.block⟩
theorem Chg.drew {a : World} (h : Chg S a w) : Chg S a w.drew := ⟨h.os, h.tape, h.output, h.size, h.block⟩
theorem Chg.alloc {a : World} (h : Chg S a w) (o : Obj) : Chg S a (w.alloc o) :=
  ⟨h.os, h.tape, h.output, Nat.le_trans h.size (by simp), fun i hi hn => (Below.heap_alloc w o i (Nat.lt_of_lt_of_le hi h.size)).trans (h.block i hi hn)⟩
theorem Chg.setCell {a : World} (h : Chg S a w) {p : Addr} (hp : p.block < a.heap.size → S p.block) (u : Value) : Chg S a (w.setCell p u) :=
  ⟨h.os, h.tape, h.output, by simpa [World.setCell] using h.size, fun i hi hn => (Below.heap_setCell w p u i (fun e => hn (e ▸ hp (e ▸ hi)))).trans (h.block i hi hn)⟩
theorem Chg.of_below (h : Below w.heap.size w w') (S : Nat → Prop) : Chg S w w' := ⟨h.os, h.tape, h.output, h.size, fun i hi _ => h.block i hi⟩
theorem Chg.below {B : Nat} (h : Chg S w w') (hB : B ≤ w.heap.size) (hS : ∀ i, i < w.heap.size → S i → B ≤ i) : Below B w w' :=
  ⟨h.os, h.tape, h.output, h.size, fun i hi => h.block i (by omega) (fun hs => by have := hS i (by omega) hs; omega)⟩
theorem Chg.grown {a : World} {row : Option Nat} (h : Chg S a w) (hg : w.grownBy w' row) (hr : ∀ k, row = some k → k < a.heap.size → S k) : Chg S a w' :=
  ⟨hg.os.trans h.os, hg.tape.trans h.tape, hg.output.trans h.output, Nat.le_trans h.size hg.size,
   fun i hi hn => (hg.block i (Nat.lt_of_lt_of_le hi h.size) (fun e => hn (hr i e.symm hi))).trans (h.block i hi hn)⟩
theorem Chg.cell (h : Chg S w w') {p : Addr} (hp : p.block < w.heap.size) (hn : ¬ S p.block) : w'.cell? p = w.cell? p := World.cell?_of_block (w := w) (h.block p.block hp hn)
end

theorem block_of_add (a : Addr) (n : Nat) : (a.add n).block = a.block := by unfold Addr.add; split <;> rfl
theorem add_of_add (a : Addr) (i j : Nat) : (a.add i).add j = a.add (i + j) := by
  unfold Addr.add
  by_cases hi : i = 0 <;> by_cases hj : j = 0 <;> simp [hi, hj, Nat.add_assoc]
theorem add_flat (b o i : Nat) : (⟨b, o, none⟩ : Addr).add i = ⟨b, o + i, none⟩ := by
  unfold Addr.add
  split
  · subst_vars; rfl
  · rfl

/-- The slice that begins at A has the cells xs, in a block of T. -/
def Rd (T : Nat → Prop) (w : World) (A : Option Addr) (xs : List Value) : Prop :=
  xs ≠ [] → ∃ ad, A = some ad ∧ T ad.block ∧ ∀ j u, xs[j]? = some u → w.cell? (ad.add j) = some u

section
variable {w w' : World} {T T' S : Nat → Prop} {A : Option Addr} {xs : List Value}
theorem Rd.nil_ (T : Nat → Prop) (w : World) (A : Option Addr) : Rd T w A [] := fun h => absurd rfl h
theorem Rd.mono (h : Rd T w A xs) (hT : ∀ b, T b → T' b) : Rd T' w A xs := fun hn => by
  obtain ⟨ad, e, ht, hc⟩ := h hn
  exact ⟨ad, e, hT _ ht, hc⟩
theorem Rd.keep (h : Rd T w A xs) (hk : ∀ p : Addr, T p.block → p.block < w.heap.size → w'.cell? p = w.cell? p) : Rd T w' A xs := fun hn => by
  obtain ⟨ad, e, ht, hc⟩ := h hn
  refine ⟨ad, e, ht, fun j u hu => ?_⟩
  have h1 := hc j u hu
  have h2 := block_lt_of_cell h1
  rw [hk _ (by rw [block_of_add]; exact ht) h2]
  exact h1
theorem Rd.chg (h : Rd T w A xs) (hc : Chg S w w') (hT : ∀ b, T b → b < w.heap.size → ¬ S b) : Rd T w' A xs := h.keep fun _ ht hl => hc.cell hl (hT _ ht hl)
theorem Rd.at_ (h : Rd T w A xs) {k : Nat} {u : Value} (hk : xs[k]? = some u) : ∃ ad, A = some ad ∧ T ad.block ∧ w.cell? (ad.add k) = some u := by
  obtain ⟨ad, e, ht, hc⟩ := h (by rintro rfl; simp at hk)
  exact ⟨ad, e, ht, hc k u hk⟩
theorem Rd.flat (h : Rd T w A xs) (hn : xs ≠ []) : ∃ b o, A = some ⟨b, o, none⟩ ∧ T b ∧ ∀ (j : Nat) (u : Value), xs[j]? = some u → w.cell? ⟨b, o + j, none⟩ = some u := by
  obtain ⟨⟨b, o, s⟩, rfl, ht, hc⟩ := h hn
  cases s with
  | none => exact ⟨b, o, rfl, ht, fun j u hu => by rw [← add_flat]; exact hc j u hu⟩
  | some k =>
    obtain ⟨x, l, rfl⟩ := List.exists_cons_of_ne_nil hn
    have := hc 0 x rfl
    simp [Addr.add, World.cell?] at this
    split at this <;> simp at this
theorem Rd.blk {g : Nat} {t : TypeId} {cs : Array Value} (h : Blk w g t cs) (hx : ∀ (j : Nat) (u : Value), xs[j]? = some u → cs[j]? = some u) : Rd (· = g) w (some ⟨g, 0, none⟩) xs :=
  fun _ => ⟨_, rfl, rfl, fun j u hu => by rw [add_flat, Nat.zero_add]; exact h.cell' (hx j u hu)⟩
end

theorem Rd.sub {w : World} {xs : List Value} {g a : Nat} {t : TypeId} {cs : Array Value} (h : Blk w g t cs) (hx : ∀ (j : Nat) (u : Value), xs[j]? = some u → cs[a + j]? = some u) : Rd (· = g) w (some ⟨g, a, none⟩) xs :=
  fun _ => ⟨_, rfl, rfl, fun j u hu => by rw [add_flat]; exact h.cell' (hx j u hu)⟩
theorem rd_new (w : World) (b : Nat) (t : TypeId) (vs : List Value) (hb : b = w.heap.size) : Rd (· = b) (w.alloc (.cells vs.toArray t)) (some ⟨b, 0, none⟩) vs := by
  subst hb
  exact Rd.blk (Blk.new w t vs.toArray) fun j u hu => by simpa using hu
theorem size_set (w : World) (p : Addr) (u : Value) : (w.setCell p u).heap.size = w.heap.size := by simp [World.setCell]
theorem size_alloc (w : World) (o : Obj) : (w.alloc o).heap.size = w.heap.size + 1 := by simp
theorem size_drewN (w : World) (n : Nat) : (w.drewN n).heap.size = w.heap.size := rfl

theorem setRow_chg (w : World) (g : Nat) (cs : Array Value) : Chg (· = g) w (w.setRow g cs) :=
  ⟨rfl, rfl, rfl, by simp [World.setRow], fun k _ hk => setRow_other w g k cs hk⟩

/-- append within the capacity, onto a block that is known whole. -/
theorem run_append_blk {P : Program} (w : World) (t ty e : TypeId) (i : TypeInfo) (size : Nat) (ht : P.underlying t = some (.slice e)) (hi : P.info? e = some i) (hsize : i.size = size)
    (g n c : Nat) (cur : Array Value) (hg : Blk w g e cur) (T : Nat → Prop) (A : Option Addr) (m d : Nat) (news : List Value) (hr : Rd T w A news) (hl : news.length = m * size)
    (h1 : ∀ u ∈ news, u.oneCell' = true) (hroom : n + m ≤ c) (hfit : n * size + news.length ≤ cur.size) :
    ∃ w', (Builtin.append_ #[t, t] ty #[.slice (some ⟨g, 0, none⟩) n c, .slice A m d]).run P w = .ok (.slice (some ⟨g, 0, none⟩) (n + m) c) w' ∧
      Blk w' g e (cur.toList.take (n * size) ++ news ++ cur.toList.drop (n * size + news.length)).toArray ∧ Chg (· = g) w w' := by
  subst hsize
  by_cases hn : news = []
  · subst hn
    refine ⟨w, ?_, ?_, Chg.refl _ _⟩
    · rcases A with _ | ad
      · have hm : m * i.size = 0 := by simpa using hl.symm
        simp [Builtin.append_, run_underlying ht, sizeOf, typeInfo, hi, Builtin.lenOf, Builtin.firstCells, hroom, storeCells]
      · have := run_append_room (P := P) w t ty e i ht hi g n c cur hg ad m d [] (by simpa using hl) (by simp) (by simp) hroom (by simpa using hfit)
        rw [this]
        simp [setRow_self w g cur e (0, 0) hg]
    · simpa using hg
  · obtain ⟨ad, rfl, _, hc⟩ := hr hn
    exact ⟨_, run_append_room (P := P) w t ty e i ht hi g n c cur hg ad m d news hl hc h1 hroom hfit, setRow_heap w g cur _ e _ hg, setRow_chg w g _⟩

theorem wp_append_blk {P : Program} (w : World) {o : Oper} {a : Act} {K : Act → World → Prop} {Q : Exit → Act → World → Prop} (s x : Operand) (t : TypeId)
    (ho : o.op = .call { callee := .builtin .append, args := #[s, x], argTypes := #[t, t] })
    (e : TypeId) (i : TypeInfo) (size : Nat) (ht : P.underlying t = some (.slice e)) (hi : P.info? e = some i) (hsize : i.size = size)
    (g n c : Nat) (cur : Array Value) (hs : a.eval s = .slice (some ⟨g, 0, none⟩) n c) (hg : Blk w g e cur) (T : Nat → Prop) (A : Option Addr) (m d : Nat) (news : List Value)
    (hx : a.eval x = .slice A m d) (hr : Rd T w A news) (hl : news.length = m * size)
    (h1 : ∀ u ∈ news, u.oneCell' = true) (hroom : n + m ≤ c) (hfit : n * size + news.length ≤ cur.size)
    (h : ∀ w', Blk w' g e (cur.toList.take (n * size) ++ news ++ cur.toList.drop (n * size + news.length)).toArray → Chg (· = g) w w' → K (a.put o.dst (.slice (some ⟨g, 0, none⟩) (n + m) c)) w') : o.wp P a w K Q := by
  obtain ⟨w', hrun, h2, h3⟩ := run_append_blk (P := P) w t o.type e i size ht hi hsize g n c cur hg T A m d news hr hl h1 hroom hfit
  unfold Oper.wp execOp
  simp only [ho, resolve, invoke, builtin, Sem.run_bind, Sem.run_pure, Result.andThen_ok, List.map_toArray, List.map_cons, List.map_nil, hs, hx, hrun]
  exact h w' h2 h3

theorem wpList_append_blk {P : Program} (w : World) {ops : Array Oper} {rest : List Oper} {o : Oper} {a : Act} {Q : Exit → Act → World → Prop} (hgd : o.guard = none) (s x : Operand) (t : TypeId)
    (ho : o.op = .call { callee := .builtin .append, args := #[s, x], argTypes := #[t, t] })
    (e : TypeId) (i : TypeInfo) (size : Nat) (ht : P.underlying t = some (.slice e)) (hi : P.info? e = some i) (hsize : i.size = size)
    (g n c : Nat) (cur : Array Value) (hs : a.eval s = .slice (some ⟨g, 0, none⟩) n c) (hg : Blk w g e cur) (T : Nat → Prop) (A : Option Addr) (m d : Nat) (news : List Value)
    (hx : a.eval x = .slice A m d) (hr : Rd T w A news) (hl : news.length = m * size)
    (h1 : ∀ u ∈ news, u.oneCell' = true) (hroom : n + m ≤ c) (hfit : n * size + news.length ≤ cur.size)
    (h : ∀ w', Blk w' g e (cur.toList.take (n * size) ++ news ++ cur.toList.drop (n * size + news.length)).toArray → Chg (· = g) w w' → wpList P ops Q rest (a.put o.dst (.slice (some ⟨g, 0, none⟩) (n + m) c)) w') :
    wpList P ops Q (o :: rest) a w :=
  wpList_plain hgd fun _ hK => wp_append_blk w s x t ho e i size ht hi hsize g n c cur hs hg T A m d news hx hr hl h1 hroom hfit fun w' h2 h3 => hK _ _ (h w' h2 h3)

def byv (b : UInt8) : Value := .int .u8 (b.toNat : Int)
theorem fold_push (bs : List UInt8) : ∀ r : ByteArray, (bs.map fun b => (b.toNat : Int)).foldl (fun r n => r.push (UInt8.ofNat n.toNat)) r = ⟨(r.data.toList ++ bs).toArray⟩ := by
  induction bs with
  | nil => intro r; simp
  | cons b bs ih =>
    intro r
    simp only [List.map_cons, List.foldl_cons]
    rw [ih]
    congr 1
    simp [ByteArray.push]
/-- string(b), b a slice of bytes. -/
theorem run_str_of_bytes {P : Program} (w : World) (src dst e : TypeId) (a : Addr) (c n : Nat) (bs : List UInt8) (hn : n = bs.length)
    (hs : P.underlying src = some (.slice e)) (he : P.underlying e = some (.int .u8)) (hd : P.underlying dst = some .string)
    (h : ∀ (j : Nat) (v : Value), (bs.map byv)[j]? = some v → w.cell? (a.add j) = some v) :
    (convert src dst (.slice (some a) n c)).run P w = .ok (.string ⟨bs.toArray⟩) w := by
  subst hn
  rw [run_convert_bytes_string w src dst e _ _ _ hs he hd]
  have hl := run_loadCells_list (P := P) (w := w) a (bs.map byv) h
  rw [List.length_map] at hl
  have := run_bytesToString (P := P) w a bs.length c (bs.map fun b => (b.toNat : Int)) (by
    rw [hl, List.map_map]; rfl)
  rw [this, fold_push]
  simp

theorem step_append_blk {P : Program} (w : World) {ops : Array Oper} {o : Oper} {a : Act} {K : Act → World → Prop} {Q : Exit → Act → World → Prop} {E : Prop} (hgd : o.guard = none) (s x : Operand) (t : TypeId)
    (ho : o.op = .call { callee := .builtin .append, args := #[s, x], argTypes := #[t, t] })
    (e : TypeId) (i : TypeInfo) (size : Nat) (ht : P.underlying t = some (.slice e)) (hi : P.info? e = some i) (hsize : i.size = size)
    (g n c : Nat) (cur : Array Value) (hs : a.eval s = .slice (some ⟨g, 0, none⟩) n c) (hg : Blk w g e cur) (T : Nat → Prop) (A : Option Addr) (m d : Nat) (news : List Value)
    (hx : a.eval x = .slice A m d) (hr : Rd T w A news) (hl : news.length = m * size)
    (h1 : ∀ u ∈ news, u.oneCell' = true) (hroom : n + m ≤ c) (hfit : n * size + news.length ≤ cur.size)
    (h : ∀ w', Blk w' g e (cur.toList.take (n * size) ++ news ++ cur.toList.drop (n * size + news.length)).toArray → Chg (· = g) w w' → K (a.put o.dst (.slice (some ⟨g, 0, none⟩) (n + m) c)) w') :
    if Region.wanted o (yielded ops a.tmps) = true then Oper.wp P o a w K Q else E := by
  rw [if_pos (by simp [Region.wanted, hgd])]
  exact wp_append_blk w s x t ho e i size ht hi hsize g n c cur hs hg T A m d news hx hr hl h1 hroom hfit h

/-- copy of a whole slice onto a block of just as many cells. -/
theorem wpList_copy_blk {P : Program} {w : World} {ops : Array Oper} {rest : List Oper} {o : Oper} {a : Act} {Q : Exit → Act → World → Prop} (hgd : o.guard = none) (d s : Operand) (t : TypeId)
    (ho : o.op = .call { callee := .builtin .copy, args := #[d, s], argTypes := #[t, t] }) (e : TypeId) (hu : P.underlying t = some (.slice e)) (hsz : (P.info? e).map (·.size) = some 1)
    (g n c : Nat) (T : Nat → Prop) (A : Option Addr) (d' : Nat) (cur : Array Value) (cs : List Value) (hd : a.eval d = .slice (some ⟨g, 0, none⟩) n c) (hs : a.eval s = .slice A n d')
    (hg : Blk w g e cur) (hc : cur.size = n) (hr : Rd T w A cs) (hl : cs.length = n) (h1 : ∀ u ∈ cs, u.oneCell' = true)
    (h : ∀ w', Blk w' g e cs.toArray → Chg (· = g) w w' → wpList P ops Q rest (a.put o.dst (goInt n)) w') : wpList P ops Q (o :: rest) a w := by
  by_cases hn : n = 0
  · subst hn
    have hcs : cs = [] := List.eq_nil_of_length_eq_zero hl
    have hcur : cur = #[] := Array.eq_empty_of_size_eq_zero hc
    refine wpList_copy_nothing hgd d s t t ho e hu hsz _ _ _ _ _ _ hd hs rfl (h w ?_ (Chg.refl _ _))
    rw [hcs, ← hcur]
    exact hg
  · obtain ⟨ad, rfl, _, hc'⟩ := hr (by rintro rfl; exact hn hl.symm)
    refine wpList_copy_own hgd d s t t ho e hu hsz g 0 n c ad n d' hd hs cur e hg cs (by rw [hl]; simp) hc' (by omega) h1 ?_
    rw [hl]
    refine h _ ?_ (setRow_chg _ _ _)
    have e1 : (cur.toList.take 0 ++ (cs ++ cur.toList.drop (0 + n))) = cs := by
      rw [List.take_zero, List.nil_append, List.drop_eq_nil_of_le (by simp; omega), List.append_nil]
    rw [e1]
    exact setRow_heap w g cur _ e _ hg

theorem wp_scope_label {P : Program} {c X : Code} {a : Act} {w : World} {Q : Exit → Act → World → Prop} (l : Nat) (J : Act → World → Prop) (μ : Act → World → Nat) (hf : findLabel c l = some (.seq .skip X))
    (pass : ∀ a w, J a w → X.wp P (Exit.jump l (fun a' w' => J a' w' ∧ μ a' w' < μ a w) Q) a w)
    (first : (∀ a w, J a w → X.wp P (Exit.jump l J Q) a w) → c.wp P (Exit.jump l J Q) a w) : (Code.scope c).wp P Q a w := by
  refine wp_scope_jumps l J μ hf (first fun a w h => wp_mono (pass a w h) ?_) fun a w h => wp_seq (wp_skip (pass a w h))
  intro e a' w' hq
  cases e <;> first | exact hq | exact ⟨hq.1, hq.2.1⟩

theorem own_blk_ne {w : World} {g : Nat} {t : TypeId} {cs : Array Value} {base : Nat} {e : TypeId} {size n : Nat} {v : Value} {xs : List Value} (h : w.ownsRow base e size v n xs) (hg : Blk w g t cs) (hne : e ≠ t) : v.ownBlock ≠ some g := by
  rcases h.2 with ⟨rfl, _⟩ | ⟨g', cap, cur, rfl, _, hh, _⟩
  · simp [Value.ownBlock]
  · intro he
    have : g' = g := by simpa [Value.ownBlock] using he
    subst this
    exact Blk.ne_ (t := e) hh hg hne rfl
theorem own_chg {w w' : World} {S : Nat → Prop} {base : Nat} {e : TypeId} {size n : Nat} {v : Value} {xs : List Value} (h : w.ownsRow base e size v n xs) (hc : Chg S w w') (hS : ∀ k, v.ownBlock = some k → ¬ S k) : w'.ownsRow base e size v n xs := by
  obtain ⟨h1, h2⟩ := h
  refine ⟨h1, ?_⟩
  rcases h2 with h2 | ⟨g, cap, cur, hv, hg, hh, r⟩
  · exact Or.inl h2
  · exact Or.inr ⟨g, cap, cur, hv, hg, (hc.block g (Blk.lt (t := e) hh) (hS g (by rw [hv]; rfl))).trans hh, r⟩
theorem own_val {w : World} {base : Nat} {e : TypeId} {size n : Nat} {v : Value} {xs : List Value} (h : w.ownsRow base e size v n xs) : ∃ A c, v = .slice A n c := by
  rcases h.2 with ⟨rfl, rfl⟩ | ⟨g, cap, cur, rfl, _⟩
  · exact ⟨_, _, rfl⟩
  · exact ⟨_, _, rfl⟩
theorem own_rd {w : World} {base : Nat} {e : TypeId} {size n : Nat} {A : Option Addr} {c : Nat} {xs : List Value} (h : w.ownsRow base e size (.slice A n c) n xs) (_hs : 0 < size) : Rd (fun k => (Value.slice A n c).ownBlock = some k) w A xs := by
  intro hx
  have hn : 0 < n := by
    rcases Nat.eq_zero_or_pos n with h0 | h0
    · exfalso; subst h0; have := h.1; simp at this; exact hx this
    · exact h0
  obtain ⟨g, cap, hv, _, hlt⟩ := h.form hn
  injection hv with hA _ _
  subst hA
  exact ⟨_, rfl, rfl, h.cells (g := g) rfl⟩

theorem run_append_of_nil {P : Program} (w : World) (base : Nat) (t ty e : TypeId) (i : TypeInfo) (size : Nat) (ht : P.underlying t = some (.slice e)) (hi : P.info? e = some i)
    (v : Value) (n : Nat) (xs : List Value) (hown : w.ownsRow base e size v n xs) (c : Nat) : (Builtin.append_ #[t, t] ty #[v, .slice none 0 c]).run P w = .ok v w := by
  rcases hown.2 with ⟨rfl, rfl⟩ | ⟨g, cap, cur, rfl, _, _, hnc, _⟩
  · simp [Builtin.append_, run_underlying ht, sizeOf, typeInfo, hi, Builtin.lenOf, Builtin.firstCells]
  · simp [Builtin.append_, run_underlying ht, sizeOf, typeInfo, hi, Builtin.lenOf, Builtin.firstCells, hnc, storeCells]

/-- append onto a row of the call's own, out of whatever slice. -/
theorem run_append_rd {P : Program} (w : World) (base : Nat) (t ty e : TypeId) (i : TypeInfo) (z : Value) (size bytes : Nat) (ht : P.underlying t = some (.slice e)) (hi : P.info? e = some i) (hz : i.zero = some z)
    (hsize : i.size = size) (hby : i.bytes = bytes) (hzs : z.cells.size = size) (hsz : 0 < size)
    (v : Value) (n : Nat) (xs : List Value) (hown : w.ownsRow base e size v n xs)
    (T : Nat → Prop) (A : Option Addr) (m c : Nat) (news : List Value) (hl : news.length = m * size) (hr : Rd T w A news) (h1 : ∀ u ∈ news, u.oneCell' = true)
    (h63 : n + m ≤ maxLen) (hbytes : (n + m) * bytes ≤ 140737488355328) (hbase : base ≤ w.heap.size) :
    ∃ v' w', (Builtin.append_ #[t, t] ty #[v, .slice A m c]).run P w = .ok v' w' ∧ w'.ownsRow base e size v' (n + m) (xs ++ news) ∧ Chg (fun k => v.ownBlock = some k) w w' ∧
      (v'.ownBlock = v.ownBlock ∨ v'.ownBlock = some w.heap.size) := by
  rcases A with _ | ad
  · have hn : news = [] := by
      rcases news with _ | ⟨x, l⟩
      · rfl
      · obtain ⟨ad, h, _⟩ := hr (by simp)
        cases h
    subst hn
    have hm : m = 0 := by
      rcases Nat.eq_zero_or_pos m with h0 | h0
      · exact h0
      · exfalso; have h2 := Nat.mul_pos h0 hsz; simp at hl; omega
    subst hm
    exact ⟨v, w, run_append_of_nil w base t ty e i size ht hi v n xs hown c, by simpa using hown, Chg.refl _ w, .inl rfl⟩
  · have hcells : ∀ j u, news[j]? = some u → w.cell? (ad.add j) = some u := by
      intro j u hu
      obtain ⟨ad', h, _, hc⟩ := hr (by rintro rfl; simp at hu)
      injection h with h
      subst h
      exact hc j u hu
    obtain ⟨v', w', hrun, h2, h3, _, h5⟩ := run_append_own_at (P := P) w base t ty e i z size bytes ht hi hz hsize hby hzs hsz v n xs hown ad m c news hl hcells h1 h63 hbytes hbase
    exact ⟨v', w', hrun, h2, ⟨h3.os, h3.tape, h3.output, h3.size, fun k hk hne => h3.block k hk (fun e => hne e.symm)⟩, h5⟩

theorem wp_append_rd {P : Program} (w : World) {o : Oper} {a : Act} {K : Act → World → Prop} {Q : Exit → Act → World → Prop} (s x : Operand) (t : TypeId)
    (ho : o.op = .call { callee := .builtin .append, args := #[s, x], argTypes := #[t, t] })
    (base : Nat) (e : TypeId) (i : TypeInfo) (z : Value) (size bytes : Nat) (ht : P.underlying t = some (.slice e)) (hi : P.info? e = some i) (hz : i.zero = some z)
    (hsize : i.size = size) (hby : i.bytes = bytes) (hzs : z.cells.size = size) (hsz : 0 < size)
    (v : Value) (n : Nat) (xs : List Value) (hs : a.eval s = v) (hown : w.ownsRow base e size v n xs)
    (T : Nat → Prop) (A : Option Addr) (m c : Nat) (news : List Value) (hx : a.eval x = .slice A m c) (hl : news.length = m * size) (hr : Rd T w A news) (h1 : ∀ u ∈ news, u.oneCell' = true)
    (h63 : n + m ≤ maxLen) (hbytes : (n + m) * bytes ≤ 140737488355328) (hbase : base ≤ w.heap.size)
    (h : ∀ v' w', w'.ownsRow base e size v' (n + m) (xs ++ news) → Chg (fun k => v.ownBlock = some k) w w' → (v'.ownBlock = v.ownBlock ∨ v'.ownBlock = some w.heap.size) → K (a.put o.dst v') w') : o.wp P a w K Q := by
  obtain ⟨v', w', hrun, h2, h3, h4⟩ := run_append_rd (P := P) w base t o.type e i z size bytes ht hi hz hsize hby hzs hsz v n xs hown T A m c news hl hr h1 h63 hbytes hbase
  unfold Oper.wp execOp
  simp only [ho, resolve, invoke, builtin, Sem.run_bind, Sem.run_pure, Result.andThen_ok, List.map_toArray, List.map_cons, List.map_nil, hs, hx, hrun]
  exact h v' w' h2 h3 h4

theorem wpList_append_rd {P : Program} (w : World) {ops : Array Oper} {rest : List Oper} {o : Oper} {a : Act} {Q : Exit → Act → World → Prop} (hgd : o.guard = none) (s x : Operand) (t : TypeId)
    (ho : o.op = .call { callee := .builtin .append, args := #[s, x], argTypes := #[t, t] })
    (base : Nat) (e : TypeId) (i : TypeInfo) (z : Value) (size bytes : Nat) (ht : P.underlying t = some (.slice e)) (hi : P.info? e = some i) (hz : i.zero = some z)
    (hsize : i.size = size) (hby : i.bytes = bytes) (hzs : z.cells.size = size) (hsz : 0 < size)
    (v : Value) (n : Nat) (xs : List Value) (hs : a.eval s = v) (hown : w.ownsRow base e size v n xs)
    (T : Nat → Prop) (A : Option Addr) (m c : Nat) (news : List Value) (hx : a.eval x = .slice A m c) (hl : news.length = m * size) (hr : Rd T w A news) (h1 : ∀ u ∈ news, u.oneCell' = true)
    (h63 : n + m ≤ maxLen) (hbytes : (n + m) * bytes ≤ 140737488355328) (hbase : base ≤ w.heap.size)
    (h : ∀ v' w', w'.ownsRow base e size v' (n + m) (xs ++ news) → Chg (fun k => v.ownBlock = some k) w w' → (v'.ownBlock = v.ownBlock ∨ v'.ownBlock = some w.heap.size) → wpList P ops Q rest (a.put o.dst v') w') : wpList P ops Q (o :: rest) a w :=
  wpList_plain hgd fun _ hK => wp_append_rd w s x t ho base e i z size bytes ht hi hz hsize hby hzs hsz v n xs hs hown T A m c news hx hl hr h1 h63 hbytes hbase fun v' w' h2 h3 h4 => hK _ _ (h v' w' h2 h3 h4)

theorem step_append_rd {P : Program} (w : World) {ops : Array Oper} {o : Oper} {a : Act} {K : Act → World → Prop} {Q : Exit → Act → World → Prop} {E : Prop} (hgd : o.guard = none) (s x : Operand) (t : TypeId)
    (ho : o.op = .call { callee := .builtin .append, args := #[s, x], argTypes := #[t, t] })
    (base : Nat) (e : TypeId) (i : TypeInfo) (z : Value) (size bytes : Nat) (ht : P.underlying t = some (.slice e)) (hi : P.info? e = some i) (hz : i.zero = some z)
    (hsize : i.size = size) (hby : i.bytes = bytes) (hzs : z.cells.size = size) (hsz : 0 < size)
    (v : Value) (n : Nat) (xs : List Value) (hs : a.eval s = v) (hown : w.ownsRow base e size v n xs)
    (T : Nat → Prop) (A : Option Addr) (m c : Nat) (news : List Value) (hx : a.eval x = .slice A m c) (hl : news.length = m * size) (hr : Rd T w A news) (h1 : ∀ u ∈ news, u.oneCell' = true)
    (h63 : n + m ≤ maxLen) (hbytes : (n + m) * bytes ≤ 140737488355328) (hbase : base ≤ w.heap.size)
    (h : ∀ v' w', w'.ownsRow base e size v' (n + m) (xs ++ news) → Chg (fun k => v.ownBlock = some k) w w' → (v'.ownBlock = v.ownBlock ∨ v'.ownBlock = some w.heap.size) → K (a.put o.dst v') w') :
    if Region.wanted o (yielded ops a.tmps) = true then Oper.wp P o a w K Q else E := by
  rw [if_pos (by simp [Region.wanted, hgd])]
  exact wp_append_rd w s x t ho base e i z size bytes ht hi hz hsize hby hzs hsz v n xs hs hown T A m c news hx hl hr h1 h63 hbytes hbase h
end Go.Proofs.YtgonllogaiiicaaDoor
