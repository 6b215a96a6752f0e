/-
  The contracts of the library's functions at this seat, as the kit's tool writes them in plain words. Small things that all walks of this seat lean on; and what the program's own tables hold. Rows of rows, in memory: what a slice's value reads as. What is read lies in memory that is there.
-/
import Derived.Shelf.Strings.Fields
import Derived.Shelf.Small.Strs
import Derived.Shelf.Strings.Search1
import Derived.Shelf.Slices.Turned
import Derived.Shelf.Slices.Equal
import Derived.Shelf.Slices.Clone
import Derived.Shelf.Slices.Empties2
import Derived.Ground.Names2Prog
import Derived.Test.YtinekmjengckdaaGreatDoorProg
import Derived.Test.YtinekmjengckdaaGreatDoorA01
import Derived.Test.YtinekmjengckdaaGreatDoorA02
import Derived.Deep.QuietTactic
import Derived.BigQuiet
import Derived.WalkLawsBesides
import Derived.Laws.BitsAllLaws
import Derived.Lib.QuietBelow
namespace Go.Proofs
open Go.Shelf
def Tryz.lays157_ren : Go.Shelf.Ren := ⟨fun | 157 => 172 | 229 => 174 | 199 => 175 | 261 => 177 | 311 => 178 | 312 => 179 | n => n, fun | 9 => 9 | 31 => 132 | 3 => 3 | 5 => 5 | 4 => 4 | 119 => 190 | 0 => 0 | 40 => 192 | 152 => 193 | 21 => 21 | 154 => 195 | 51 => 33 | 141 => 197 | 196 => 201 | 193 => 198 | 198 => 203 | 49 => 45 | 194 => 199 | 201 => 206 | 226 => 208 | 46 => 185 | 227 => 209 | n => n, fun | 0 => 0 | 6 => 1 | n => n⟩
theorem Tryz.lays157 : Go.Proofs.Lays.n157 Tryz.prog Tryz.lays157_ren := {
  mixed := by kernel_rfl
  f157 := Tryz.func172.trans (congrArg some (by kernel_rfl))
  f199 := Tryz.func175.trans (congrArg some (by kernel_rfl))
  f229 := Tryz.func174.trans (congrArg some (by kernel_rfl))
  f261 := Tryz.func177.trans (congrArg some (by kernel_rfl))
  f311 := Tryz.func178.trans (congrArg some (by kernel_rfl))
  f312 := Tryz.func179.trans (congrArg some (by kernel_rfl))
  t0 := Tryz.underlying0
  a0 := Tryz.isAgg0
  z0 := Tryz.sizeOf0
  v0 := Tryz.zeroValue0
  t3 := Tryz.underlying3
  a3 := Tryz.isAgg3
  z3 := Tryz.sizeOf3
  v3 := Tryz.zeroValue3
  t4 := Tryz.underlying4
  a4 := Tryz.isAgg4
  z4 := Tryz.sizeOf4
  v4 := Tryz.zeroValue4
  t5 := Tryz.underlying5
  a5 := Tryz.isAgg5
  z5 := Tryz.sizeOf5
  v5 := Tryz.zeroValue5
  t9 := Tryz.underlying9
  a9 := Tryz.isAgg9
  z9 := Tryz.sizeOf9
  v9 := Tryz.zeroValue9
  t21 := Tryz.underlying21
  a21 := Tryz.isAgg21
  z21 := Tryz.sizeOf21
  v21 := Tryz.zeroValue21
  t31 := Tryz.underlying132
  a31 := Tryz.isAgg132
  z31 := Tryz.sizeOf132
  v31 := Tryz.zeroValue132
  t40 := Tryz.underlying192
  a40 := Tryz.isAgg192
  z40 := Tryz.sizeOf192
  v40 := Tryz.zeroValue192
  t46 := Tryz.underlying185
  a46 := Tryz.isAgg185
  z46 := Tryz.sizeOf185
  v46 := Tryz.zeroValue185
  t49 := Tryz.underlying45
  a49 := Tryz.isAgg45
  z49 := Tryz.sizeOf45
  v49 := Tryz.zeroValue45
  t51 := Tryz.underlying33
  a51 := Tryz.isAgg33
  z51 := Tryz.sizeOf33
  v51 := Tryz.zeroValue33
  t119 := Tryz.underlying190
  a119 := Tryz.isAgg190
  z119 := Tryz.sizeOf190
  t141 := Tryz.underlying197
  a141 := Tryz.isAgg197
  z141 := Tryz.sizeOf197
  v141 := Tryz.zeroValue197
  t152 := Tryz.underlying193
  a152 := Tryz.isAgg193
  z152 := Tryz.sizeOf193
  v152 := Tryz.zeroValue193
  t154 := Tryz.underlying195
  a154 := Tryz.isAgg195
  z154 := Tryz.sizeOf195
  v154 := Tryz.zeroValue195
  t193 := Tryz.underlying198
  a193 := Tryz.isAgg198
  z193 := Tryz.sizeOf198
  v193 := Tryz.zeroValue198
  t194 := Tryz.underlying199
  a194 := Tryz.isAgg199
  z194 := Tryz.sizeOf199
  v194 := Tryz.zeroValue199
  t196 := Tryz.underlying201
  a196 := Tryz.isAgg201
  z196 := Tryz.sizeOf201
  v196 := Tryz.zeroValue201
  t198 := Tryz.underlying203
  a198 := Tryz.isAgg203
  z198 := Tryz.sizeOf203
  v198 := Tryz.zeroValue203
  t201 := Tryz.underlying206
  a201 := Tryz.isAgg206
  z201 := Tryz.sizeOf206
  v201 := Tryz.zeroValue206
  t226 := Tryz.underlying208
  a226 := Tryz.isAgg208
  z226 := Tryz.sizeOf208
  v226 := Tryz.zeroValue208
  t227 := Tryz.underlying209
  a227 := Tryz.isAgg209
  z227 := Tryz.sizeOf209
  v227 := Tryz.zeroValue209
  g0 := by kernel_rfl
  g6 := by kernel_rfl }
open Go.RowKit Go.Lib in
theorem Tryz.strings_Fields (s : ByteArray) (w : World) (hs : s.size < 4294967281) (hascii : ∀ (j : Nat) b, s.data.toList[j]? = some b → b.toNat < 128) (htab : Lib.TabIs Tryz.prog w "strings.asciiSpace" .u8 Lib.asciiSpaceTab) :
    Calls Tryz.prog 172 #[.string s] w fun e w' =>
      e = .returned (.slice (some ⟨w.heap.size, 0, none⟩) (Lib.fields s.data.toList).length (Lib.fields s.data.toList).length) ∧ w' = w.alloc (.cells ((Lib.fields s.data.toList).map fun l => Value.string ⟨l.toArray⟩).toArray 9) := Any.strings_Fields Tryz.lays157 (by kernel_rfl) (by kernel_rfl) s w hs hascii htab
def Tryz.lays109_ren : Go.Shelf.Ren := ⟨fun | 109 => 171 | n => n, fun | 31 => 132 | 9 => 9 | 3 => 3 | 0 => 0 | 4 => 4 | n => n, fun | n => n⟩
theorem Tryz.lays109 : Go.Proofs.Lays.n109 Tryz.prog Tryz.lays109_ren := {
  mixed := by kernel_rfl
  f109 := Tryz.func171.trans (congrArg some (by kernel_rfl))
  t0 := Tryz.underlying0
  a0 := Tryz.isAgg0
  z0 := Tryz.sizeOf0
  v0 := Tryz.zeroValue0
  t3 := Tryz.underlying3
  a3 := Tryz.isAgg3
  z3 := Tryz.sizeOf3
  v3 := Tryz.zeroValue3
  t4 := Tryz.underlying4
  a4 := Tryz.isAgg4
  z4 := Tryz.sizeOf4
  v4 := Tryz.zeroValue4
  t9 := Tryz.underlying9
  a9 := Tryz.isAgg9
  z9 := Tryz.sizeOf9
  v9 := Tryz.zeroValue9
  t31 := Tryz.underlying132
  a31 := Tryz.isAgg132
  z31 := Tryz.sizeOf132
  v31 := Tryz.zeroValue132 }
open Go.Lib in
theorem Tryz.slices_Index_string (b off n c : Nat) (zs : List ByteArray) (x : ByteArray) (w : World) (hz : n ≤ zs.length) (hbig : n ≤ 9223372036854775807) (hc : ∀ j, j < zs.length → w.cell? ⟨b, off + j, none⟩ = some (.string (zs.getD j ByteArray.empty))) :
    Calls Tryz.prog 171 #[.slice (some ⟨b, off, none⟩) n c, .string x] w fun e w' => e = .returned (.int .i64 (Lib.idxOfS (zs.take n) x)) ∧ w' = w := Any.slices_Index_string Tryz.lays109 b off n c zs x w hz hbig hc
def Tryz.lays110_ren : Go.Shelf.Ren := ⟨fun | 110 => 166 | 109 => 171 | n => n, fun | 31 => 132 | 9 => 9 | 4 => 4 | 3 => 3 | 0 => 0 | n => n, fun | n => n⟩
theorem Tryz.lays110 : Go.Proofs.Lays.n110 Tryz.prog Tryz.lays110_ren := {
  mixed := by kernel_rfl
  f109 := Tryz.func171.trans (congrArg some (by kernel_rfl))
  f110 := Tryz.func166.trans (congrArg some (by kernel_rfl))
  t0 := Tryz.underlying0
  a0 := Tryz.isAgg0
  z0 := Tryz.sizeOf0
  v0 := Tryz.zeroValue0
  t3 := Tryz.underlying3
  a3 := Tryz.isAgg3
  z3 := Tryz.sizeOf3
  v3 := Tryz.zeroValue3
  t4 := Tryz.underlying4
  a4 := Tryz.isAgg4
  z4 := Tryz.sizeOf4
  v4 := Tryz.zeroValue4
  t9 := Tryz.underlying9
  a9 := Tryz.isAgg9
  z9 := Tryz.sizeOf9
  v9 := Tryz.zeroValue9
  t31 := Tryz.underlying132
  a31 := Tryz.isAgg132
  z31 := Tryz.sizeOf132
  v31 := Tryz.zeroValue132 }
open Go.Lib in
theorem Tryz.slices_Contains_string (b off n c : Nat) (zs : List ByteArray) (x : ByteArray) (w : World) (hz : n ≤ zs.length) (hbig : n ≤ 9223372036854775807) (hc : ∀ j, j < zs.length → w.cell? ⟨b, off + j, none⟩ = some (.string (zs.getD j ByteArray.empty))) :
    Calls Tryz.prog 166 #[.slice (some ⟨b, off, none⟩) n c, .string x] w fun e w' => e = .returned (.bool (Lib.containsS (zs.take n) x)) ∧ w' = w := Any.slices_Contains_string Tryz.lays110 b off n c zs x w hz hbig hc
def Tryz.lays137_ren : Go.Shelf.Ren := ⟨fun | 137 => 168 | 217 => 173 | 266 => 176 | n => n, fun | 9 => 9 | 5 => 5 | 3 => 3 | n => n, fun | n => n⟩
theorem Tryz.lays137 : Go.Proofs.Lays.n137 Tryz.prog Tryz.lays137_ren := {
  mixed := by kernel_rfl
  f137 := Tryz.func168.trans (congrArg some (by kernel_rfl))
  f217 := Tryz.func173.trans (congrArg some (by kernel_rfl))
  f266 := Tryz.func176.trans (congrArg some (by kernel_rfl))
  t3 := Tryz.underlying3
  a3 := Tryz.isAgg3
  z3 := Tryz.sizeOf3
  v3 := Tryz.zeroValue3
  t5 := Tryz.underlying5
  a5 := Tryz.isAgg5
  z5 := Tryz.sizeOf5
  v5 := Tryz.zeroValue5
  t9 := Tryz.underlying9
  a9 := Tryz.isAgg9
  z9 := Tryz.sizeOf9
  v9 := Tryz.zeroValue9 }
open Go.RowKit in
theorem Tryz.strings_IndexByte (s : ByteArray) (c : Int) (w : World) :
    Calls Tryz.prog 168 #[.string s, .int .u8 c] w fun e w' => e = .returned (.int .i64 (Lib.indexByte s.data.toList c.toNat.toUInt8)) ∧ w' = w := Any.strings_IndexByte Tryz.lays137 s c w
end Go.Proofs

namespace Go.Proofs.YtinekmjengckdaaGreatDoor
open Go.RowKit
set_option maxHeartbeats 400000
set_option maxRecDepth 100000
theorem w64 (x : Int) (h : -9223372036854775808 ≤ x ∧ x ≤ 9223372036854775807) : wrap64 x = x := IntWalk.wrap64_in x h
theorem rq {k : Nat} {args : Array Value} {W : World} {v : Value} (h : Calls Tryz.prog k args W fun e w' => e = .returned v ∧ Chg (fun _ => False) W w') : Calls Tryz.prog k args W fun e w' => e = .returned v ∧ Below W.heap.size W w' :=
  h.mono (fun _ _ h => ⟨h.1, h.2.below (Nat.le_refl _) (fun _ _ h => h.elim)⟩)
theorem chg_regrown (w : World) (d : Nat) (os : Array Obj) : Chg (fun _ => False) w (Go.Sort.grow (redrawn w d) os) := Chg.of_below (below_regrown w d os) _
theorem cell_alloc {w : World} {a : Addr} {v : Value} (h : w.cell? a = some v) (o : Obj) : (w.alloc o).cell? a = some v := by
  rw [World.cell?_alloc_lt _ _ _ (World.block_lt_of_cell? w a h)]
  exact h
theorem hat_lt {w : World} {b o : Nat} {v : Value} (h : w.cell? ⟨b, o, none⟩ = some v) : b < w.heap.size := World.block_lt_of_cell? w ⟨b, o, none⟩ h
def intl (n : Int) : Value := .int .i64 n
section
variable {T T' S : Nat → Prop} {w w' : World} {v : Value} {l : List Int}
end
structure Lay (w : World) : Prop where
  spc : Lib.TabIs Tryz.prog w "strings.asciiSpace" .u8 Lib.asciiSpaceTab
  sz : 2 ≤ w.heap.size
theorem globS : Tryz.prog.globalNamed "strings.asciiSpace" = some 0 := by kernel_rfl
theorem Lay.chg {w w' : World} {S : Nat → Prop} (h : Lay w) (hc : Chg S w w') (hS : ∀ b, b < 7 → ¬ S b) : Lay w' := by
  have hz := h.sz
  have hz2 := hc.size
  refine ⟨?_, by omega⟩
  have h1 := h.spc
  unfold Lib.TabIs World.var? at h1 ⊢
  rw [globS] at h1 ⊢
  simp only [Option.bind_some] at h1 ⊢
  rw [hc.block 0 (by omega) (hS 0 (by omega))]
  exact h1
end Go.Proofs.YtinekmjengckdaaGreatDoor

namespace Go.Proofs.YtinekmjengckdaaGreatDoor
open Go.RowKit
set_option maxHeartbeats 1000000
def RdR {α : Type} (T : Nat → Prop) (w : World) (f : α → Value → List Value) (R : World → Value → α → Prop) (v : Value) (xs : List α) : Prop :=
  ∃ (A : Option Addr) (c : Nat) (ps : List (α × Value)), v = .slice A xs.length c ∧ ps.map Prod.fst = xs ∧ Rd T w A (ps.flatMap fun p => f p.1 p.2) ∧ (∀ p ∈ ps, R w p.2 p.1) ∧ xs.length ≤ 9223372036854775807
section
variable {α : Type} {T T' : Nat → Prop} {w w' : World} {f : α → Value → List Value} {R R' : World → Value → α → Prop} {v : Value} {xs : List α}
theorem flat_at {β : Type} (g : β → List Value) (n : Nat) (hf : ∀ x, (g x).length = n) : ∀ (l : List β) (k j : Nat) (x : β), l[k]? = some x → j < n → (l.flatMap g)[k * n + j]? = (g x)[j]? := by
  intro l
  induction l with
  | nil => intro k j x h; simp at h
  | cons y l ih =>
    intro k j x h hj
    rw [List.flatMap_cons]
    cases k with
    | zero =>
      simp only [List.getElem?_cons_zero, Option.some.injEq] at h
      subst h
      rw [Nat.zero_mul, Nat.zero_add, List.getElem?_append_left (by rw [hf]; exact hj)]
    | succ k =>
      rw [List.getElem?_cons_succ] at h
      rw [List.getElem?_append_right (by rw [hf, Nat.succ_mul]; omega), hf, show (k + 1) * n + j - n = k * n + j by rw [Nat.succ_mul]; omega]
      exact ih k j x h hj
theorem RdR.val (h : RdR T w f R v xs) : ∃ A c, v = .slice A xs.length c := by
  obtain ⟨A, c, _, h, _⟩ := h
  exact ⟨A, c, h⟩
theorem RdR.big (h : RdR T w f R v xs) : xs.length ≤ 9223372036854775807 := by
  obtain ⟨_, _, _, _, _, _, _, h⟩ := h
  exact h
theorem RdR.mono (h : RdR T w f R v xs) (hT : ∀ b, T b → T' b) (hR : ∀ x ∈ xs, ∀ u, R w u x → R' w u x) : RdR T' w f R' v xs := by
  obtain ⟨A, c, ps, h1, h2, h3, h4, h5⟩ := h
  exact ⟨A, c, ps, h1, h2, h3.mono hT, fun p hp => hR _ (h2 ▸ List.mem_map_of_mem hp) _ (h4 p hp), h5⟩
theorem RdR.chg {S : Nat → Prop} (h : RdR T w f R v xs) (hc : Chg S w w') (hT : ∀ b, T b → b < w.heap.size → ¬ S b) (hR : ∀ x ∈ xs, ∀ u, R w u x → R' w' u x) : RdR T w' f R' v xs := by
  obtain ⟨A, c, ps, h1, h2, h3, h4, h5⟩ := h
  exact ⟨A, c, ps, h1, h2, h3.chg hc hT, fun p hp => hR _ (h2 ▸ List.mem_map_of_mem hp) _ (h4 p hp), h5⟩
theorem RdR.nil_ (T : Nat → Prop) (w : World) (A : Option Addr) (c : Nat) : RdR T w f R (.slice A 0 c) [] :=
  ⟨A, c, [], rfl, rfl, Rd.nil_ _ _ _, fun _ h => absurd h List.not_mem_nil, by simp⟩
theorem RdR.at_ (h : RdR T w f R v xs) {n : Nat} (hn : ∀ x u, (f x u).length = n) (h0 : 0 < n) {k : Nat} {x : α} (hk : xs[k]? = some x) : ∃ b o c u, v = .slice (some ⟨b, o, none⟩) xs.length c ∧ T b ∧ R w u x ∧ ∀ j y, j < n → (f x u)[j]? = some y → w.cell? ⟨b, o + (k * n + j), none⟩ = some y := by
  obtain ⟨A, c, ps, h1, h2, h3, h4, h5⟩ := h
  rw [← h2, List.getElem?_map, Option.map_eq_some_iff] at hk
  obtain ⟨p, hp, rfl⟩ := hk
  have hne : (ps.flatMap fun p => f p.1 p.2) ≠ [] := by
    intro e
    have hl := flat_at (fun p : α × Value => f p.1 p.2) n (fun q => hn q.1 q.2) ps k 0 p hp h0
    rw [e] at hl
    have : (f p.1 p.2).length = n := hn _ _
    rw [List.getElem?_nil] at hl
    have := List.getElem?_eq_none_iff.1 hl.symm
    omega
  obtain ⟨b, o, rfl, ht, hc⟩ := h3.flat hne
  exact ⟨b, o, c, p.2, h1, ht, h4 p (List.mem_of_getElem? hp), fun j y hj hy => hc _ _ ((flat_at (fun p : α × Value => f p.1 p.2) n (fun q => hn q.1 q.2) ps k j p hp hj).trans hy)⟩
end
def ndv (n : Nd) (_ : Value) : List Value := [.int .i64 n.kind, .string n.text, .int .i64 n.num, .int .i64 n.kids]
def ndOk (n : Nd) : Prop := n.text.size ≤ 9223372036854775807
def RdN (T : Nat → Prop) (w : World) (v : Value) (xs : List Nd) : Prop := RdR T w ndv (fun _ _ n => ndOk n) v xs
def RdNs (T : Nat → Prop) (w : World) (v : Value) (xs : List (List Nd)) : Prop := RdR T w (fun _ u => [u]) (fun w u t => RdN T w u t) v xs
def RdC (T : Nat → Prop) (w : World) (v : Value) (xs : List Ct) : Prop := RdR T w (fun c u => [.string c.name, u]) (fun w u c => RdNs T w u c.args ∧ c.name.size ≤ 9223372036854775807) v xs
def RdD (T : Nat → Prop) (w : World) (v : Value) (xs : List Dt) : Prop := RdR T w (fun d u => [.string d.name, .int .i64 d.params, u]) (fun w u d => RdC T w u d.cons ∧ d.name.size ≤ 9223372036854775807) v xs
def RdS (T : Nat → Prop) (w : World) (v : Value) (xs : List Sg) : Prop := RdR T w (fun s u => [.string s.name, u]) (fun w u s => RdN T w u s.type ∧ s.name.size ≤ 9223372036854775807) v xs
section
variable {T T' : Nat → Prop} {w w' : World} {S : Nat → Prop} {v : Value}
theorem RdN.mono {xs : List Nd} (h : RdN T w v xs) (hT : ∀ b, T b → T' b) : RdN T' w v xs := RdR.mono h hT (fun _ _ _ h => h)
theorem RdN.chg {xs : List Nd} (h : RdN T w v xs) (hc : Chg S w w') (hT : ∀ b, T b → b < w.heap.size → ¬ S b) : RdN T w' v xs := RdR.chg h hc hT (fun _ _ _ h => h)
theorem RdNs.mono {xs : List (List Nd)} (h : RdNs T w v xs) (hT : ∀ b, T b → T' b) : RdNs T' w v xs := RdR.mono h hT (fun _ _ _ h => h.mono hT)
theorem RdNs.chg {xs : List (List Nd)} (h : RdNs T w v xs) (hc : Chg S w w') (hT : ∀ b, T b → b < w.heap.size → ¬ S b) : RdNs T w' v xs := RdR.chg h hc hT (fun _ _ _ h => h.chg hc hT)
theorem RdC.mono {xs : List Ct} (h : RdC T w v xs) (hT : ∀ b, T b → T' b) : RdC T' w v xs := RdR.mono h hT (fun _ _ _ h => ⟨h.1.mono hT, h.2⟩)
theorem RdC.chg {xs : List Ct} (h : RdC T w v xs) (hc : Chg S w w') (hT : ∀ b, T b → b < w.heap.size → ¬ S b) : RdC T w' v xs := RdR.chg h hc hT (fun _ _ _ h => ⟨h.1.chg hc hT, h.2⟩)
theorem RdD.mono {xs : List Dt} (h : RdD T w v xs) (hT : ∀ b, T b → T' b) : RdD T' w v xs := RdR.mono h hT (fun _ _ _ h => ⟨h.1.mono hT, h.2⟩)
theorem RdD.chg {xs : List Dt} (h : RdD T w v xs) (hc : Chg S w w') (hT : ∀ b, T b → b < w.heap.size → ¬ S b) : RdD T w' v xs := RdR.chg h hc hT (fun _ _ _ h => ⟨h.1.chg hc hT, h.2⟩)
theorem RdS.chg {xs : List Sg} (h : RdS T w v xs) (hc : Chg S w w') (hT : ∀ b, T b → b < w.heap.size → ¬ S b) : RdS T w' v xs := RdR.chg h hc hT (fun _ _ _ h => ⟨h.1.chg hc hT, h.2⟩)
theorem RdN.at_ {xs : List Nd} (h : RdN T w v xs) {k : Nat} {n : Nd} (hk : xs[k]? = some n) : ∃ b o c, v = .slice (some ⟨b, o, none⟩) xs.length c ∧ T b ∧ ndOk n ∧ w.cell? ⟨b, o + k * 4, none⟩ = some (.int .i64 n.kind) ∧ w.cell? ⟨b, o + k * 4 + 1, none⟩ = some (.string n.text) ∧ w.cell? ⟨b, o + k * 4 + 2, none⟩ = some (.int .i64 n.num) ∧ w.cell? ⟨b, o + k * 4 + 3, none⟩ = some (.int .i64 n.kids) := by
  obtain ⟨b, o, c, u, h1, h2, h3, h4⟩ := RdR.at_ h (n := 4) (fun _ _ => rfl) (by omega) hk
  exact ⟨b, o, c, h1, h2, h3, h4 0 _ (by omega) rfl, by rw [Nat.add_assoc]; exact h4 1 _ (by omega) rfl, by rw [Nat.add_assoc]; exact h4 2 _ (by omega) rfl, by rw [Nat.add_assoc]; exact h4 3 _ (by omega) rfl⟩
theorem RdNs.at_ {xs : List (List Nd)} (h : RdNs T w v xs) {k : Nat} {t : List Nd} (hk : xs[k]? = some t) : ∃ b o c u, v = .slice (some ⟨b, o, none⟩) xs.length c ∧ T b ∧ RdN T w u t ∧ w.cell? ⟨b, o + k, none⟩ = some u := by
  obtain ⟨b, o, c, u, h1, h2, h3, h4⟩ := RdR.at_ h (n := 1) (fun _ _ => rfl) (by omega) hk
  exact ⟨b, o, c, u, h1, h2, h3, by have := h4 0 _ (by omega) rfl; rw [Nat.mul_one, Nat.add_zero] at this; exact this⟩
theorem RdC.at_ {xs : List Ct} (h : RdC T w v xs) {k : Nat} {x : Ct} (hk : xs[k]? = some x) : ∃ b o c u, v = .slice (some ⟨b, o, none⟩) xs.length c ∧ T b ∧ RdNs T w u x.args ∧ x.name.size ≤ 9223372036854775807 ∧ w.cell? ⟨b, o + k * 2, none⟩ = some (.string x.name) ∧ w.cell? ⟨b, o + k * 2 + 1, none⟩ = some u := by
  obtain ⟨b, o, c, u, h1, h2, h3, h4⟩ := RdR.at_ h (n := 2) (fun _ _ => rfl) (by omega) hk
  exact ⟨b, o, c, u, h1, h2, h3.1, h3.2, h4 0 _ (by omega) rfl, by rw [Nat.add_assoc]; exact h4 1 _ (by omega) rfl⟩
theorem RdD.at_ {xs : List Dt} (h : RdD T w v xs) {k : Nat} {x : Dt} (hk : xs[k]? = some x) : ∃ b o c u, v = .slice (some ⟨b, o, none⟩) xs.length c ∧ T b ∧ RdC T w u x.cons ∧ x.name.size ≤ 9223372036854775807 ∧ w.cell? ⟨b, o + k * 3, none⟩ = some (.string x.name) ∧ w.cell? ⟨b, o + k * 3 + 1, none⟩ = some (.int .i64 x.params) ∧ w.cell? ⟨b, o + k * 3 + 2, none⟩ = some u := by
  obtain ⟨b, o, c, u, h1, h2, h3, h4⟩ := RdR.at_ h (n := 3) (fun _ _ => rfl) (by omega) hk
  exact ⟨b, o, c, u, h1, h2, h3.1, h3.2, h4 0 _ (by omega) rfl, by rw [Nat.add_assoc]; exact h4 1 _ (by omega) rfl, by rw [Nat.add_assoc]; exact h4 2 _ (by omega) rfl⟩
theorem RdS.at_ {xs : List Sg} (h : RdS T w v xs) {k : Nat} {x : Sg} (hk : xs[k]? = some x) : ∃ b o c u, v = .slice (some ⟨b, o, none⟩) xs.length c ∧ T b ∧ RdN T w u x.type ∧ x.name.size ≤ 9223372036854775807 ∧ w.cell? ⟨b, o + k * 2, none⟩ = some (.string x.name) ∧ w.cell? ⟨b, o + k * 2 + 1, none⟩ = some u := by
  obtain ⟨b, o, c, u, h1, h2, h3, h4⟩ := RdR.at_ h (n := 2) (fun _ _ => rfl) (by omega) hk
  exact ⟨b, o, c, u, h1, h2, h3.1, h3.2, h4 0 _ (by omega) rfl, by rw [Nat.add_assoc]; exact h4 1 _ (by omega) rfl⟩
end
end Go.Proofs.YtinekmjengckdaaGreatDoor

namespace Go.Proofs.YtinekmjengckdaaGreatDoor
open Go.RowKit
section
variable {T : Nat → Prop} {w : World} {A : Option Addr} {xs : List Value} {v : Value}
theorem Rd.low (h : Rd T w A xs) : Rd (fun b => T b ∧ b < w.heap.size) w A xs := fun hn => by
  obtain ⟨ad, e, ht, hc⟩ := h hn
  obtain ⟨x, r, rfl⟩ := List.exists_cons_of_ne_nil hn
  have h0 := block_lt_of_cell (hc 0 x rfl)
  rw [block_of_add] at h0
  exact ⟨ad, e, ⟨ht, h0⟩, hc⟩
theorem RdR.low {α : Type} {f : α → Value → List Value} {R R' : World → Value → α → Prop} {l : List α} (h : RdR T w f R v l) (hR : ∀ x ∈ l, ∀ u, R w u x → R' w u x) : RdR (fun b => T b ∧ b < w.heap.size) w f R' v l := by
  obtain ⟨A, c, ps, h1, h2, h3, h4, h5⟩ := h
  exact ⟨A, c, ps, h1, h2, h3.low, fun p hp => hR _ (h2 ▸ List.mem_map_of_mem hp) _ (h4 p hp), h5⟩
theorem RdN.low {l : List Nd} (h : RdN T w v l) : RdN (fun b => T b ∧ b < w.heap.size) w v l := RdR.low h (fun _ _ _ h => h)
theorem RdNs.low {l : List (List Nd)} (h : RdNs T w v l) : RdNs (fun b => T b ∧ b < w.heap.size) w v l := RdR.low h (fun _ _ _ h => h.low)
theorem RdC.low {l : List Ct} (h : RdC T w v l) : RdC (fun b => T b ∧ b < w.heap.size) w v l := RdR.low h (fun _ _ _ h => ⟨h.1.low, h.2⟩)
theorem RdD.low {l : List Dt} (h : RdD T w v l) : RdD (fun b => T b ∧ b < w.heap.size) w v l := RdR.low h (fun _ _ _ h => ⟨h.1.low, h.2⟩)
end
end Go.Proofs.YtinekmjengckdaaGreatDoor
