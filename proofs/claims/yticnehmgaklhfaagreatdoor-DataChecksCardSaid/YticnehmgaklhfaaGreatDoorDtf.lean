/-
  Layer 10, the program's side: where a constructor stands.
-/
import Derived.Test.YticnehmgaklhfaaGreatDoorDx
import Derived.Test.YticnehmgaklhfaaGreatDoorFnd
import Derived.Test.YticnehmgaklhfaaGreatDoorLow
namespace Go.Proofs.YticnehmgaklhfaaGreatDoor
open Go.RowKit
set_option maxHeartbeats 4000000
set_option maxRecDepth 100000
def fX (l : List Dt) (con : ByteArray) : Int := match findL l con with
  | some r => (r.1 : Int)
  | none => 0
def fY (l : List Dt) (con : ByteArray) : Int := match findL l con with
  | some r => (r.2 : Int)
  | none => 0
theorem fX_some {l : List Dt} {con : ByteArray} {i k : Nat} (h : findL l con = some (i, k)) : fX l con = (i : Int) := by unfold fX; rw [h]
theorem fY_some {l : List Dt} {con : ByteArray} {i k : Nat} (h : findL l con = some (i, k)) : fY l con = (k : Int) := by unfold fY; rw [h]
theorem fX_none {l : List Dt} {con : ByteArray} (h : findL l con = none) : fX l con = 0 := by unfold fX; rw [h]
theorem fY_none {l : List Dt} {con : ByteArray} (h : findL l con = none) : fY l con = 0 := by unfold fY; rw [h]
theorem name_same {a b : ByteArray} : (a.toList == b.toList) = true ↔ a = b := by
  rw [beq_iff_eq]
  exact ⟨bytes_eq, fun h => by rw [h]⟩
theorem NoneB.start (l : List Dt) (con : ByteArray) : NoneB l con 0 0 := fun i' k' _ _ _ _ h => by omega
theorem NoneB.step {l : List Dt} {con : ByteArray} {i k : Nat} {d : Dt} {x : Ct} (h : NoneB l con i k) (hd : l[i]? = some d) (hk : d.cons[k]? = some x) (hx : x.name ≠ con) : NoneB l con i (k + 1) := fun i' k' d' x' h1 h2 h3 => by
  rcases h3 with h3 | ⟨rfl, h3⟩
  · exact h i' k' d' x' h1 h2 (.inl h3)
  · rcases Nat.lt_or_ge k' k with h4 | h4
    · exact h i' k' d' x' h1 h2 (.inr ⟨rfl, h4⟩)
    · obtain rfl : k' = k := by omega
      have := h1.symm.trans hd
      injection this with this
      subst this
      have := h2.symm.trans hk
      injection this with this
      subst this
      exact hx
theorem NoneB.next {l : List Dt} {con : ByteArray} {i : Nat} {d : Dt} (h : NoneB l con i d.cons.length) (hd : l[i]? = some d) : NoneB l con (i + 1) 0 := fun i' k' d' x' h1 h2 h3 => by
  rcases h3 with h3 | ⟨_, h3⟩
  · rcases Nat.lt_or_ge i' i with h4 | h4
    · exact h i' k' d' x' h1 h2 (.inl h4)
    · obtain rfl : i' = i := by omega
      have := h1.symm.trans hd
      injection this with this
      subst this
      exact h i' k' d' x' h1 h2 (.inr ⟨rfl, (List.getElem?_eq_some_iff.1 h2).1⟩)
  · omega
theorem find_each (l : List Dt) (v : Value) (con : ByteArray) (T : Nat → Prop) (w : World) (gl gc gx gy : Nat) (hl : Blk w gl 22 #[v]) (hc : Blk w gc 9 #[.string con]) (hx : Blk w gx 3 #[.int .i64 0]) (hy : Blk w gy 3 #[.int .i64 0]) (hne : gx ≠ gy)
    (hr : RdD T w v l) (hT : ∀ b, T b → ¬ (b = gx ∨ b = gy)) (hn : l.length ≤ 1000000) (hcn : ∀ d ∈ l, d.cons.length ≤ 1000000) :
    Calls Tryz.prog 28 #[v, .func (.func 53) #[] #[.pointer (some ⟨gl, 0, none⟩), .pointer (some ⟨gc, 0, none⟩), .pointer (some ⟨gx, 0, none⟩), .pointer (some ⟨gy, 0, none⟩)]] w fun e w' =>
      e = .returned (.bool (findL l con).isSome) ∧ Chg (fun b => b = gx ∨ b = gy) w w' ∧ Blk w' gx 3 #[.int .i64 (fX l con)] ∧ Blk w' gy 3 #[.int .i64 (fY l con)] := by
  have hlx : gl ≠ gx := hl.ne_ hx (by decide)
  have hly : gl ≠ gy := hl.ne_ hy (by decide)
  have hcx : gc ≠ gx := hc.ne_ hx (by decide)
  have hcy : gc ≠ gy := hc.ne_ hy (by decide)
  have hsl : ¬ (gl = gx ∨ gl = gy) := fun h => h.elim hlx hly
  have hsc : ¬ (gc = gx ∨ gc = gy) := fun h => h.elim hcx hcy
  refine (each_find l v T (fun b => b = gx ∨ b = gy) w gl gc gx gy
    (fun i k W => Chg (fun b => b = gx ∨ b = gy) w W ∧ Blk W gx 3 #[.int .i64 0] ∧ Blk W gy 3 #[.int .i64 0] ∧ NoneB l con i k)
    (fun i k W => Chg (fun b => b = gx ∨ b = gy) w W ∧ Blk W gx 3 #[.int .i64 (i : Int)] ∧ Blk W gy 3 #[.int .i64 (k : Int)] ∧ findL l con = some (i, k))
    hr hn hcn hT (fun _ _ _ h => h.1) (fun i k W W' h hW => ⟨h.1.trans hW (fun _ _ h => h.elim), h.2.1.chg hW id, h.2.2.1.chg hW id, h.2.2.2⟩) ⟨Chg.refl _ _, hx, hy, NoneB.start _ _⟩ (fun i d W hd h => ⟨h.1, h.2.1, h.2.2.1, h.2.2.2.next hd⟩)
    (fun i k d x W hd hk h => ?_)).mono ?_
  · cases hq : x.name.toList == con.toList
    · refine (find_not l v con i k d x T W gl gc gx gy (hl.chg h.1 hsl) (hc.chg h.1 hsc) (hr.chg h.1 (fun b hb _ => hT b hb)) hd hk hn (hcn d (List.mem_of_getElem? hd)) hq).mono ?_
      rintro e w2 ⟨rfl, hc2⟩
      exact ⟨false, rfl, fun _ => ⟨h.1.trans hc2 (fun _ _ h => h.elim), h.2.1.chg hc2 id, h.2.2.1.chg hc2 id, h.2.2.2.step hd hk (fun e => by rw [name_same.2 e] at hq; cases hq)⟩, fun h => by cases h⟩
    · refine (find_yes l v con i k d x T W gl gc gx gy (hl.chg h.1 hsl) (hc.chg h.1 hsc) (hr.chg h.1 (fun b hb _ => hT b hb)) hd hk hn (hcn d (List.mem_of_getElem? hd)) hq 0 0 h.2.1 h.2.2.1 hne).mono ?_
      rintro e w2 ⟨rfl, h1, h2, h3⟩
      refine ⟨true, rfl, fun h => (by cases h), fun _ => ⟨h.1.trans' h3, h1, h2, ?_⟩⟩
      have := findG_here con l 0 i k d x hd hk (name_same.1 hq) h.2.2.2
      rw [Nat.zero_add] at this
      exact this
  · rintro e w2 (⟨rfl, h⟩ | ⟨rfl, i, k, h⟩)
    · have hf : findL l con = none := findG_none con l 0 h.2.2.2
      rw [fX_none hf, fY_none hf, hf]
      exact ⟨rfl, h.1, h.2.1, h.2.2.1⟩
    · rw [fX_some h.2.2.2, fY_some h.2.2.2, h.2.2.2]
      exact ⟨rfl, h.1, h.2.1, h.2.2.1⟩
theorem findL_any (l : List Dt) (v : Value) (con : ByteArray) (T : Nat → Prop) (w : World) (hr : RdD T w v l) (hn : l.length ≤ 1000000) (hcn : ∀ d ∈ l, d.cons.length ≤ 1000000) :
    Calls Tryz.prog 21 #[v, .string con] w fun e w' => e = .returned (.tuple #[.int .i64 (fX l con), .int .i64 (fY l con), .bool (findL l con).isSome]) ∧ Chg (fun _ => False) w w' := by
  obtain ⟨A, c, rfl⟩ := hr.val
  have h1 : Chg (fun _ => False) w ((((w.alloc (.cells #[.slice A l.length c] 22)).alloc (.cells #[.string con] 9)).alloc (.cells #[.int .i64 0] 3)).alloc (.cells #[.int .i64 0] 3)) := ((((Chg.refl _ w).alloc _).alloc _).alloc _).alloc _
  have k1 := (((Blk.new w 22 #[.slice A l.length c]).alloc (.cells #[.string con] 9)).alloc (.cells #[.int .i64 0] 3)).alloc (.cells #[.int .i64 0] 3)
  have k2 := ((Blk.new_at (w.alloc (.cells #[.slice A l.length c] 22)) (w.heap.size + 1) 9 #[.string con] (by simp)).alloc (.cells #[.int .i64 0] 3)).alloc (.cells #[.int .i64 0] 3)
  have k3 := (Blk.new_at ((w.alloc (.cells #[.slice A l.length c] 22)).alloc (.cells #[.string con] 9)) (w.heap.size + 1 + 1) 3 #[.int .i64 0] (by simp)).alloc (.cells #[.int .i64 0] 3)
  have k4 := Blk.new_at (((w.alloc (.cells #[.slice A l.length c] 22)).alloc (.cells #[.string con] 9)).alloc (.cells #[.int .i64 0] 3)) (w.heap.size + 1 + 1 + 1) 3 #[.int .i64 0] (by simp)
  have HE := hide (find_each l _ con (fun b => T b ∧ b < w.heap.size) _ _ _ _ _ k1 k2 k3 k4 (by omega) (hr.low.chg h1 (fun _ _ _ => id)) (fun b hb => by have := hb.2; omega) hn hcn)
  have l0 := k1.cell 0
  simp only [List.getElem?_toArray, List.getElem?_cons_zero] at l0
  have H1 := hide h1
  clear hr k1 k2 k3 k4 h1 hcn
  generalize (findL l con).isSome = R at *
  generalize fX l con = X at *
  generalize fY l con = Y at *
  go_enter Tryz.func21, Tryz.ntmps21
  go_wp2_with (go_at_call 28; refine (unhide HE).mono ?_; rintro e w2 ⟨rfl, hc2, hx2, hy2⟩; (have q0 := hx2.cell 0); (have q1 := hy2.cell 0); simp only [List.getElem?_toArray, List.getElem?_cons_zero] at q0 q1; have HC2 := hide hc2; clear hc2 hx2 hy2)
  go_quiet (fail)
  go_wp2_with fail
  go_ret3
  exact ⟨rfl, ((unhide H1).trans (unhide HC2) (fun i hi h => by omega)).drewN _⟩
end Go.Proofs.YticnehmgaklhfaaGreatDoor
