/-
  Copies of rows: append onto a fresh empty row.
-/
import Derived.Test.YticnehmgaklhfaaGreatDoorDtl
namespace Go.Proofs.YticnehmgaklhfaaGreatDoor
open Go.RowKit
set_option maxHeartbeats 1000000
set_option maxRecDepth 100000
section
variable {α : Type} {P : Program} {ops : Array Oper} {rest : List Oper} {o : Oper} {a : Act} {Q : Exit → Act → World → Prop}
theorem flat_len {β : Type} (g : β → List Value) (n : Nat) (hf : ∀ x, (g x).length = n) : ∀ l : List β, (l.flatMap g).length = l.length * n
  | [] => by simp
  | x :: l => by rw [List.flatMap_cons, List.length_append, flat_len g n hf l, hf, List.length_cons, Nat.succ_mul]; omega
theorem wpList_copy {f : α → Value → List Value} {R R' : World → Value → α → Prop} {T : Nat → Prop} {xs : List α} (w0 : World) (e : TypeId) (hw : Region.wanted o (yielded ops a.tmps) = true) (s x : Operand) (t : TypeId)
    (ho : o.op = .call { callee := .builtin .append, args := #[s, x], argTypes := #[t, t] }) (i : TypeInfo) (z : Value) (size bytes : Nat) (ht : P.underlying t = some (.slice e)) (hi : P.info? e = some i) (hz : i.zero = some z)
    (hsize : i.size = size) (hby : i.bytes = bytes) (hzs : z.cells.size = size) (hsz : 0 < size) (v : Value) (hs : a.eval s = .slice (some ⟨w0.heap.size, 0, none⟩) 0 0) (hx : a.eval x = v) (hr : RdR T w0 f R v xs)
    (hf : ∀ x u, (f x u).length = size) (h1 : ∀ x u, R w0 u x → ∀ y ∈ f x u, y.oneCell' = true) (hl : xs.length ≤ 1000000) (hb : bytes ≤ 1000) (hR : ∀ w', Chg (fun _ => False) w0 w' → ∀ x ∈ xs, ∀ u, R w0 u x → R' w' u x)
    (h : ∀ v' w', RdR (fun b => T b ∨ w0.heap.size ≤ b) w' f R' v' xs → capOk v' → Chg (fun _ => False) w0 w' → wpList P ops Q rest (a.put o.dst v') w') : wpList P ops Q (o :: rest) a (w0.alloc (.cells #[] e)) := by
  obtain ⟨A, c, ps, rfl, h2, h3, h4, h5⟩ := hr
  have hps : ps.length = xs.length := by rw [← h2, List.length_map]
  have hc0 := (Chg.refl (fun _ => False) w0).alloc (.cells #[] e)
  have hown := own_start (base := w0.heap.size) (size := size) (Blk.new w0 e #[]) (Nat.le_refl _)
  refine wpList_step fun K hK => ?_
  rw [if_pos hw]
  refine wp_append_rd _ s x t ho w0.heap.size e i z size bytes ht hi hz hsize hby hzs hsz _ 0 [] hs hown T A xs.length c (ps.flatMap fun p => f p.1 p.2) hx (by rw [flat_len (fun p : α × Value => f p.1 p.2) size (fun p => hf p.1 p.2), hps]) (h3.chg hc0 (fun _ _ _ => id))
    (fun u hu => ?_) (by simp only [maxLen]; omega) (Nat.le_trans (Nat.mul_le_mul (show 0 + xs.length ≤ 1000000 by omega) hb) (by omega)) (by rw [size_alloc]; omega) (fun v' w' o1 o2 o3 => hK _ _ (h v' w' ?_ (own_cap o1) ?_))
  · obtain ⟨p, hp, hu⟩ := List.mem_flatMap.1 hu
    exact h1 p.1 p.2 (h4 p hp) u hu
  · have hch : Chg (fun _ => False) w0 w' := hc0.trans o2 (fun k hk e => by have := (hown.lt k e).1; omega)
    rw [Nat.zero_add, List.nil_append] at o1
    obtain ⟨A', c', rfl⟩ := own_val o1
    exact ⟨A', c', ps, rfl, h2, (own_rd o1 hsz).mono (fun k hk => .inr (o1.lt k hk).1), fun p hp => hR w' hch p.1 (h2 ▸ List.mem_map_of_mem hp) p.2 (h4 p hp), h5⟩
  · exact hc0.trans o2 (fun k hk e => by have := (hown.lt k e).1; omega)
end
theorem infoDt : (Tryz.prog.info? 51).map (fun i => (i.zero, i.size, i.bytes)) = some (some (.agg #[.string ⟨#[]⟩, .int .i64 0, .slice none 0 0]), 3, 48) := by kernel_rfl
section
variable {ops : Array Oper} {rest : List Oper} {o : Oper} {a : Act} {Q : Exit → Act → World → Prop}
theorem cpyN {T : Nat → Prop} {xs : List Nd} (w0 : World) (hw : Region.wanted o (yielded ops a.tmps) = true) (s x : Operand) (ho : o.op = .call { callee := .builtin .append, args := #[s, x], argTypes := #[33, 33] }) (v : Value) (hs : a.eval s = .slice (some ⟨w0.heap.size, 0, none⟩) 0 0) (hx : a.eval x = v) (hr : RdN T w0 v xs) (hl : xs.length ≤ 1000000)
    (h : ∀ v' w', RdN (fun b => T b ∨ w0.heap.size ≤ b) w' v' xs → capOk v' → Chg (fun _ => False) w0 w' → wpList Tryz.prog ops Q rest (a.put o.dst v') w') : wpList Tryz.prog ops Q (o :: rest) a (w0.alloc (.cells #[] 56)) := by
  obtain ⟨i_, hi, hz, hsz, hb⟩ := info_parts infoNd
  exact wpList_copy w0 56 hw s x 33 ho i_ _ 4 40 Tryz.underlying33 hi hz hsz hb rfl (by decide) v hs hx hr (fun _ _ => rfl) (fun x u _ y hy => by simp only [ndv, List.mem_cons, List.not_mem_nil, or_false] at hy; rcases hy with rfl | rfl | rfl | rfl <;> rfl) hl (by decide) (fun _ _ _ _ _ h => h) h
end
section
variable {ops : Array Oper} {rest : List Oper} {o : Oper} {a : Act} {Q : Exit → Act → World → Prop}
theorem cpyNs {T : Nat → Prop} {xs : List (List Nd)} (w0 : World) (hw : Region.wanted o (yielded ops a.tmps) = true) (s x : Operand) (ho : o.op = .call { callee := .builtin .append, args := #[s, x], argTypes := #[32, 32] }) (v : Value) (hs : a.eval s = .slice (some ⟨w0.heap.size, 0, none⟩) 0 0) (hx : a.eval x = v) (hr : RdNs T w0 v xs) (hl : xs.length ≤ 1000000)
    (h : ∀ v' w', RdNs (fun b => T b ∨ w0.heap.size ≤ b) w' v' xs → capOk v' → Chg (fun _ => False) w0 w' → wpList Tryz.prog ops Q rest (a.put o.dst v') w') : wpList Tryz.prog ops Q (o :: rest) a (w0.alloc (.cells #[] 33)) := by
  obtain ⟨i_, hi, hz, hsz, hb⟩ := info_parts infoRow
  exact wpList_copy w0 33 hw s x 32 ho i_ _ 1 24 Tryz.underlying32 hi hz hsz hb rfl (by decide) v hs hx hr (fun _ _ => rfl) (fun x u hu y hy => by obtain ⟨A, c, rfl⟩ := hu.val; obtain rfl := List.mem_singleton.1 hy; rfl) hl (by decide) (fun w' hc x _ u hu => (hu.chg hc (fun _ _ _ => id)).mono (fun _ hb => .inl hb)) h
end
section
variable {ops : Array Oper} {rest : List Oper} {o : Oper} {a : Act} {Q : Exit → Act → World → Prop}
theorem cpyD {T : Nat → Prop} {xs : List Dt} (w0 : World) (hw : Region.wanted o (yielded ops a.tmps) = true) (s x : Operand) (ho : o.op = .call { callee := .builtin .append, args := #[s, x], argTypes := #[22, 22] }) (v : Value) (hs : a.eval s = .slice (some ⟨w0.heap.size, 0, none⟩) 0 0) (hx : a.eval x = v) (hr : RdD T w0 v xs) (hl : xs.length ≤ 1000000)
    (h : ∀ v' w', RdD (fun b => T b ∨ w0.heap.size ≤ b) w' v' xs → capOk v' → Chg (fun _ => False) w0 w' → wpList Tryz.prog ops Q rest (a.put o.dst v') w') : wpList Tryz.prog ops Q (o :: rest) a (w0.alloc (.cells #[] 51)) := by
  obtain ⟨i_, hi, hz, hsz, hb⟩ := info_parts infoDt
  exact wpList_copy w0 51 hw s x 22 ho i_ _ 3 48 Tryz.underlying22 hi hz hsz hb rfl (by decide) v hs hx hr (fun _ _ => rfl) (fun x u hu y hy => by obtain ⟨A, c, rfl⟩ := hu.1.val; simp only [List.mem_cons, List.not_mem_nil, or_false] at hy; rcases hy with rfl | rfl | rfl <;> rfl) hl (by decide) (fun w' hc x _ u hu => ⟨(hu.1.chg hc (fun _ _ _ => id)).mono (fun _ hb => .inl hb), hu.2⟩) h
end
end Go.Proofs.YticnehmgaklhfaaGreatDoor
