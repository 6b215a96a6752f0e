/-
  Plain laws on what constructors are, as names: each type may be, its parts, its variables, where its name stands; and one copy in a drawn region.
-/
import Derived.Test.YticnehmgaklhfaaGreatDoorCpy
import Derived.Test.YticnehmgaklhfaaGreatDoorSgs
import Derived.Test.YticnehmgaklhfaaGreatDoorLw
import Derived.Test.YticnehmgaklhfaaGreatDoorLwP
namespace Go.Proofs.YticnehmgaklhfaaGreatDoor
open Go.RowKit
set_option maxHeartbeats 1000000
set_option maxRecDepth 100000
theorem eat_leaves (f : Nat → Nd) (hf : ∀ v, (f v).kids = 0) : ∀ (l : List Nat), eat (l.map f) l.length = some l.length
  | [] => by simp [eat]
  | v :: l => by
    rw [List.map_cons, List.length_cons]
    unfold eat
    rw [if_neg (by omega), hf, if_neg (by omega), show l.length + 1 - 1 + (0 : Int).toNat = l.length by simp, eat_leaves f hf l]
    rfl
theorem of_whole {d : Dt} (h : 0 ≤ d.params) : wholeB (ofL d) = true := by
  rw [whole_iff]
  refine ⟨by unfold ofL; simp, ?_⟩
  have e := eat_leaves (fun (v : Nat) => (⟨31, ⟨#[]⟩, (v : Int), 0⟩ : Nd)) (fun _ => rfl) (List.range d.params.toNat)
  rw [List.length_range] at e
  rw [of_len]
  unfold ofL eat
  rw [if_neg (by omega), if_neg (by show ¬ d.params < 0; omega)]
  have h2 : 1 - 1 + (⟨32, d.name, 0, d.params⟩ : Nd).kids.toNat = d.params.toNat := by show 0 + d.params.toNat = _; omega
  rw [h2, e]
  simp only [Option.map_some]
  congr 1
  omega
theorem name_ne {s : ByteArray} (h : nameB 2 s = true) : s ≠ ArrowT ∧ s ≠ IntT ∧ s ≠ TextT ∧ s ≠ RefT := by
  refine ⟨?_, ?_, ?_, ?_⟩ <;> (rintro rfl; revert h; decide +kernel)
theorem of_nodes {d : Dt} (hn : nameB 2 d.name = true) (h0 : 0 ≤ d.params) (h8 : d.params ≤ 8) : (ofL d).all nodeB = true := by
  obtain ⟨n1, n2, n3, n4⟩ := name_ne hn
  unfold ofL
  rw [List.all_cons, Bool.and_eq_true]
  constructor
  · unfold nodeB
    simp only [hn, n1, n2, n3, n4, h8, if_false, or_self, ne_eq, not_true_eq_false, Bool.true_and, decide_true]
    rfl
  · rw [List.all_eq_true]
    intro x hx
    obtain ⟨v, hv, rfl⟩ := List.mem_map.1 hx
    have := List.mem_range.1 hv
    unfold nodeB
    simp only [if_true, Bool.and_eq_true, decide_eq_true_eq]
    exact ⟨⟨⟨by rfl, trivial⟩, by omega⟩, by omega⟩
theorem sigs_index {l : List Dt} {i k : Nat} {d : Dt} {x : Ct} (h : l[i]? = some d) (hx : d.cons[k]? = some x) : (sigsL l)[(sigsTo l i k).length]? = some ⟨x.name, arrowL x.args (ofL d)⟩ := by
  obtain ⟨hi, hd⟩ := List.getElem?_eq_some_iff.1 h
  have e : l = l.take i ++ d :: l.drop (i + 1) := by rw [← hd, List.getElem_cons_drop, List.take_append_drop]
  have e2 : sigsL l = sigsL (l.take i) ++ ((d.cons.map fun c => ⟨c.name, arrowL c.args (ofL d)⟩) ++ sigsL (l.drop (i + 1))) := by
    conv => lhs; rw [e]
    unfold sigsL
    rw [List.flatMap_append, List.flatMap_cons]
  have hk := (List.getElem?_eq_some_iff.1 hx).1
  unfold sigsTo
  rw [h, e2]
  dsimp only
  rw [List.length_append, List.length_map, List.length_take, Nat.min_eq_left (Nat.le_of_lt hk), List.getElem?_append_right (by omega), Nat.add_sub_cancel_left, List.getElem?_append_left (by rw [List.length_map]; exact hk), List.getElem?_map, hx]
  rfl
theorem sigsTo_lt {l : List Dt} {i k : Nat} {d : Dt} {x : Ct} (h : l[i]? = some d) (hx : d.cons[k]? = some x) : (sigsTo l i k).length < (sigsL l).length := (List.getElem?_eq_some_iff.1 (sigs_index h hx)).1
theorem sigsTo_len_step {l : List Dt} {i k : Nat} {d : Dt} {x : Ct} (h : l[i]? = some d) (hx : d.cons[k]? = some x) : (sigsTo l i (k + 1)).length = (sigsTo l i k).length + 1 := by
  rw [sigsTo_step h hx, List.length_append]
  rfl
theorem datas_nodup {l : List Dt} (h : datasE l = 0) : (consNames l).Nodup := by
  unfold datasE at h
  split at h
  · cases h
  · split at h
    · cases h
    · rename_i h2
      rw [not_or, Classical.not_not, Classical.not_not] at h2
      exact h2.2
theorem find_own {l : List Dt} (h : datasE l = 0) {i k : Nat} {d : Dt} {x : Ct} (hd : l[i]? = some d) (hx : d.cons[k]? = some x) : findL l x.name = some (i, k) := by
  have := (consNodup l 0).1 (datas_nodup h) i d k x hd hx
  rw [Nat.zero_add] at this
  exact this
/-- A constructor's type: it may be; what it takes and comes to; how many variables it has. -/
theorem sig_facts {d : Dt} {x : Ct} (hd : dtB d = true) (hx : x ∈ d.cons) (h10 : x.args.length ≤ 10) (h60 : ∀ t ∈ x.args, t.length ≤ 60) : typB (arrowL x.args (ofL d)) = true ∧ partsR (arrowL x.args (ofL d)) = (x.args, ofL d) ∧ (varsR (arrowL x.args (ofL d))).length = d.params.toNat := by
  obtain ⟨hn, hp0, hp8, _, _, hcs⟩ := dt_ok hd
  obtain ⟨_, _, hat⟩ := ct_ok (hcs x hx)
  have hw : ∀ a ∈ x.args, wholeB a = true := fun a ha => (typ_ok (arg_typ (hat a ha))).2.1
  have ht : typB (arrowL x.args (ofL d)) = true := by
    unfold typB
    rw [arrow_whole x.args _ hw (of_whole hp0), arrow_nodes (fun a ha => (typ_ok (arg_typ (hat a ha))).2.2) (of_nodes hn hp0 hp8), decide_eq_true]
    · rfl
    · have h1 := arrow_size x.args (ofL d) 60 h60
      have h2 : x.args.length * (60 + 1) ≤ 10 * 61 := Nat.mul_le_mul_right _ h10
      rw [of_len] at h1
      omega
  refine ⟨ht, ?_, ?_⟩
  · unfold partsR
    rw [ht, if_pos rfl]
    exact parts_arrow x.args _ _ hw (name_ne hn).1
  · unfold varsR
    rw [ht, if_pos rfl]
    exact sig_vars hp0 (hcs x hx)
section
variable {ops : Array Oper} {o : Oper} {a : Act} {K : Act → World → Prop} {Q : Exit → Act → World → Prop} {E : Prop}
/-- One copy of declarations, in a drawn region. -/
theorem step_copyD {T : Nat → Prop} {xs : List Dt} (w0 : World) (hgd : o.guard = none) (s x : Operand) (ho : o.op = .call { callee := .builtin .append, args := #[s, x], argTypes := #[22, 22] }) (v : Value) (hs : a.eval s = .slice (some ⟨w0.heap.size, 0, none⟩) 0 0) (hx : a.eval x = v) (hr : RdD T w0 v xs) (hl : xs.length ≤ 1000000)
    (h : ∀ v' w', RdD (fun b => T b ∨ w0.heap.size ≤ b) w' v' xs → Chg (fun _ => False) w0 w' → K (a.put o.dst v') w') : if Region.wanted o (yielded ops a.tmps) = true then Oper.wp Tryz.prog o a (w0.alloc (.cells #[] 51)).drew K Q else E := by
  obtain ⟨i_, hi, hz, hsz, hb⟩ := info_parts infoDt
  obtain ⟨A, c, ps, rfl, h2, h3, h4, h5⟩ := hr
  have hps : ps.length = xs.length := by rw [← h2, List.length_map]
  have hc0 : Chg (fun _ => False) w0 (w0.alloc (.cells #[] 51)).drew := ((Chg.refl (fun _ => False) w0).alloc (.cells #[] 51)).drew
  have hown := own_start (base := w0.heap.size) (size := 3) (Blk.new w0 51 #[]).drew (Nat.le_refl _)
  refine step_append_rd _ hgd s x 22 ho w0.heap.size 51 i_ _ 3 48 Tryz.underlying22 hi hz hsz hb rfl (by decide) _ 0 [] hs hown T A xs.length c (ps.flatMap fun p => [Value.string p.1.name, .int .i64 p.1.params, p.2]) hx (by rw [flat_len (fun p : Dt × Value => [Value.string p.1.name, .int .i64 p.1.params, p.2]) 3 (fun _ => rfl), hps]) (h3.chg hc0 (fun _ _ _ => id))
    (fun u hu => ?_) (by simp only [maxLen]; omega) (by omega) hc0.size (fun v' w' o1 o2 o3 => h v' w' ?_ ?_)
  · obtain ⟨p, hp, hu⟩ := List.mem_flatMap.1 hu
    obtain ⟨A', c', hv'⟩ := (h4 p hp).1.val
    simp only [List.mem_cons, List.not_mem_nil, or_false] at hu
    rcases hu with rfl | rfl | rfl
    · rfl
    · rfl
    · rw [hv']
      rfl
  · have hch : Chg (fun _ => False) w0 w' := hc0.trans o2 (fun k hk e => by have := (hown.lt k e).1; omega)
    rw [Nat.zero_add, List.nil_append] at o1
    obtain ⟨A', c', rfl⟩ := own_val o1
    exact ⟨A', c', ps, rfl, h2, (own_rd o1 (by omega)).mono (fun k hk => .inr (o1.lt k hk).1), fun p hp => ⟨((h4 p hp).1.chg hch (fun _ _ _ => id)).mono (fun _ hb => .inl hb), (h4 p hp).2⟩, h5⟩
  · exact hc0.trans o2 (fun k hk e => by have := (hown.lt k e).1; omega)
end
end Go.Proofs.YticnehmgaklhfaaGreatDoor
