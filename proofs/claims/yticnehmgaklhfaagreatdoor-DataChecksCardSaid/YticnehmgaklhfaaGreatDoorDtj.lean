/-
  Layer 10, the program's side: rows put together: clones, the type of a function, a type's own type.
-/
import Derived.Test.YticnehmgaklhfaaGreatDoorDti
namespace Go.Proofs.YticnehmgaklhfaaGreatDoor
open Go.RowKit
set_option maxHeartbeats 4000000
set_option maxRecDepth 100000
theorem own_start {w : World} {g e size : Nat} {base : Nat} (h : Blk w g e #[]) (hb : base ≤ g) : w.ownsRow base e size (.slice (some ⟨g, 0, none⟩) 0 0) 0 [] :=
  ⟨by simp, .inr ⟨g, 0, #[], rfl, hb, h, Nat.le_refl _, by simp only [maxLen]; omega, by simp, by simp⟩⟩
def nd4 (n : Nd) : List Value := [.int .i64 n.kind, .string n.text, .int .i64 n.num, .int .i64 n.kids]
theorem nd4_len (l : List Nd) : (l.flatMap nd4).length = l.length * 4 := by
  induction l with
  | nil => rfl
  | cons x l ih => rw [List.flatMap_cons, List.length_append, ih, List.length_cons]; simp [nd4]; omega
theorem nd4_one (l : List Nd) : ∀ u ∈ l.flatMap nd4, u.oneCell' = true := by
  intro u hu
  obtain ⟨x, _, hx⟩ := List.mem_flatMap.1 hu
  simp only [nd4, List.mem_cons, List.not_mem_nil, or_false] at hx
  rcases hx with rfl | rfl | rfl | rfl <;> rfl
theorem RdN.rd {T : Nat → Prop} {w : World} {A : Option Addr} {m c : Nat} {l : List Nd} (h : RdN T w (.slice A m c) l) : m = l.length ∧ Rd T w A (l.flatMap nd4) := by
  obtain ⟨A', c', ps, h1, h2, h3, h4, h5⟩ := h
  injection h1 with e1 e2 e3
  subst e1
  refine ⟨e2, ?_⟩
  have : l.flatMap nd4 = ps.flatMap fun p => ndv p.1 p.2 := by
    rw [← h2, List.flatMap_map]
    rfl
  rw [this]
  exact h3
theorem RdN.mk {T : Nat → Prop} {w : World} {A : Option Addr} {c : Nat} {l : List Nd} (h : Rd T w A (l.flatMap nd4)) (hs : ∀ n ∈ l, ndOk n) (hn : l.length ≤ 1000000) : RdN T w (.slice A l.length c) l := by
  refine ⟨A, c, l.map fun n => (n, undef), rfl, by rw [List.map_map]; exact List.map_id _, ?_, fun p hp => ?_, by omega⟩
  · have : l.flatMap nd4 = (l.map fun n => (n, undef)).flatMap fun p => ndv p.1 p.2 := by
      rw [List.flatMap_map]
      rfl
    rw [← this]
    exact h
  · obtain ⟨n, hn, rfl⟩ := List.mem_map.1 hp
    exact hs n hn
theorem infoNd : (Tryz.prog.info? 56).map (fun i => (i.zero, i.size, i.bytes)) = some (some (.agg #[.int .i64 0, .string ⟨#[]⟩, .int .i64 0, .int .i64 0]), 4, 40) := by kernel_rfl
theorem infoCt : (Tryz.prog.info? 53).map (fun i => (i.zero, i.size, i.bytes)) = some (some (.agg #[.string ⟨#[]⟩, .slice none 0 0]), 2, 40) := by kernel_rfl
theorem clone_n (l : List Nd) (v : Value) (T : Nat → Prop) (w : World) (hr : RdN T w v l) (hn : l.length ≤ 1000000) :
    Calls Tryz.prog 47 #[v] w fun e w' => ∃ v', e = .returned v' ∧ RdN (fun k => w.heap.size ≤ k) w' v' l ∧ Chg (fun _ => False) w w' := by
  obtain ⟨A, c, rfl⟩ := hr.val
  have hsz := hr.oks
  have hrd := hr.rd.2
  rcases A with _ | ad
  · have hl : l = [] := by
      rcases l with _ | ⟨x, l⟩
      · rfl
      · obtain ⟨ad, h, _⟩ := hrd (by simp [nd4])
        cases h
    subst hl
    clear hr hsz hrd
    have qe : ∀ (w : World) (a : Option Addr) (n c n' c' : Nat), (binOp .eql 33 (.slice a n c) (.slice none n' c')).run Tryz.prog w = .ok (.bool a.isNone) w := fun w a n c n' c' => Lib.run_eql_slice_nil w _ _ a n c n' c' Tryz.underlying33
    go_enter Tryz.func47, Tryz.ntmps47
    go_wp2_with fail
    go_ret
    exact ⟨_, rfl, RdR.nil_ _ _ _ _, Chg.refl _ _⟩
  · obtain ⟨i_, hi, hz, hs, hb⟩ := info_parts infoNd
    have hlen := nd4_len l
    have hone := nd4_one l
    have hrd2 := hrd.chg ((Chg.refl (fun _ => False) w).alloc (.cells #[] 56)) (fun _ _ _ => id)
    have hm1 : 0 + l.length ≤ maxLen := by simp only [maxLen]; omega
    have hm2 : (0 + l.length) * 40 ≤ 140737488355328 := by omega
    have ho := own_start (base := w.heap.size) (size := 4) (Blk.new w 56 #[]) (Nat.le_refl _)
    have hbs : w.heap.size ≤ (w.alloc (.cells #[] 56)).heap.size := by rw [size_alloc]; omega
    have HSZ := hide hsz
    clear hr hsz hrd
    have qe : ∀ (w : World) (a : Option Addr) (n c n' c' : Nat), (binOp .eql 33 (.slice a n c) (.slice none n' c')).run Tryz.prog w = .ok (.bool a.isNone) w := fun w a n c n' c' => Lib.run_eql_slice_nil w _ _ a n c n' c' Tryz.underlying33
    go_enter Tryz.func47, Tryz.ntmps47
    go_wp2_with (at_builtin
                 refine wpList_append_rd _ rfl (.tmp 5) (.tmp 6) 33 rfl w.heap.size 56 i_ _ 4 40 Tryz.underlying33 hi hz hs hb rfl (by decide) _ 0 [] rfl ho T (some ad) l.length c (l.flatMap nd4) rfl hlen hrd2 hone hm1 hm2 hbs ?_
                 intro v5 w5 ho5 hc5 hat
                 have HO5 := hide ho5
                 have HC5 := hide (((Chg.refl (fun _ => False) w).alloc (.cells #[] 56)).trans hc5 (fun i hi e => by have := (ho.lt i e).1; omega))
                 clear ho5 hc5 hat)
    go_ret
    have hO := unhide HO5
    rw [Nat.zero_add, List.nil_append] at hO
    obtain ⟨B, c5, rfl⟩ := own_val hO
    exact ⟨_, rfl, RdN.mk ((own_rd hO (by omega)).mono (fun k hk => (hO.lt k hk).1)) (unhide HSZ) hn, unhide HC5⟩
theorem clone_c (l : List Ct) (v : Value) (T : Nat → Prop) (w : World) (hr : RdC T w v l) (hn : l.length ≤ 1000000) :
    Calls Tryz.prog 55 #[v] w fun e w' => ∃ v', e = .returned v' ∧ RdC (fun k => T k ∨ w.heap.size ≤ k) w' v' l ∧ Chg (fun _ => False) w w' := by
  obtain ⟨A, c, ps, rfl, h2, hrd, h4, h5⟩ := hr
  rcases A with _ | ad
  · have hl : l = [] := by
      rcases ps with _ | ⟨x, ps⟩
      · rw [← h2]; rfl
      · obtain ⟨ad, h, _⟩ := hrd (by simp)
        cases h
    subst hl
    clear hrd h2 h4
    have qe : ∀ (w : World) (a : Option Addr) (n c n' c' : Nat), (binOp .eql 48 (.slice a n c) (.slice none n' c')).run Tryz.prog w = .ok (.bool a.isNone) w := fun w a n c n' c' => Lib.run_eql_slice_nil w _ _ a n c n' c' Tryz.underlying48
    go_enter Tryz.func55, Tryz.ntmps55
    go_wp2_with fail
    go_ret
    exact ⟨_, rfl, RdR.nil_ _ _ _ _, Chg.refl _ _⟩
  · obtain ⟨i_, hi, hz, hs, hb⟩ := info_parts infoCt
    have hpl : ps.length = l.length := by rw [← h2, List.length_map]
    have hlen : (ps.flatMap fun p => [Value.string p.1.name, p.2]).length = l.length * 2 := by
      rw [← hpl]
      clear hrd h2 h4 hpl
      induction ps with
      | nil => rfl
      | cons x ps ih => rw [List.flatMap_cons, List.length_append, ih, List.length_cons]; simp; omega
    have hone : ∀ u ∈ (ps.flatMap fun p => [Value.string p.1.name, p.2]), u.oneCell' = true := by
      intro u hu
      obtain ⟨x, hx1, hx⟩ := List.mem_flatMap.1 hu
      simp only [List.mem_cons, List.not_mem_nil, or_false] at hx
      rcases hx with rfl | rfl
      · rfl
      · obtain ⟨B, c3, e⟩ := (h4 x hx1).1.val
        rw [e]
        rfl
    have hrd2 := hrd.chg ((Chg.refl (fun _ => False) w).alloc (.cells #[] 53)) (fun _ _ _ => id)
    have hm1 : 0 + l.length ≤ maxLen := by simp only [maxLen]; omega
    have hm2 : (0 + l.length) * 40 ≤ 140737488355328 := by omega
    have ho := own_start (base := w.heap.size) (size := 2) (Blk.new w 53 #[]) (Nat.le_refl _)
    have hbs : w.heap.size ≤ (w.alloc (.cells #[] 53)).heap.size := by rw [size_alloc]; omega
    have H4 := hide h4
    have H2 := hide h2
    have qe : ∀ (w : World) (a : Option Addr) (n c n' c' : Nat), (binOp .eql 48 (.slice a n c) (.slice none n' c')).run Tryz.prog w = .ok (.bool a.isNone) w := fun w a n c n' c' => Lib.run_eql_slice_nil w _ _ a n c n' c' Tryz.underlying48
    generalize hX : (ps.flatMap fun p => [Value.string p.1.name, p.2]) = xs at *
    have HX := hide hX
    clear hrd h2 h4 hX hpl
    go_enter Tryz.func55, Tryz.ntmps55
    go_wp2_with (at_builtin
                 refine wpList_append_rd _ rfl (.tmp 5) (.tmp 6) 48 rfl w.heap.size 53 i_ _ 2 40 Tryz.underlying48 hi hz hs hb rfl (by decide) _ 0 [] rfl ho T (some ad) l.length c xs rfl hlen hrd2 hone hm1 hm2 hbs ?_
                 intro v5 w5 ho5 hc5 hat
                 have HO5 := hide ho5
                 have HC5 := hide (((Chg.refl (fun _ => False) w).alloc (.cells #[] 53)).trans hc5 (fun i hi e => by have := (ho.lt i e).1; omega))
                 clear ho5 hc5 hat)
    go_ret
    have hO := unhide HO5
    rw [Nat.zero_add, List.nil_append, ← unhide HX] at hO
    obtain ⟨B, c5, rfl⟩ := own_val hO
    exact ⟨_, rfl, ⟨B, c5, ps, rfl, unhide H2, (own_rd hO (by omega)).mono (fun k hk => .inr (hO.lt k hk).1), fun p hp => ⟨((unhide H4 p hp).1.chg (unhide HC5) (fun _ _ _ => id)).mono (fun _ h => .inl h), (unhide H4 p hp).2⟩, by omega⟩, unhide HC5⟩
def famL (l : List Dt) (con : ByteArray) : List Ct := match findL l con with
  | some r => match l[r.1]? with
    | some d => d.cons
    | none => []
  | none => []
theorem famL_some {l : List Dt} {con : ByteArray} {i k : Nat} {d : Dt} (h : findL l con = some (i, k)) (hd : l[i]? = some d) : famL l con = d.cons := by
  unfold famL
  rw [h]
  dsimp only
  rw [hd]
theorem famL_none {l : List Dt} {con : ByteArray} (h : findL l con = none) : famL l con = [] := by unfold famL; rw [h]
theorem findG_lt (con : ByteArray) : ∀ (l : List Dt) (s i k : Nat), findG con s l = some (i, k) → s ≤ i ∧ ∃ d x, l[i - s]? = some d ∧ d.cons[k]? = some x ∧ x.name = con
  | [], s, i, k, h => by cases h
  | y :: l, s, i, k, h => by
    unfold findG at h
    split at h
    · rename_i k' hk
      injection h with h
      injection h with h1 h2
      subst h1 h2
      rw [List.findIdx?_eq_some_iff_getElem] at hk
      obtain ⟨hk1, hk2, _⟩ := hk
      exact ⟨Nat.le_refl _, y, _, by rw [Nat.sub_self]; rfl, List.getElem?_eq_getElem hk1, of_decide_eq_true hk2⟩
    · obtain ⟨h1, d, x, h2, h3⟩ := findG_lt con l (s + 1) i k h
      refine ⟨by omega, d, x, ?_, h3⟩
      rw [show i - s = (i - (s + 1)) + 1 by omega, List.getElem?_cons_succ]
      exact h2
theorem findL_at {l : List Dt} {con : ByteArray} {i k : Nat} (h : findL l con = some (i, k)) : ∃ d x, l[i]? = some d ∧ d.cons[k]? = some x ∧ x.name = con := (findG_lt con l 0 i k h).2
theorem family_any (l : List Dt) (v : Value) (con : ByteArray) (T : Nat → Prop) (w : World) (hr : RdD T w v l) (hn : l.length ≤ 1000000) (hcn : ∀ d ∈ l, d.cons.length ≤ 1000000) :
    Calls Tryz.prog 23 #[v, .string con] w fun e w' => ∃ v', e = .returned v' ∧ RdC (fun k => T k ∨ w.heap.size ≤ k) w' v' (famL l con) ∧ Chg (fun _ => False) w w' := by
  have HF := hide (findL_any l v con T w hr hn hcn)
  cases hf : findL l con with
  | none =>
    rw [famL_none hf]
    rw [hf] at HF
    obtain ⟨A, c, rfl⟩ := hr.val
    generalize fX l con = X at *
    generalize fY l con = Y at *
    clear hr hcn hf
    go_enter Tryz.func23, Tryz.ntmps23
    go_wp2_with (go_at_call 21; refine (unhide HF).mono ?_; rintro e w2 ⟨rfl, hc2⟩; have HC2 := hide hc2; clear hc2)
    go_ret
    exact ⟨_, rfl, RdR.nil_ _ _ _ _, unhide HC2⟩
  | some r =>
    obtain ⟨i, k⟩ := r
    obtain ⟨d, x, hd, hk, _⟩ := findL_at hf
    rw [famL_some hf hd]
    rw [hf, fX_some hf, fY_some hf] at HF
    have hi : (i : Int) < (l.length : Int) := by have := (List.getElem?_eq_some_iff.1 hd).1; omega
    have hdn := hcn d (List.mem_of_getElem? hd)
    obtain ⟨b, o, c2, u, rfl, _, hru, hns, c0, c1, c3⟩ := hr.at_ hd
    have HU := hide hru
    have HK := hide (fun W (hW : Chg (fun _ => False) w W) => (hW.cell (World.block_lt_of_cell? w _ c3) id).trans c3)
    have HCL := hide (fun W (hW : Chg (fun _ => False) w W) => clone_c d.cons u T W (hru.chg hW (fun _ _ _ => id)) hdn)
    obtain ⟨B, c5, rfl⟩ := hru.val
    clear hr hcn hf hd hk hru c0 c1 c3
    go_enter Tryz.func23, Tryz.ntmps23
    go_wp2_with (first
      | (go_at_call 21; (with_reducible refine (unhide HF).mono ?_); rintro e w2 ⟨rfl, hc2⟩; (have q3 := (unhide HK) _ hc2); have HC2 := hide hc2; clear hc2)
      | (go_at_call 55; (with_reducible refine (unhide HCL _ (unhide HC2)).mono ?_); rintro e w3 ⟨v', rfl, hv, hc3⟩; have HV := hide hv; have HC3 := hide hc3; clear hv hc3))
    go_ret
    exact ⟨_, rfl, (unhide HV).mono (fun k h => h.elim .inl (fun h => .inr (Nat.le_trans (unhide HC2).size h))), (unhide HC2).trans' (unhide HC3)⟩
end Go.Proofs.YticnehmgaklhfaaGreatDoor
