/-
  Layer 10, the program's side: what constructors are, as names: one of them.
-/
import Derived.Test.YticnehmgaklhfaaGreatDoorDtl
import Derived.Test.YticnehmgaklhfaaGreatDoorOrdT
namespace Go.Proofs.YticnehmgaklhfaaGreatDoor
open Go.RowKit
set_option maxHeartbeats 4000000
set_option maxRecDepth 100000
theorem infoSg : (Tryz.prog.info? 47).map (fun i => (i.zero, i.size, i.bytes)) = some (some (.agg #[.string ⟨#[]⟩, .slice none 0 0]), 2, 40) := by kernel_rfl
theorem sig_one (l : List Dt) (v : Value) (i k : Nat) (d : Dt) (x : Ct) (T : Nat → Prop) (w : World) (gl go base n : Nat) (vo : Value) (xs : List Value) (hl : Blk w gl 22 #[v]) (hg : Blk w go 27 #[vo]) (hr : RdD T w v l) (hd : l[i]? = some d) (hk : d.cons[k]? = some x)
    (_hn : l.length ≤ 1000000) (_hcn : d.cons.length ≤ 1000000) (han : x.args.length ≤ 100) (htn : ∀ t ∈ x.args, t.length ≤ 4000) (hp0 : 0 ≤ d.params) (hp8 : d.params ≤ 1000) (hnn : n ≤ 1000000) (hown : w.ownsRow base 47 2 vo n xs) (hbase : base ≤ w.heap.size) (hgo : ¬ vo.ownBlock = some go) (hTo : ∀ b, T b → ¬ vo.ownBlock = some b) :
    Calls Tryz.prog 29 #[.int .i64 (i : Int), .int .i64 (k : Int), .pointer (some ⟨gl, 0, none⟩), .pointer (some ⟨go, 0, none⟩)] w fun e w' => e = .returned (.bool false) ∧ ∃ u vo', RdN (fun b => w.heap.size ≤ b ∧ b < w'.heap.size ∧ ¬ vo'.ownBlock = some b) w' u (arrowL x.args (ofL d)) ∧ capOk u ∧ Blk w' go 27 #[vo'] ∧ w'.ownsRow base 47 2 vo' (n + 1) (xs ++ [.string x.name, u]) ∧
      (vo'.ownBlock = vo.ownBlock ∨ ∃ j, w.heap.size ≤ j ∧ vo'.ownBlock = some j) ∧ Chg (fun b => b = go ∨ vo.ownBlock = some b) w w' := by
  have hi : (i : Int) < (l.length : Int) := by have := (List.getElem?_eq_some_iff.1 hd).1; omega
  have hkk : (k : Int) < (d.cons.length : Int) := by have := (List.getElem?_eq_some_iff.1 hk).1; omega
  obtain ⟨i_, hii, hz, hs, hb⟩ := info_parts infoSg
  obtain ⟨b, o, c2, u, rfl, htb, hru, hns, c0, c1, c3⟩ := hr.at_ hd
  obtain ⟨b2, o2, c4, u2, rfl, _, hru2, hxs, e0, e1⟩ := hru.at_ hk
  obtain ⟨OB, oc, rfl⟩ := own_val hown
  obtain ⟨B2, c6, rfl⟩ := hru2.val
  have q0 := hl.cell 0
  have g0 := hg.cell 0
  simp only [List.getElem?_toArray, List.getElem?_cons_zero] at q0 g0
  have c1w : Chg (fun _ => False) w (w.alloc (.cells #[.string x.name, .slice B2 x.args.length c6] 53)) := (Chg.refl _ w).alloc _
  have bk := Blk.new w 53 #[.string x.name, .slice B2 x.args.length c6]
  have HG := hide hg
  have HOWN := hide hown
  have HRU := hide hru2
  have HC1 := hide c1w
  have k0 := bk.cell 0
  have k1 := bk.cell 1
  simp only [List.getElem?_toArray, List.getElem?_cons_zero, List.getElem?_cons_succ] at k0 k1
  clear hru2
  have HL := hide hl
  clear hl hr hd hk hru
  go_enter Tryz.func29, Tryz.ntmps29
  go_upto_region 2 with fail
  have KSW := hide (show ∀ W', Chg (fun _ => False) (w.alloc (.cells #[.string x.name, .slice B2 x.args.length c6] 53)) W' → W'.cell? ⟨gl, 0, none⟩ = some (.slice (some ⟨b, o, none⟩) l.length c2) ∧ W'.cell? ⟨go, 0, none⟩ = some (.slice OB n oc) ∧ W'.cell? ⟨w.heap.size, 0, none⟩ = some (.string x.name) ∧ W'.cell? ⟨w.heap.size, 1, none⟩ = some (.slice B2 x.args.length c6) ∧ W'.cell? ⟨b, o + i * 3, none⟩ = some (.string d.name) ∧ W'.cell? ⟨b, o + i * 3 + 1, none⟩ = some (.int .i64 d.params) ∧ W'.cell? ⟨b, o + i * 3 + 2, none⟩ = some (.slice (some ⟨b2, o2, none⟩) d.cons.length c4) from fun W' hW => by
    have f1 : ∀ {p : Addr} {y : Value}, w.cell? p = some y → W'.cell? p = some y := fun {p y} h => ((c1w.trans' hW).cell (World.block_lt_of_cell? w _ h) id).trans h
    have f2 : ∀ {p : Addr} {y : Value}, (w.alloc (.cells #[.string x.name, .slice B2 x.args.length c6] 53)).cell? p = some y → W'.cell? p = some y := fun {p y} h => (hW.cell (World.block_lt_of_cell? _ _ h) id).trans h
    exact ⟨f1 q0, f1 g0, f2 k0, f2 k1, f1 c0, f1 c1, f1 c3⟩)
  have KS5 := hide (show ∀ (W V : World) (O : Obj), Chg (fun _ => False) (w.alloc (.cells #[.string x.name, .slice B2 x.args.length c6] 53)) W → Chg (fun k => (Value.slice OB n oc).ownBlock = some k) (W.alloc O) V → V.cell? ⟨gl, 0, none⟩ = some (.slice (some ⟨b, o, none⟩) l.length c2) ∧ V.cell? ⟨go, 0, none⟩ = some (.slice OB n oc) ∧ V.cell? ⟨w.heap.size, 0, none⟩ = some (.string x.name) ∧ V.cell? ⟨w.heap.size, 1, none⟩ = some (.slice B2 x.args.length c6) ∧ V.cell? ⟨b, o + i * 3, none⟩ = some (.string d.name) ∧ V.cell? ⟨b, o + i * 3 + 1, none⟩ = some (.int .i64 d.params) ∧ V.cell? ⟨b, o + i * 3 + 2, none⟩ = some (.slice (some ⟨b2, o2, none⟩) d.cons.length c4) from fun W V O hW hV => by
    have h1 := unhide KSW _ (hW.alloc O)
    have f : ∀ {p : Addr} {y : Value}, ¬ (Value.slice OB n oc).ownBlock = some p.block → (W.alloc O).cell? p = some y → V.cell? p = some y := fun {p y} hne h => (hV.cell (World.block_lt_of_cell? _ _ h) hne).trans h
    have hne2 : ¬ (Value.slice OB n oc).ownBlock = some w.heap.size := fun e => by have := (hown.lt _ e).2; omega
    have hne3 := hTo b htb
    have hnl := own_blk_ne hown (unhide HL) (by decide)
    exact ⟨f hnl h1.1, f hgo h1.2.1, f hne2 h1.2.2.1, f hne2 h1.2.2.2.1, f hne3 h1.2.2.2.2.1, f hne3 h1.2.2.2.2.2.1, f hne3 h1.2.2.2.2.2.2⟩)
  have HOF := hide (fun W (_hW : Chg (fun _ => False) (w.alloc (.cells #[.string x.name, .slice B2 x.args.length c6] 53)) W) => of_any d (some ⟨b2, o2, none⟩) d.cons.length c4 W hns hp0 hp8)
  have HAR := hide (fun W (hW : Chg (fun _ => False) (w.alloc (.cells #[.string x.name, .slice B2 x.args.length c6] 53)) W) (va : Value) (T2 : Nat → Prop) (hva : RdN T2 W va (ofL d)) => arrow_any x.args (ofL d) _ va T T2 W ((unhide HRU).chg (c1w.trans' hW) (fun _ _ _ => id)) hva han htn (by rw [of_len]; omega))
  have HOC := hide (fun W (hW : Chg (fun _ => False) (w.alloc (.cells #[.string x.name, .slice B2 x.args.length c6] 53)) W) => own_chg hown (c1w.trans' hW) (fun _ _ h => h))
  have HGC := hide (fun W (hW : Chg (fun _ => False) (w.alloc (.cells #[.string x.name, .slice B2 x.args.length c6] 53)) W) => hg.chg (c1w.trans' hW) id)
  have HSZ := hide (fun W (hW : Chg (fun _ => False) (w.alloc (.cells #[.string x.name, .slice B2 x.args.length c6] 53)) W) (O : Obj) => show base ≤ (W.alloc O).heap.size from by rw [size_alloc]; have := c1w.size; have := hW.size; omega)
  have HRN := hide (fun (W : World) (u : Value) => (rd_new W W.heap.size 47 [.string x.name, u] rfl).mono (T' := fun _ => True) (fun _ _ => trivial))
  have ho1 : ∀ (A4 : Option Addr) (m4 c4 : Nat), ∀ u ∈ [Value.string x.name, Value.slice A4 m4 c4], u.oneCell' = true := by intro A4 m4 c4 u hu; simp at hu; rcases hu with rfl | rfl <;> rfl
  have hm1 : n + 1 ≤ maxLen := by simp only [maxLen]; omega
  have hm2 : (n + 1) * 40 ≤ 140737488355328 := by omega
  have HLT := hide hown.lt
  have HGO := hide hgo
  have HBS := hide hbase
  have HHZ := hide hz
  clear q0 g0 k0 k1 c0 c1 c3 e0 e1 hg hown bk hgo c1w htn
  have HCQ : Hid (Chg (fun _ => False) (w.alloc (.cells #[.string x.name, .slice B2 x.args.length c6] 53)) (w.alloc (.cells #[.string x.name, .slice B2 x.args.length c6] 53)).drew) := hide (Chg.drew (Chg.refl _ _))
  have HKK := hide (unhide KSW _ (unhide HCQ))
  refine wp_region_but (fun W' => W'.cell? ⟨gl, 0, none⟩ = some (.slice (some ⟨b, o, none⟩) l.length c2) ∧ W'.cell? ⟨go, 0, none⟩ = some (.slice OB n oc) ∧ W'.cell? ⟨w.heap.size, 0, none⟩ = some (.string x.name) ∧ W'.cell? ⟨w.heap.size, 1, none⟩ = some (.slice B2 x.args.length c6) ∧ W'.cell? ⟨b, o + i * 3, none⟩ = some (.string d.name) ∧ W'.cell? ⟨b, o + i * 3 + 1, none⟩ = some (.int .i64 d.params) ∧ W'.cell? ⟨b, o + i * 3 + 2, none⟩ = some (.slice (some ⟨b2, o2, none⟩) d.cons.length c4)) 14 (by kernel_rfl) ?_
  refine AnyBut.take (i := 0) (v := ?_) rfl (by kernel_rfl) (by kernel_rfl) (by kernel_rfl) (by kernel_rfl) (fun _ _ _ h => h) (Or.inl ⟨by rfl, ?_⟩) (unhide HKK) ?_
  rotate_left
  · intro W' hS'; (try dsimp only at hS'); go_simp; try with_reducible rfl
  try simp only [Act.put, List.setIfInBounds_toArray]
  refine AnyBut.take (i := 1) (v := ?_) rfl (by kernel_rfl) (by kernel_rfl) (by kernel_rfl) (by kernel_rfl) (fun _ _ _ h => h) (Or.inl ⟨by rfl, ?_⟩) (unhide HKK) ?_
  rotate_left
  · intro W' hS'; (try dsimp only at hS'); go_simp; try with_reducible rfl
  try simp only [Act.put]
  refine AnyBut.take (i := 2) (v := ?_) rfl (by kernel_rfl) (by kernel_rfl) (by kernel_rfl) (by kernel_rfl) (fun _ _ _ h => h) (Or.inl ⟨by rfl, ?_⟩) (unhide HKK) ?_
  rotate_left
  · intro W' hS'; (try dsimp only at hS'); go_simp; try with_reducible rfl
  try simp only [Act.put]
  refine AnyBut.take (i := 3) (v := ?_) rfl (by kernel_rfl) (by kernel_rfl) (by kernel_rfl) (by kernel_rfl) (fun _ _ _ h => h) (Or.inl ⟨by rfl, ?_⟩) (unhide HKK) ?_
  rotate_left
  · intro W' hS'; (try dsimp only at hS'); go_simp; try with_reducible rfl
  try simp only [Act.put]
  refine AnyBut.take (i := 4) (v := ?_) rfl (by kernel_rfl) (by kernel_rfl) (by kernel_rfl) (by kernel_rfl) (fun _ _ _ h => h) (Or.inl ⟨by rfl, ?_⟩) (unhide HKK) ?_
  rotate_left
  · intro W' hS'; (try dsimp only at hS'); go_simp; try with_reducible rfl
  try simp only [Act.put]
  refine AnyBut.take (i := 5) (v := ?_) rfl (by kernel_rfl) (by kernel_rfl) (by kernel_rfl) (by kernel_rfl) (fun _ _ _ h => h) (Or.inl ⟨by rfl, ?_⟩) (unhide HKK) ?_
  rotate_left
  · intro W' hS'; (try dsimp only at hS'); go_simp; try with_reducible rfl
  try simp only [Act.put]
  refine AnyBut.take (i := 6) (v := ?_) rfl (by kernel_rfl) (by kernel_rfl) (by kernel_rfl) (by kernel_rfl) (fun _ _ _ h => h) (Or.inl ⟨by rfl, ?_⟩) (unhide HKK) ?_
  rotate_left
  · intro W' hS'; (try dsimp only at hS'); go_simp; try with_reducible rfl
  try simp only [Act.put]
  refine AnyBut.take (i := 7) (v := ?_) rfl (by kernel_rfl) (by kernel_rfl) (by kernel_rfl) (by kernel_rfl) (fun _ _ _ h => h) (Or.inl ⟨by rfl, ?_⟩) (unhide HKK) ?_
  rotate_left
  · intro W' hS'; (try dsimp only at hS'); go_simp; try with_reducible rfl
  try simp only [Act.put]
  refine AnyBut.take (i := 8) (v := ?_) rfl (by kernel_rfl) (by kernel_rfl) (by kernel_rfl) (by kernel_rfl) (fun _ _ _ h => h) (Or.inl ⟨by rfl, ?_⟩) (unhide HKK) ?_
  rotate_left
  · intro W' hS'; (try dsimp only at hS'); go_simp; try with_reducible rfl
  try simp only [Act.put]
  refine AnyBut.step (i := 9) (by kernel_rfl) rfl (fun K hK => ?_)
  go_simp
  go_at_call 30; (with_reducible refine (unhide HOF _ (unhide HCQ)).mono ?_); rintro e wa ⟨va, rfl, hva, _, hca⟩; have HN_ := hide ((unhide HCQ).trans' hca); clear HCQ; have HCQ := HN_; clear HN_ HKK; have HKK := hide (unhide KSW _ (unhide HCQ)); have HVA := hide hva; obtain ⟨A3, c7, rfl⟩ := hva.val; clear hva hca
  go_wp2_with fail
  refine hK.out _ _ (fun _ => unhide HKK) ?_
  clear hK K
  try simp only [Act.put, List.setIfInBounds_toArray, List.set_cons_zero, List.set_cons_succ]
  refine AnyBut.step (i := 10) (by kernel_rfl) rfl (fun K hK => ?_)
  go_simp
  go_at_call 13; (with_reducible refine (unhide HAR _ (unhide HCQ) _ _ (unhide HVA)).mono ?_); rintro e wb ⟨vb, rfl, hvb, hcb, hcc⟩; obtain ⟨A4, c8, hv4⟩ := hvb.val; have HVL := hide hvb.val; obtain ⟨m4, hm4⟩ : ∃ m4 : Nat, m4 = (arrowL x.args (ofL d)).length := ⟨_, rfl⟩; rw [← hm4] at hv4; subst hv4; have HN_ := hide ((unhide HCQ).trans' hcc); (have HVB := hide hvb); (have HCB := hide hcb); (have HCA := HCQ); clear HCQ; have HCQ := HN_; clear HN_ HKK; have HKK := hide (unhide KSW _ (unhide HCQ)); have ho4 := unhide HOC _ (unhide HCQ); have hb4 := unhide HSZ _ (unhide HCQ) (.cells #[.string x.name, .slice A4 m4 c8] 47); clear hvb hcb hcc hm4
  go_wp2_with fail
  refine hK.out _ _ (fun _ => unhide HKK) ?_
  clear hK K
  try simp only [Act.put, List.setIfInBounds_toArray, List.set_cons_zero, List.set_cons_succ]
  refine AnyBut.take (i := 11) (v := ?_) rfl (by kernel_rfl) (by kernel_rfl) (by kernel_rfl) (by kernel_rfl) (fun _ _ _ h => h) (Or.inl ⟨by rfl, ?_⟩) (unhide HKK) ?_
  rotate_left
  · intro W' hS'; (try dsimp only at hS'); go_simp; try with_reducible rfl
  try simp only [Act.put, List.setIfInBounds_toArray]
  have HKA := hide (unhide KSW _ ((unhide HCQ).alloc (.cells #[.string x.name, .slice A4 m4 c8] 47)))
  refine AnyBut.step (i := 12) (by kernel_rfl) rfl (fun K hK => ?_)
  go_simp
  refine hK.out _ _ (fun _ => unhide HKA) ?_
  clear hK K
  try simp only [Act.put, List.setIfInBounds_toArray, List.set_cons_zero, List.set_cons_succ]
  refine AnyBut.step (i := 13) (by kernel_rfl) rfl (fun K hK => ?_)
  refine step_append_rd _ rfl (.tmp 16) (.tmp 28) 27 rfl base 47 i_ _ 2 40 Tryz.underlying27 hii hz hs hb rfl (Nat.succ_pos 1) _ n _ rfl (ho4.alloc _) (fun _ => True) (some ⟨wb.heap.size, 0, none⟩) 1 1 [.string x.name, .slice A4 m4 c8] rfl rfl ((unhide HRN) wb _) (ho1 A4 m4 c8) hm1 hm2 hb4 ?_; intro v5 w5 ho5 hc5 hat; obtain ⟨OB5, oc5, rfl⟩ := own_val ho5; have hblk := ((unhide HGC _ (unhide HCQ)).alloc (.cells #[.string x.name, .slice A4 m4 c8] 47)).chg hc5 (unhide HGO); have fz := hblk.frozen 0; have gz := hblk.cell 0; simp only [List.getElem?_toArray, List.getElem?_cons_zero] at gz; have HBLK := hide hblk; clear hblk; have HO5 := hide ho5; have HC5 := hide hc5; have HAT := hide hat; clear ho5 hc5 hat
  refine hK.out _ _ (fun _ => unhide KS5 _ _ _ (unhide HCQ) (unhide HC5)) ?_
  clear hK K
  try simp only [Act.put, List.setIfInBounds_toArray]
  refine AnyBut.step (i := 14) (by kernel_rfl) rfl (fun K hK => ?_)
  go_simp
  refine hK.out _ _ (fun h => absurd rfl h) ?_
  clear hK K
  try simp only [Act.put, List.setIfInBounds_toArray, List.set_cons_zero, List.set_cons_succ]
  refine AnyBut.done (by kernel_rfl) ?_ _
  go_wp2_with fail
  go_ret
  have hcq := unhide HCQ
  have hc5 := unhide HC5
  have hat := unhide HAT
  have hlt := unhide HLT
  have hgo2 := unhide HGO
  have hz1 := hcq.size
  have hz5 := hc5.size
  rw [size_alloc] at hz1 hz5 hat
  have hglt := (unhide HG).lt
  have hown5 : ¬ (Value.slice OB5 (n + 1) oc5).ownBlock = some go := fun e => by
    rcases hat with h | h
    · exact hgo2 (h ▸ e)
    · rw [h] at e
      injection e with e
      omega
  have hcs : Chg (fun b => b = go) w5 (w5.setCell ⟨go, 0, none⟩ (.slice OB5 (n + 1) oc5)) := (Chg.refl (fun b => b = go) w5).setCell (p := ⟨go, 0, none⟩) (fun _ => rfl) _
  have hwa := (unhide HCA).size
  rw [size_alloc] at hwa
  refine ⟨rfl, _, _, ?_, unhide HCB, (unhide HBLK).set_ 0 _, own_chg (unhide HO5) hcs (fun k hk e => hown5 (e ▸ hk)), ?_, ?_⟩
  · refine (((((unhide HVB).low).chg ((Chg.refl (fun _ => False) wb).alloc _) (fun _ _ _ => id)).chg hc5 (fun b hb _ e => ?_)).chg hcs (fun b hb _ e => ?_)).mono (fun b hb => ⟨?_, ?_, fun e => ?_⟩)
    · have h1 := (hlt b e).2
      have h2 := hb.1
      omega
    · have h2 := hb.1
      omega
    · have h2 := hb.1
      omega
    · have h2 := hb.2
      rw [size_set]
      omega
    · rcases hat with h | h
      · have h1 := (hlt b (h ▸ e)).2
        have h2 := hb.1
        omega
      · rw [h] at e
        injection e with e
        have h2 := hb.2
        omega
  · rcases hat with h | h
    · exact .inl h
    · exact .inr ⟨_, by omega, h⟩
  · have z1 : Chg (fun b => b = go ∨ (Value.slice OB n oc).ownBlock = some b) w wb := ((unhide HC1).trans' hcq).mono (fun _ _ h => h.elim)
    exact ((z1.alloc _).trans hc5 (fun _ _ e => .inr e)).trans hcs (fun _ _ e => .inl e)
end Go.Proofs.YticnehmgaklhfaaGreatDoor
