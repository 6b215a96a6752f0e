/-
  Layer 2, the document's side: making a tree, a node's tree, where kids begin.
-/
import Derived.Test.YticnehmgaklhfaaGreatDoorRta
import Derived.Test.YticnehmgaklhfaaGreatDoorDtl
namespace Go.Proofs.YticnehmgaklhfaaGreatDoor
open Go.RowKit
set_option maxHeartbeats 2000000
set_option maxRecDepth 100000
def mkL (n : Nd) (ks : List (List Nd)) (k : Nat) : List Nd := n :: (ks.take k).flatten
theorem mkL_succ {n : Nd} {ks : List (List Nd)} {k : Nat} {x : List Nd} (h : ks[k]? = some x) : mkL n ks (k + 1) = mkL n ks k ++ x := by
  obtain ⟨hk, rfl⟩ := List.getElem?_eq_some_iff.1 h
  unfold mkL
  rw [List.take_succ_eq_append_getElem hk, List.flatten_append]
  simp
theorem flatten_len {M : Nat} : ∀ {ks : List (List Nd)}, (∀ a ∈ ks, a.length ≤ M) → ks.flatten.length ≤ ks.length * M
  | [], _ => by simp
  | a :: ks, h => by
    have h1 := flatten_len (ks := ks) (fun x hx => h x (List.mem_cons_of_mem _ hx))
    have h2 := h a List.mem_cons_self
    rw [List.flatten_cons, List.length_append, List.length_cons, Nat.succ_mul]
    omega
theorem nd_one (n : Nd) : ∀ u ∈ nd4 n, u.oneCell' = true := by
  intro u hu
  simp only [nd4, List.mem_cons, List.not_mem_nil, or_false] at hu
  rcases hu with rfl | rfl | rfl | rfl <;> rfl
theorem make_any (n : Nd) (ks : List (List Nd)) (v : Value) (T : Nat → Prop) (w : World) (hr : RdNs T w v ks) (hn : ks.length ≤ 100) (hks : ∀ a ∈ ks, a.length ≤ 5000) (hno : ndOk n) :
    Calls Tryz.prog 44 #[.agg #[.int .i64 n.kind, .string n.text, .int .i64 n.num, .int .i64 n.kids], v] w fun e w' => ∃ v', e = .returned v' ∧ RdN (fun k => w.heap.size ≤ k) w' v' (⟨n.kind, n.text, n.num, (ks.length : Int)⟩ :: ks.flatten) ∧ capOk v' ∧ Chg (fun _ => False) w w' := by
  have hok : ∀ x ∈ ks.flatten, ndOk x := fun x hx => by
    obtain ⟨a, ha, hxa⟩ := List.mem_flatten.1 hx
    obtain ⟨k, hk⟩ := List.mem_iff_getElem?.1 ha
    obtain ⟨_, _, _, _, _, _, h, _⟩ := hr.at_ hk
    exact h.oks x hxa
  obtain ⟨i_, hi, hz, hs, hb⟩ := info_parts infoNd
  obtain ⟨A1, c1, rfl⟩ := hr.val
  have H1 := hide hr
  have HAN := hide hks
  have HOK := hide hok
  have b0 := Blk.new w 56 #[.int .i64 n.kind, .string n.text, .int .i64 n.num, .int .i64 n.kids]
  have y0 := b0.cell 0
  have y1 := b0.cell 1
  have y2 := b0.cell 2
  simp only [List.getElem?_toArray, List.getElem?_cons_zero, List.getElem?_cons_succ] at y0 y1 y2
  obtain ⟨m, hm⟩ : ∃ m : Nd, m = ⟨n.kind, n.text, n.num, (ks.length : Int)⟩ := ⟨_, rfl⟩
  have hcell : nd4 m = [.int .i64 n.kind, .string n.text, .int .i64 n.num, .int .i64 (ks.length : Int)] := by rw [hm]; rfl
  have hmo : ndOk m := by rw [hm]; exact hno
  have c2 : Chg (fun _ => False) w ((w.alloc (.cells #[.int .i64 n.kind, .string n.text, .int .i64 n.num, .int .i64 n.kids] 56)).alloc (.cells #[.int .i64 n.kind, .string n.text, .int .i64 n.num, .int .i64 (ks.length : Int)] 56)) := ((Chg.refl _ w).alloc _).alloc _
  have o2 := own_one (base := w.heap.size) (n := 4) (Blk.new_at (w.alloc (.cells #[.int .i64 n.kind, .string n.text, .int .i64 n.num, .int .i64 n.kids] 56)) (w.heap.size + 1) 56 (nd4 m).toArray (by simp)) (Nat.le_succ _) rfl
  rw [hcell] at o2
  have HC2 := hide c2
  have HO2 := hide o2
  have HMO := hide hmo
  have HCE := hide hcell
  clear hr hks hok b0 c2 o2 hmo hcell hno
  go_enter Tryz.func44, Tryz.ntmps44
  go_upto_region 3 with fail
  clear y0 y1 y2
  go_loopw [5, 6] (fun out i wr => ∃ k : Nat, i = .int .i64 (k : Int) ∧ k ≤ ks.length ∧ wr.ownsRow w.heap.size 56 4 out (mkL m ks k).length ((mkL m ks k).flatMap nd4) ∧ Chg (fun _ => False) w wr) (fun _ i _ => ks.length - (intOf i).toNat)
  case atStart =>
    refine ⟨0, rfl, Nat.zero_le _, ?_, unhide HC2⟩
    have e : (mkL m ks 0).flatMap nd4 = [.int .i64 n.kind, .string n.text, .int .i64 n.num, .int .i64 (ks.length : Int)] := by
      rw [← unhide HCE]
      simp [mkL]
    have e2 : (mkL m ks 0).length = 1 := by simp [mkL]
    rw [e, e2]
    exact unhide HO2
  case round =>
    clear HC2 HO2
    obtain ⟨wq, rfl⟩ : ∃ wq : World, wq = wr := ⟨_, rfl⟩
    obtain ⟨k, rfl, hk, hown, hch⟩ := hrel
    have hpl : (mkL m ks k).length ≤ 1 + 100 * 5000 := by
      have := flatten_len (M := 5000) (ks := ks.take k) (fun a ha => (unhide HAN) a (List.mem_of_mem_take ha))
      unfold mkL
      rw [List.length_cons]
      have h2 : (ks.take k).length * 5000 ≤ 100 * 5000 := Nat.mul_le_mul_right _ (by rw [List.length_take]; omega)
      omega
    obtain ⟨B, c5, rfl⟩ := own_val hown
    by_cases hlt : k < ks.length
    · have hki : (k : Int) < (ks.length : Int) := by omega
      have hx : ks[k]? = some ks[k] := List.getElem?_eq_getElem hlt
      have hxn := (unhide HAN) ks[k] (List.getElem_mem hlt)
      generalize ks[k] = x at *
      have hsn := mkL_succ (n := m) hx
      obtain ⟨b, o, c3, u, hv, _, hru, c0⟩ := (unhide H1).at_ hx
      injection hv with hv1 hv2 hv3
      subst hv1 hv3
      have c0q := (hch.cell (World.block_lt_of_cell? w _ c0) id).trans c0
      obtain ⟨X, cx, rfl⟩ := hru.val
      have hrx := (hru.chg hch (fun _ _ _ => id)).rd.2
      generalize mkL m ks k = V at *
      have HOWN := hide hown
      have HCH := hide hch
      have HSN := hide hsn
      have hx1 := nd4_one x
      have hxl := nd4_len x
      have hm3 : V.length + x.length ≤ maxLen := by simp only [maxLen]; omega
      have hm4 : (V.length + x.length) * 40 ≤ 140737488355328 := by omega
      have hbs : w.heap.size ≤ wq.heap.size := hch.size
      clear hown hch hsn hx hru c0 hv2
      go_wp2_with (at_builtin
                   refine wpList_append_rd _ rfl (.tmp 23) (.tmp 27) 33 rfl w.heap.size 56 i_ _ 4 40 Tryz.underlying33 hi hz hs hb rfl (by decide) _ V.length _ rfl (unhide HOWN) T X x.length cx (x.flatMap nd4) rfl hxl hrx hx1 hm3 hm4 hbs ?_
                   intro v6 w6 ho6 hc6 hat
                   have HO6 := hide ho6
                   have HC6 := hide ((unhide HCH).trans hc6 (fun i hi e => by have := ((unhide HOWN).lt i e).1; omega))
                   clear ho6 hc6 hat)
      go_roundw
      case rel =>
        refine ⟨k + 1, by go_num, by omega, ?_, unhide HC6⟩
        rw [unhide HSN, flat_app, List.length_append]
        exact unhide HO6
      case measure => simp [intOf]; omega
    · obtain rfl : k = ks.length := by omega
      have hki : ¬ (ks.length : Int) < (ks.length : Int) := by omega
      have HOWN := hide hown
      have HCH := hide hch
      clear hown hch
      go_wp2_with fail
      go_ret
      have hO := unhide HOWN
      have hcp := own_cap hO
      have e : mkL m ks ks.length = m :: ks.flatten := by unfold mkL; rw [List.take_length]
      rw [e] at hO hpl
      rw [hm] at hO
      refine ⟨.slice B (mkL m ks ks.length).length c5, rfl, ?_, hcp, unhide HCH⟩
      have h7 := RdN.mk (c := c5) ((own_rd hO (by omega)).mono (fun k hk => (hO.lt k hk).1)) (fun x hx => by
        rcases List.mem_cons.1 hx with rfl | hx
        · rw [← hm]; exact unhide HMO
        · exact unhide HOK x hx) (by rw [List.length_cons] at hpl ⊢; omega)
      rw [e, hm]
      exact h7
theorem refSub_any (l : List Nd) (v : Value) (p n : Nat) (T : Nat → Prop) (w : World) (hr : RdN T w v l) (hcap : capOk v) (hl : l.length ≤ 4000) (hp : p ≤ l.length) (hn : eat (l.drop p) 1 = some n) :
    Calls Tryz.prog 51 #[v, .int .i64 (p : Int)] w fun e w' => ∃ v', e = .returned v' ∧ RdN (fun k => w.heap.size ≤ k) w' v' ((l.drop p).take n) ∧ capOk v' ∧ Chg (fun _ => False) w w' := by
  have hnl := eat_le hn
  rw [List.length_drop] at hnl
  obtain ⟨A, m, c, rfl, hcc, hcm⟩ := hcap
  obtain rfl := hr.rd.1
  have c0 : Chg (fun _ => False) w (w.alloc (.cells #[] 56)) := (Chg.refl _ w).alloc _
  have HE := hide (refEnd_any l hl l.length p _ T _ (by omega) hp (hr.chg c0 (fun _ _ _ => id)))
  rw [endV_some hn] at HE
  obtain ⟨i_, hi, hz, hs, hb⟩ := info_parts infoNd
  have hlen : ((l.drop p).take n).length = n := by rw [List.length_take, List.length_drop]; omega
  obtain ⟨q, hq⟩ : ∃ q, q = p + n := ⟨_, rfl⟩
  rw [← hq] at HE
  have hx1 := nd4_one ((l.drop p).take n)
  have hxl := nd4_len ((l.drop p).take n)
  rw [hlen] at hxl
  have hok : ∀ x ∈ (l.drop p).take n, ndOk x := fun x hx => hr.oks x (List.mem_of_mem_drop (List.mem_of_mem_take hx))
  have HO0 := hide (own_start (base := w.heap.size) (size := 4) (Blk.new w 56 #[]) (Nat.le_refl _))
  have HC0 := hide c0
  have h1 : (p : Int) ≤ (q : Int) := by omega
  have h2 : (q : Int) ≤ (c : Int) := by omega
  have h3 : p ≤ q := by omega
  have h4 : q ≤ c := by omega
  have hqn : q - p = n := by omega
  have hm3 : 0 + n ≤ maxLen := by simp only [maxLen]; omega
  have hm4 : (0 + n) * 40 ≤ 140737488355328 := by omega
  have HR := hide hr
  obtain ⟨b, o, rfl⟩ : ∃ b o, A = some ⟨b, o, none⟩ := by
    have hne : l ≠ [] := by
      rintro rfl
      simp [eat] at hn
    obtain ⟨x, l', hxl'⟩ := List.exists_cons_of_ne_nil hne
    obtain ⟨b, o, c', hv, _⟩ := hr.at_ (k := 0) (n := x) (by rw [hxl']; rfl)
    injection hv with hv _ _
    exact ⟨b, o, hv⟩
  have HSUB := hide (fun W (hW : Chg (fun _ => False) w W) => ((hr.chg hW (fun _ _ _ => id)).sub (c' := c - p) p n (by omega)).rd.2)
  clear hr c0 hn HR hq
  go_enter Tryz.func51, Tryz.ntmps51
  go_wp2_with (first
    | (go_at_call 69; with_reducible refine (unhide HE).mono ?_; rintro e w2 ⟨rfl, hc2⟩; have HO2 := hide (own_chg (unhide HO0) hc2 (fun _ _ h => h)); have HC2 := hide ((unhide HC0).trans' hc2); have hbs := (unhide HC2).size; have hrx := unhide HSUB _ (unhide HC2); clear hc2)
    | (at_builtin
       refine wpList_append_rd _ rfl (.tmp 5) (.tmp 11) 33 rfl w.heap.size 56 i_ _ 4 40 Tryz.underlying33 hi hz hs hb rfl (by decide) _ 0 [] rfl (unhide HO2) T (some ⟨b, o + p * 4, none⟩) n (c - p) (((l.drop p).take n).flatMap nd4) rfl hxl hrx hx1 hm3 hm4 hbs ?_
       intro v6 w6 ho6 hc6 hat
       have HO6 := hide ho6
       have HC6 := hide ((unhide HC2).trans hc6 (fun i hi e => by have := ((unhide HO2).lt i e).1; omega))
       clear ho6 hc6 hat))
  go_ret
  have hO := unhide HO6
  rw [Nat.zero_add, List.nil_append] at hO
  have hcp := own_cap hO
  obtain ⟨B6, c6, hv6⟩ := own_val hO
  refine ⟨_, rfl, ?_, hcp, unhide HC6⟩
  have h7 := RdN.mk (c := c6) ((own_rd (hv6 ▸ hO) (by omega)).mono (fun k hk => (hO.lt k (by rw [hv6]; exact hk)).1)) hok (by omega)
  rw [hlen] at h7
  rw [hv6]
  exact h7
end Go.Proofs.YticnehmgaklhfaaGreatDoor
