/-
  Layer 10, the document's side: what a type takes, and what it comes to.
-/
import Derived.Test.YticnehmgaklhfaaGreatDoorRtc
import Derived.Test.YticnehmgaklhfaaGreatDoorRtd
namespace Go.Proofs.YticnehmgaklhfaaGreatDoor
open Go.RowKit
set_option maxHeartbeats 2000000
set_option maxRecDepth 100000
theorem partsG_count : ∀ (f : Nat) (t : List Nd), (partsG f t).1.length ≤ f
  | 0, t => by simp [partsG]
  | f + 1, t => by
    unfold partsG
    cases t with
    | nil => simp
    | cons n l =>
      dsimp only
      split
      · cases eat l 1 with
        | none => simp
        | some k =>
          dsimp only
          have := partsG_count f (l.drop k)
          rw [List.length_cons]
          omega
      · simp
theorem parts_count (t : List Nd) (h : t.length ≤ 4000) : (partsL t).1.length ≤ 4000 := by
  have := partsG_count t.length t
  unfold partsL
  omega
theorem refParts_any : ∀ (n : Nat) (l : List Nd) (v : Value) (T : Nat → Prop) (w : World), l.length ≤ n → RdN T w v l → capOk v → l.length ≤ 4000 → eat l 1 = some l.length → l.all nodeB = true →
    Calls Tryz.prog 18 #[v] w fun e w' => ∃ v1 v2, e = .returned (.tuple #[v1, v2]) ∧ RdNs (fun k => w.heap.size ≤ k) w' v1 (partsL l).1 ∧ RdN (fun k => T k ∨ w.heap.size ≤ k) w' v2 (partsL l).2 ∧ Chg (fun _ => False) w w' := by
  intro n
  induction n with
  | zero =>
    intro l v T w hn _ _ _ he _
    obtain rfl : l = [] := List.eq_nil_of_length_eq_zero (by omega)
    simp [eat] at he
  | succ n ih =>
    intro l v T w hn hr hcap hl he hall
    obtain ⟨x, m, hxm⟩ : ∃ x m, l = x :: m := by
      cases l with
      | nil => simp [eat] at he
      | cons x m => exact ⟨x, m, rfl⟩
    have hx : l[0]? = some x := by rw [hxm]; rfl
    have hxb : nodeB x = true := List.all_eq_true.1 hall x (by rw [hxm]; exact List.mem_cons_self)
    obtain ⟨b, o, c, rfl, _, _, _, c1, _, _⟩ := hr.at_ hx
    rw [Nat.zero_mul, Nat.add_zero] at c1
    have hlm : l.length = m.length + 1 := by rw [hxm]; rfl
    have hlp : (0 : Int) < (l.length : Int) := by omega
    have hln : 0 < l.length := by omega
    have hne : ¬ l = [] := by rw [hxm]; simp
    have htx := text_eq x.text [45, 62]
    by_cases ht : x.text = ArrowT
    rotate_left
    · rw [decide_eq_false (show ¬ x.text = ⟨[45, 62].toArray⟩ from ht)] at htx
      have htx2 := htx.symm
      have hp : partsL l = ([], l) := by rw [hxm]; exact parts_end ht
      have HR := hide hr
      have HP := hide hp
      clear hr hcap ih he hall hx hxb htx ht hp hxm hlm
      go_enter Tryz.func18, Tryz.ntmps18
      go_wp2_with fail
      go_ret2
      rw [unhide HP]
      exact ⟨_, _, rfl, RdR.nil_ _ _ _ _, (unhide HR).mono (fun _ h => .inl h), Chg.refl _ _⟩
    rw [decide_eq_true (show x.text = ⟨[45, 62].toArray⟩ from ht)] at htx
    have htx2 := htx.symm
    obtain ⟨_, _, hk2⟩ := node_arrow hxb ht
    obtain ⟨a, ha, ha0, hal, hwt, hea⟩ := arrow_split (n := x) (l := m) (by rw [← hxm, ← hlm]; exact he) hk2
    have hd1 : l.drop 1 = m := by rw [hxm]; rfl
    have hek : eat (l.drop (0 + 1)) x.kids.toNat = some m.length := by
      rw [hk2, show l.drop (0 + 1) = m from hd1]
      have := (whole_kids (n := x) (l := m) (by rw [← hxm, ← hlm]; exact he)).2
      rw [hk2] at this
      exact this
    have hpp : partsL l = (m.take a :: (partsL (m.drop a)).1, (partsL (m.drop a)).2) := by rw [hxm]; exact parts_arrow_step ht ha
    obtain ⟨s, hs⟩ : ∃ s, s = 1 + a := ⟨_, rfl⟩
    have hds : l.drop s = m.drop a := by rw [hs, hxm, Nat.add_comm, List.drop_succ_cons]
    have hmd : (m.drop a).length = m.length - a := List.length_drop
    have HKI := hide (show Calls Tryz.prog 50 #[.slice (some ⟨b, o, none⟩) l.length c, .int .i64 0] w fun e w' => ∃ kb ko cc, e = .returned (.slice (some ⟨kb, ko, none⟩) 2 cc) ∧ w'.cell? ⟨kb, ko, none⟩ = some (.int .i64 1) ∧ w'.cell? ⟨kb, ko + 1, none⟩ = some (.int .i64 (s : Int)) ∧ Chg (fun _ => False) w w' from
      (refKids_any l _ 0 T w hr hl x hx (by omega) m.length hek).mono fun e w' h => by
        obtain ⟨A, cc, h1, h2, h3⟩ := h
        rw [hk2, show (2 : Int).toNat = 2 from rfl, kids_two (by rw [hd1]; exact ha), ← hs] at h2
        obtain ⟨kb, ko, rfl, _, hc⟩ := h2.flat (by simp)
        exact ⟨kb, ko, cc, by rw [h1, hk2]; rfl, hc 0 _ rfl, hc 1 _ rfl, h3⟩)
    have HS1 := hide (fun W (hW : Chg (fun _ => False) w W) => show Calls Tryz.prog 51 #[.slice (some ⟨b, o, none⟩) l.length c, .int .i64 (s : Int)] W fun e w' => ∃ v', e = .returned v' ∧ RdN (fun k => W.heap.size ≤ k) w' v' (m.drop a) ∧ capOk v' ∧ Chg (fun _ => False) W w' from by
      have := refSub_any l _ s (m.drop a).length T W (hr.chg hW (fun _ _ _ => id)) hcap hl (by omega) (by rw [hds]; exact hea)
      rw [hds, List.take_length] at this
      exact this)
    have HS2 := hide (fun W (hW : Chg (fun _ => False) w W) => show Calls Tryz.prog 51 #[.slice (some ⟨b, o, none⟩) l.length c, .int .i64 1] W fun e w' => ∃ v', e = .returned v' ∧ RdN (fun k => W.heap.size ≤ k) w' v' (m.take a) ∧ capOk v' ∧ Chg (fun _ => False) W w' from by
      have := refSub_any l _ 1 a T W (hr.chg hW (fun _ _ _ => id)) hcap hl (by omega) (by rw [hd1]; exact ha)
      rw [hd1] at this
      exact this)
    have HIH := hide (fun W v' T' (h : RdN T' W v' (m.drop a)) (hc : capOk v') => ih (m.drop a) v' T' W (by omega) h hc (by omega) hea (by
      rw [List.all_eq_true]
      intro y hy
      exact List.all_eq_true.1 hall y (by rw [hxm]; exact List.mem_cons_of_mem _ (List.mem_of_mem_drop hy))))
    obtain ⟨mt, hmt⟩ : ∃ mt, mt = m.take a := ⟨_, rfl⟩
    rw [← hmt] at hpp HS2
    have HPP := hide hpp
    have HPL := hide (show (partsL (m.drop a)).1.length ≤ 4000 from parts_count (m.drop a) (by omega))
    have HX := hide (Chg.refl (fun _ => False) w)
    obtain ⟨i_, hi, hz, hsz, hb⟩ := info_parts infoRow
    clear hmt hr hcap ih he hall hx hxb htx ht hpp hxm hlm hds hmd hek hd1 hea hwt ha hk2 hs hal ha0
    go_enter Tryz.func18, Tryz.ntmps18
    go_upto_region 5 with (first
      | (go_at_call 50; (with_reducible refine (unhide HKI).mono ?_); rintro e w2 ⟨kb, ko, cc, rfl, q0, q1, hch⟩; (have HN_ := hide ((unhide HX).trans' hch)); clear HX; have HX := HN_; clear HN_; have HY := hide (Chg.refl (fun _ => False) w2); have HQ0 := hide (fun W (hW : Chg (fun _ => False) w2 W) => (hW.cell (World.block_lt_of_cell? w2 _ q0) id).trans q0); clear hch)
      | (go_at_call 51; (with_reducible refine (unhide HS1 _ (unhide HX)).mono ?_); rintro e w3 ⟨vs, rfl, hvs, hcp, hch⟩; have HZ2 := hide (unhide HX).size; (have HN_ := hide ((unhide HX).trans' hch)); clear HX; have HX := HN_; clear HN_; (have HN_ := hide ((unhide HY).trans' hch)); clear HY; have HY := HN_; clear HN_; have HVS := hide hvs; have HCP := hide hcp; clear hch hvs hcp)
      | (go_at_call 18; (with_reducible refine (unhide HIH _ _ _ (unhide HVS) (unhide HCP)).mono ?_); rintro e w4 ⟨va, vb, rfl, hva, hvb, hch⟩; have HZ3 := hide (unhide HX).size; (have HN_ := hide ((unhide HX).trans' hch)); clear HX; have HX := HN_; clear HN_; (have HN_ := hide ((unhide HY).trans' hch)); clear HY; have HY := HN_; clear HN_; have HVA := hide hva; have HVB := hide hvb; clear q0 q1 hch hva hvb; have q0 := unhide HQ0 _ (unhide HY)))
    clear HKI HS1 HIH
    generalize partsL (m.drop a) = PR at *
    obtain ⟨P1, P2⟩ := PR
    dsimp only at HPP HPL HVA HVB
    obtain ⟨A1, cA, ps, rfl, hps, hrd, hR, hl1⟩ := unhide HVA
    have hpl := unhide HPL
    have hlen : (ps.map Prod.snd).length = P1.length * 1 := by rw [List.length_map, ← hps, List.length_map, Nat.mul_one]
    have hone : ∀ y ∈ ps.map Prod.snd, y.oneCell' = true := fun y hy => by
      obtain ⟨p, hp, rfl⟩ := List.mem_map.1 hy
      obtain ⟨A', c', hv'⟩ := (hR p hp).val
      rw [hv']
      rfl
    rw [flat_sing Prod.snd] at hrd
    have hm1 : 1 + P1.length ≤ maxLen := by simp only [maxLen]; omega
    have hm2 : (1 + P1.length) * 24 ≤ 140737488355328 := by omega
    have HRD := hide (fun W (hW : Chg (fun _ => False) w4 W) => hrd.chg hW (fun _ _ _ => id))
    have HRP := hide (fun W (hW : Chg (fun _ => False) w4 W) p (hp : p ∈ ps) => (hR p hp).chg hW (fun _ _ _ => id))
    have HVB2 := hide (fun W (hW : Chg (fun _ => False) w4 W) => (unhide HVB).chg hW (fun _ _ _ => id))
    have HPS := hide hps
    have HLEN := hide hlen
    have HONE := hide hone
    have HW4 := hide (unhide HX)
    clear HVA HVB hps hrd hR hl1 hlen hone HY HQ0 hpl
    go_wp2_with (first
      | (go_at_call 51; (with_reducible refine (unhide HS2 _ (unhide HX)).mono ?_; rintro e w5 ⟨vx, rfl, hvx, hcpx, hch⟩); (obtain ⟨Ax, cx, rfl⟩ := hvx.val); (have HZ4 := hide (unhide HX).size; (have HN_ := hide ((unhide HX).trans' hch)); clear HX; have HX := HN_; clear HN_; have HVX := hide hvx; have HCH := hide hch; have HOW := hide (own_one (base := w.heap.size) (n := 1) (Blk.new w5 33 #[.slice Ax mt.length cx]) (unhide HX).size rfl); have hrx := unhide HRD _ ((hch).alloc (.cells #[.slice Ax mt.length cx] 33)); have hbs := ((unhide HX).alloc (.cells #[.slice Ax mt.length cx] 33)).size; clear hch hvx hcpx))
      | (at_builtin
         (refine wpList_append_rd _ rfl (.tmp 29) (.tmp 30) 32 rfl w.heap.size 33 i_ _ 1 24 Tryz.underlying32 hi hz hsz hb rfl (by decide) (.slice (some ⟨w5.heap.size, 0, none⟩) 1 1) 1 [.slice Ax mt.length cx] rfl (unhide HOW) _ A1 P1.length cA (ps.map Prod.snd) rfl (unhide HLEN) hrx (unhide HONE) hm1 hm2 hbs ?_)
         intro v6 w6 ho6 hc6 hat
         have HO6 := hide ho6
         have HC6 := hide (((unhide HX).alloc (.cells #[.slice Ax mt.length cx] 33)).trans hc6 (fun i hi e => by have := ((unhide HOW).lt i e).1; omega))
         have HC46 := hide (((unhide HCH).alloc (.cells #[.slice Ax mt.length cx] 33)).trans (S' := fun _ => False) (Chg.refl _ _) (fun _ _ h => h))
         have HCW := hide hc6
         clear ho6 hc6 hat))
    go_ret2
    have hO := unhide HO6
    have hz2 := unhide HZ2
    have hz3 := unhide HZ3
    have hz4 := unhide HZ4
    have h46 : Chg (fun _ => False) w4 w6 := (unhide HC46).trans (unhide HCW) (fun i hi e => by
      simp only [Value.ownBlock, Option.some.injEq] at e
      have := (unhide HCH).size
      omega)
    obtain ⟨A6, c6, rfl⟩ := own_val hO
    rw [unhide HPP]
    have hps := unhide HPS
    have e6 : [Value.slice Ax mt.length cx] ++ ps.map Prod.snd = ((mt, Value.slice Ax mt.length cx) :: ps).map Prod.snd := rfl
    have e7 : mt :: P1 = ((mt, Value.slice Ax mt.length cx) :: ps).map Prod.fst := by rw [← hps]; rfl
    have hpsl : ps.length = P1.length := by rw [← hps, List.length_map]
    have h56 : Chg (fun _ => False) w5 w6 := ((Chg.refl (fun _ => False) w5).alloc _).trans (unhide HCW) (fun i hi e => by
      simp only [Value.ownBlock, Option.some.injEq] at e
      omega)
    refine ⟨.slice A6 (1 + P1.length) c6, vb, rfl, ?_, (unhide HVB2 _ h46).mono (fun k hk => .inr (by rcases hk with hk | hk <;> omega)), unhide HC6⟩
    rw [e6] at hO
    have h8 := rows_mk (T := fun k => w.heap.size ≤ k) (A := A6) (c := c6) ((own_rd hO (by omega)).mono (fun k hk => (hO.lt k hk).1)) (fun p hp => by
      rcases List.mem_cons.1 hp with rfl | hp
      · exact ((unhide HVX).chg h56 (fun _ _ _ => id)).mono (fun k hk => Nat.le_trans hz4 hk)
      · exact (unhide HRP _ h46 p hp).mono (fun k hk => Nat.le_trans hz3 hk)) (by rw [List.length_cons, hpsl]; have := unhide HPL; omega)
    rw [List.length_cons, hpsl, Nat.add_comm] at h8
    rw [e7]
    exact h8
end Go.Proofs.YticnehmgaklhfaaGreatDoor
