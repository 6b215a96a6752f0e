/-
  Layer 10, the document's side: what constructors are, as names.
-/
import Derived.Test.YticnehmgaklhfaaGreatDoorRtk
import Derived.Test.YticnehmgaklhfaaGreatDoorRtd
namespace Go.Proofs.YticnehmgaklhfaaGreatDoor
open Go.RowKit
set_option maxHeartbeats 4000000
set_option maxRecDepth 100000
theorem sigsTo_zero (l : List Dt) : sigsTo l 0 0 = [] := by
  unfold sigsTo sigsL
  cases l[0]? <;> simp
theorem refSigs_any (l : List Dt) (v : Value) (T : Nat → Prop) (w : World) (hr : RdDq T w v l) (hl : BL l) (h60 : l.length ≤ 60) (hp : ∀ d ∈ l, dtB d = true) :
    Calls Tryz.prog 11 #[v] w fun e w' => ∃ v', e = .returned v' ∧ RdS (fun k => w.heap.size ≤ k) w' v' (sigsL l) ∧ Chg (fun _ => False) w w' := by
  obtain ⟨A, c, rfl⟩ := hr.rd.val
  obtain ⟨is, his, hzs, hss, hbs⟩ := info_parts infoSg
  obtain ⟨ir, hir, hzr, hsr, hbr⟩ := info_parts infoRow
  have HR := hide hr
  have HL := hide hl
  have HP := hide hp
  have HI0 := hide (show RsInv l w 0 0 (.slice (some ⟨w.heap.size, 0, none⟩) 0 0) (w.alloc (.cells #[] 47)) from ⟨(Chg.refl _ w).alloc _, [], (sigsTo_zero l).symm, own_start (Blk.new w 47 #[]) (Nat.le_refl _), (fun p hp => by cases hp), Nat.zero_le _⟩)
  clear hr hl hp
  go_enter Tryz.func11, Tryz.ntmps11
  go_wp2_with fail
  go_loopw [3, 4] (fun out i wr => ∃ k : Nat, i = .int .i64 (k : Int) ∧ k ≤ l.length ∧ RsInv l w k 0 out wr) (fun _ i _ => l.length - (intOf i).toNat)
  case atStart => exact ⟨0, rfl, Nat.zero_le _, unhide HI0⟩
  case round =>
    clear HI0
    obtain ⟨wq, rfl⟩ : ∃ wq : World, wq = wr := ⟨_, rfl⟩
    obtain ⟨i, rfl, hi, hinv⟩ := hrel
    by_cases hlt : i < l.length
    · have hki : (i : Int) < (l.length : Int) := by omega
      have hx : l[i]? = some l[i] := List.getElem?_eq_getElem hlt
      generalize l[i] = d at *
      have hdm := List.mem_of_getElem? hx
      obtain ⟨_, hp0, hp8, _, hc60, hcs⟩ := dt_ok ((unhide HP) d hdm)
      obtain ⟨p, hpp⟩ : ∃ p : Nat, d.params = (p : Int) := ⟨d.params.toNat, by omega⟩
      have hp9 : p ≤ 8 := by omega
      obtain ⟨b, o, c2, u, hv, _, hru, hns, c0, c1, c3⟩ := (unhide HR).at_ hx
      injection hv with hv1 hv2 hv3
      subst hv1 hv3
      obtain ⟨B, c5, rfl⟩ := hru.rd.val
      rw [hpp] at c1
      have hcw := hinv.1
      have HD := hide (fun W (hW : Chg (fun _ => False) w W) => show W.cell? ⟨b, o + i * 3, none⟩ = some (.string d.name) ∧ W.cell? ⟨b, o + i * 3 + 1, none⟩ = some (.int .i64 (p : Int)) ∧ W.cell? ⟨b, o + i * 3 + 2, none⟩ = some (.slice B d.cons.length c5) from
        ⟨(hW.cell (World.block_lt_of_cell? w _ c0) id).trans c0, (hW.cell (World.block_lt_of_cell? w _ c1) id).trans c1, (hW.cell (World.block_lt_of_cell? w _ c3) id).trans c3⟩)
      have HRU := hide hru
      have HX := hide hx
      have HIV := hide hinv
      have HCW := hide hcw
      have HV0 := hide (show VInv wq (wq.alloc (.cells #[] 33)) wq.heap.size 0 (.slice (some ⟨wq.heap.size, 0, none⟩) 0 0) from ⟨(Chg.refl _ wq).alloc _, by rw [size_alloc]; omega, [], rfl, own_start (Blk.new wq 33 #[]) (Nat.le_refl _), (fun p hp => by cases hp)⟩)
      have hof := varsK_of d p hpp
      have HOF := hide hof
      clear hx hinv hru hv2 c0 c1 c3 hcw hof hp0 hp8 hpp
      go_wp2_with fail
      go_loopw [5, 6] (fun vs t wr => ∃ j : Nat, t = .int .i64 (j : Int) ∧ j ≤ p ∧ VInv wq wr wq.heap.size j vs) (fun _ t _ => p - (intOf t).toNat)
      case atStart => exact ⟨0, rfl, Nat.zero_le _, unhide HV0⟩
      case round =>
        clear HV0
        obtain ⟨wy, rfl⟩ : ∃ wy : World, wy = wr := ⟨_, rfl⟩
        obtain ⟨j, rfl, hj, hcv, hbv, ps, h1, h2, h3⟩ := hrel
        obtain ⟨d0, d1, d2⟩ := unhide HD _ ((unhide HCW).trans' hcv)
        have hpl : ps.length = j := by rw [← varsK_len j, ← h1, List.length_map]
        obtain ⟨VB, vc, rfl⟩ := own_val h2
        by_cases hlj : j < p
        · have hjj : (j : Int) < (p : Int) := by omega
          have HOW := hide ((h2.alloc (.cells #[.int .i64 31, .string ⟨#[]⟩, .int .i64 (j : Int), .int .i64 0] 56)).alloc (.cells #[.slice (some ⟨wy.heap.size, 0, none⟩) 1 1] 33))
          have HST := hide (fun W3 v3 O => VInv.step (W3 := W3) (v3 := v3) (O := O) hcv hbv (Nat.le_refl _) h1 h2 h3)
          have HRN := hide ((rd_new (wy.alloc (.cells #[.int .i64 31, .string ⟨#[]⟩, .int .i64 (j : Int), .int .i64 0] 56)) (wy.heap.size + 1) 33 [.slice (some ⟨wy.heap.size, 0, none⟩) 1 1] (size_alloc _ _).symm).mono (T' := fun _ => True) (fun _ _ => trivial))
          have ho1 : ∀ u ∈ [Value.slice (some ⟨wy.heap.size, 0, none⟩) 1 1], u.oneCell' = true := by intro u hu; simp at hu; subst hu; rfl
          have hm1 : ps.length + 1 ≤ maxLen := by simp only [maxLen]; omega
          have hm2 : (ps.length + 1) * 24 ≤ 140737488355328 := by omega
          have hb4 : wq.heap.size ≤ ((wy.alloc (.cells #[.int .i64 31, .string ⟨#[]⟩, .int .i64 (j : Int), .int .i64 0] 56)).alloc (.cells #[.slice (some ⟨wy.heap.size, 0, none⟩) 1 1] 33)).heap.size := by rw [size_alloc, size_alloc]; omega
          have HST2 := hide (show ∀ (v5 : Value) (w5 : World), w5.ownsRow wq.heap.size 33 1 v5 (ps.length + 1) (ps.map Prod.snd ++ [.slice (some ⟨wy.heap.size, 0, none⟩) 1 1]) → Chg (fun k => (Value.slice VB ps.length vc).ownBlock = some k) ((wy.alloc (.cells #[.int .i64 31, .string ⟨#[]⟩, .int .i64 (j : Int), .int .i64 0] 56)).alloc (.cells #[.slice (some ⟨wy.heap.size, 0, none⟩) 1 1] 33)) w5 → (v5.ownBlock = (Value.slice VB ps.length vc).ownBlock ∨ v5.ownBlock = some ((wy.alloc (.cells #[.int .i64 31, .string ⟨#[]⟩, .int .i64 (j : Int), .int .i64 0] 56)).alloc (.cells #[.slice (some ⟨wy.heap.size, 0, none⟩) 1 1] 33)).heap.size) → VInv wq w5 wq.heap.size (j + 1) v5 from fun v5 w5 a1 a2 a3 => unhide HST w5 v5 _ a1 a2 a3)
          clear h1 h2 h3 hcv hpl HST
          go_wp2_with (first
            | (at_builtin
               refine wpList_append_rd _ rfl (.tmp 26) (.tmp 30) 32 rfl wq.heap.size 33 ir (.slice none 0 0) 1 24 Tryz.underlying32 hir hzr hsr hbr rfl (Nat.succ_pos 0) _ ps.length _ rfl (unhide HOW) (fun _ => True) (some ⟨wy.heap.size + 1, 0, none⟩) 1 1 [.slice (some ⟨wy.heap.size, 0, none⟩) 1 1] rfl rfl (unhide HRN) ho1 hm1 hm2 hb4 ?_
               intro v5 w5 ho5 hc5 hat
               have HV5 := hide (unhide HST2 v5 w5 ho5 hc5 hat)
               clear ho5 hc5 hat))
          go_roundw
          case rel => exact ⟨j + 1, by go_num, by omega, unhide HV5⟩
          case measure => simp [intOf]; omega
        · obtain rfl : j = p := by omega
          have hjj : ¬ (j : Int) < (j : Int) := by omega
          have hrows : RdNs (fun _ => True) wy (.slice VB ps.length vc) (varsK j) := by
            rw [← h1]
            exact rows_mk ((own_rd h2 (by omega)).mono (fun _ _ => trivial)) (fun q hq => (h3 q hq).mono (fun _ _ => trivial)) (by omega)
          have HCV := hide hcv
          have HM := hide (show Calls Tryz.prog 44 #[.agg #[.int .i64 32, .string d.name, .int .i64 0, .int .i64 0], .slice VB ps.length vc] wy fun e w' => ∃ v', e = .returned v' ∧ RdN (fun k => wy.heap.size ≤ k) w' v' (ofL d) ∧ Chg (fun _ => False) wy w' from
            (make_any ⟨32, d.name, 0, 0⟩ (varsK j) _ _ wy hrows (by rw [varsK_len]; omega) (fun a ha => by
              unfold varsK at ha
              obtain ⟨q, _, rfl⟩ := List.mem_map.1 ha
              show 1 ≤ 5000
              omega) hns).mono fun e W' ⟨v', h5, h6, _, h7⟩ => ⟨v', h5, (unhide HOF) ▸ h6, h7⟩)
          clear h1 h2 h3 hcv hrows hpl
          go_wp2_with (go_at_call 44; (with_reducible refine (unhide HM).mono ?_); rintro e w6 ⟨vt, rfl, hvt, hc6⟩; have HVT := hide hvt; have HC6 := hide ((unhide HCV).trans' hc6); clear hvt hc6)
          have HIV6 := hide ((unhide HIV).stay (unhide HC6))
          have HVT6 := hide (show RdN (fun b => w.heap.size ≤ b ∧ ¬ u3.ownBlock = some b) w6 vt (ofL d) from (unhide HVT).mono (fun b hb => by
            have z1 := (unhide HCW).size
            have z2 := (unhide HCV).size
            obtain ⟨_, ps, _, h4, _, _⟩ := unhide HIV
            exact ⟨by omega, fun e => by have := (h4.lt b e).2; omega⟩))
          clear HVT HIV HOF HM d0 d1 d2
          go_loopw [3, 8] (fun out t wr => ∃ k : Nat, t = .int .i64 (k : Int) ∧ k ≤ d.cons.length ∧ RsInv l w i k out wr ∧ RdN (fun b => w.heap.size ≤ b ∧ ¬ out.ownBlock = some b) wr vt (ofL d)) (fun _ t _ => d.cons.length - (intOf t).toNat)
          case atStart => exact ⟨0, rfl, Nat.zero_le _, unhide HIV6, unhide HVT6⟩
          case round =>
            clear HIV6 HVT6 HC6 HCV HCW
            obtain ⟨wz, rfl⟩ : ∃ wz : World, wz = wr := ⟨_, rfl⟩
            obtain ⟨k, rfl, hk, hinv, hvt⟩ := hrel
            obtain ⟨d0, d1, d2⟩ := unhide HD _ hinv.1
            by_cases hlk : k < d.cons.length
            · have hkk : (k : Int) < (d.cons.length : Int) := by omega
              have hy : d.cons[k]? = some d.cons[k] := List.getElem?_eq_getElem hlk
              generalize d.cons[k] = x at *
              have hxm := List.mem_of_getElem? hy
              obtain ⟨_, ha8, _⟩ := ct_ok (hcs x hxm)
              obtain ⟨_, hpa, hpb, _, _, _⟩ := dt_ok ((unhide HP) d hdm)
              have hbc := ((unhide HL).2 d hdm).2 x hxm
              have hol : (ofL d).length ≤ 100 := by rw [of_len]; omega
              obtain ⟨b2, o2, c6, u2, hv, _, hra, hxs, hcap, e0, e1⟩ := (unhide HRU).at_ hy
              injection hv with hv1 hv2 hv3
              subst hv1
              obtain ⟨B2, c7, rfl⟩ := hra.val
              obtain ⟨h1, ps, h2, h4, h5, h6⟩ := hinv
              obtain ⟨OB, oc, rfl⟩ := own_val h4
              have KSV := hide (fun W' (hW : Chg (fun _ => False) w W') => show W'.cell? ⟨b, o + i * 3 + 2, none⟩ = some (.slice (some ⟨b2, o2, none⟩) d.cons.length c5) ∧ W'.cell? ⟨b2, o2 + k * 2, none⟩ = some (.string x.name) ∧ W'.cell? ⟨b2, o2 + k * 2 + 1, none⟩ = some (.slice B2 x.args.length c7) from ⟨(unhide HD _ hW).2.2, (hW.cell (World.block_lt_of_cell? w _ e0) id).trans e0, (hW.cell (World.block_lt_of_cell? w _ e1) id).trans e1⟩)
              have HAR := hide (fun W (hW : Chg (fun _ => False) wz W) => refArrow_any x.args.length x.args (ofL d) _ vt _ _ W rfl (hra.chg (h1.trans' hW) (fun _ _ _ => id)) hcap (hvt.chg hW (fun _ _ _ => id)) (by omega) hbc.2 hol)
              have HOC := hide (fun W (hW : Chg (fun _ => False) wz W) => own_chg h4 hW (fun _ _ h => h))
              have HSTEP := hide (fun W4 W5 v5 u O => RsInv.step (W4 := W4) (W5 := W5) (v5 := v5) (u := u) (O := O) (unhide HX) hy hxs h1 h2 h4 h5 h6 hvt)
              have H1 := hide h1
              have HSZ := hide (fun W (hW : Chg (fun _ => False) wz W) (O : Obj) => show w.heap.size ≤ (W.alloc O).heap.size from by rw [size_alloc]; have := h1.size; have := hW.size; omega)
              have HRN := hide (fun (W : World) (u : Value) => (rd_new W W.heap.size 47 [.string x.name, u] rfl).mono (T' := fun _ => True) (fun _ _ => trivial))
              have ho1 : ∀ (A4 : Option Addr) (m4 c4 : Nat), ∀ u ∈ [Value.string x.name, Value.slice A4 m4 c4], u.oneCell' = true := by intro A4 m4 c4 u hu; simp at hu; rcases hu with rfl | rfl <;> rfl
              have hm1 : ps.length + 1 ≤ maxLen := by simp only [maxLen]; omega
              have hm2 : (ps.length + 1) * 40 ≤ 140737488355328 := by omega
              clear hra e0 e1 h1 h2 h4 h5 h6 hvt hy hxm hbc hol hpa hpb hcap hv2 hv3
              go_upto_region 14 with fail
              clear d0 d1 d2
              have HCQ : Hid (Chg (fun _ => False) wz wz.drew) := hide (Chg.drew (Chg.refl _ _))
              have HKK := hide (unhide KSV _ ((unhide H1).trans' (unhide HCQ)))
              refine wp_region_ab (fun W' => W'.cell? ⟨b, o + i * 3 + 2, none⟩ = some (.slice (some ⟨b2, o2, none⟩) d.cons.length c5) ∧ W'.cell? ⟨b2, o2 + k * 2, none⟩ = some (.string x.name) ∧ W'.cell? ⟨b2, o2 + k * 2 + 1, none⟩ = some (.slice B2 x.args.length c7)) 24 25 (by kernel_rfl) (by kernel_rfl) ?_
              refine AB.take (i := 0) (v := ?_) rfl (by kernel_rfl) (by kernel_rfl) (by kernel_rfl) (by kernel_rfl) (fun _ _ _ h => h) (Or.inl ⟨by kernel_rfl, ?_⟩) (unhide HKK) ?_
              rotate_left
              · intro W' hS'; (try dsimp only at hS'); go_simp; try with_reducible rfl
              try simp only [Act.put, List.setIfInBounds_toArray]
              refine AB.take (i := 1) (v := ?_) rfl (by kernel_rfl) (by kernel_rfl) (by kernel_rfl) (by kernel_rfl) (fun _ _ _ h => h) (Or.inl ⟨by kernel_rfl, ?_⟩) (unhide HKK) ?_
              rotate_left
              · intro W' hS'; (try dsimp only at hS'); go_simp; try with_reducible rfl
              try simp only [Act.put]
              refine AB.take (i := 2) (v := ?_) rfl (by kernel_rfl) (by kernel_rfl) (by kernel_rfl) (by kernel_rfl) (fun _ _ _ h => h) (Or.inl ⟨by kernel_rfl, ?_⟩) (unhide HKK) ?_
              rotate_left
              · intro W' hS'; (try dsimp only at hS'); go_simp; try with_reducible rfl
              try simp only [Act.put]
              refine AB.take (i := 3) (v := ?_) rfl (by kernel_rfl) (by kernel_rfl) (by kernel_rfl) (by kernel_rfl) (fun _ _ _ h => h) (Or.inl ⟨by kernel_rfl, ?_⟩) (unhide HKK) ?_
              rotate_left
              · intro W' hS'; (try dsimp only at hS'); go_simp; try with_reducible rfl
              try simp only [Act.put]
              refine AB.take (i := 4) (v := ?_) rfl (by kernel_rfl) (by kernel_rfl) (by kernel_rfl) (by kernel_rfl) (fun _ _ _ h => h) (Or.inl ⟨by kernel_rfl, ?_⟩) (unhide HKK) ?_
              rotate_left
              · intro W' hS'; (try dsimp only at hS'); go_simp; try with_reducible rfl
              try simp only [Act.put]
              refine AB.take (i := 5) (v := ?_) rfl (by kernel_rfl) (by kernel_rfl) (by kernel_rfl) (by kernel_rfl) (fun _ _ _ h => h) (Or.inl ⟨by kernel_rfl, ?_⟩) (unhide HKK) ?_
              rotate_left
              · intro W' hS'; (try dsimp only at hS'); go_simp; try with_reducible rfl
              try simp only [Act.put]
              refine AB.take (i := 6) (v := ?_) rfl (by kernel_rfl) (by kernel_rfl) (by kernel_rfl) (by kernel_rfl) (fun _ _ _ h => h) (Or.inl ⟨by kernel_rfl, ?_⟩) (unhide HKK) ?_
              rotate_left
              · intro W' hS'; (try dsimp only at hS'); go_simp; try with_reducible rfl
              try simp only [Act.put]
              refine AB.take (i := 7) (v := ?_) rfl (by kernel_rfl) (by kernel_rfl) (by kernel_rfl) (by kernel_rfl) (fun _ _ _ h => h) (Or.inl ⟨by kernel_rfl, ?_⟩) (unhide HKK) ?_
              rotate_left
              · intro W' hS'; (try dsimp only at hS'); go_simp; try with_reducible rfl
              try simp only [Act.put]
              refine AB.take (i := 8) (v := ?_) rfl (by kernel_rfl) (by kernel_rfl) (by kernel_rfl) (by kernel_rfl) (fun _ _ _ h => h) (Or.inl ⟨by kernel_rfl, ?_⟩) (unhide HKK) ?_
              rotate_left
              · intro W' hS'; (try dsimp only at hS'); go_simp; try with_reducible rfl
              try simp only [Act.put]
              refine AB.take (i := 9) (v := ?_) rfl (by kernel_rfl) (by kernel_rfl) (by kernel_rfl) (by kernel_rfl) (fun _ _ _ h => h) (Or.inl ⟨by kernel_rfl, ?_⟩) (unhide HKK) ?_
              rotate_left
              · intro W' hS'; (try dsimp only at hS'); go_simp; try with_reducible rfl
              try simp only [Act.put]
              refine AB.take (i := 10) (v := ?_) rfl (by kernel_rfl) (by kernel_rfl) (by kernel_rfl) (by kernel_rfl) (fun _ _ _ h => h) (Or.inl ⟨by kernel_rfl, ?_⟩) (unhide HKK) ?_
              rotate_left
              · intro W' hS'; (try dsimp only at hS'); go_simp; try with_reducible rfl
              try simp only [Act.put]
              refine AB.take (i := 11) (v := ?_) rfl (by kernel_rfl) (by kernel_rfl) (by kernel_rfl) (by kernel_rfl) (fun _ _ _ h => h) (Or.inl ⟨by kernel_rfl, ?_⟩) (unhide HKK) ?_
              rotate_left
              · intro W' hS'; (try dsimp only at hS'); go_simp; try with_reducible rfl
              try simp only [Act.put]
              refine AB.take (i := 12) (v := ?_) rfl (by kernel_rfl) (by kernel_rfl) (by kernel_rfl) (by kernel_rfl) (fun _ _ _ h => h) (Or.inl ⟨by kernel_rfl, ?_⟩) (unhide HKK) ?_
              rotate_left
              · intro W' hS'; (try dsimp only at hS'); go_simp; try with_reducible rfl
              try simp only [Act.put]
              refine AB.take (i := 13) (v := ?_) rfl (by kernel_rfl) (by kernel_rfl) (by kernel_rfl) (by kernel_rfl) (fun _ _ _ h => h) (Or.inl ⟨by kernel_rfl, ?_⟩) (unhide HKK) ?_
              rotate_left
              · intro W' hS'; (try dsimp only at hS'); go_simp; try with_reducible rfl
              try simp only [Act.put]
              refine AB.take (i := 14) (v := ?_) rfl (by kernel_rfl) (by kernel_rfl) (by kernel_rfl) (by kernel_rfl) (fun _ _ _ h => h) (Or.inl ⟨by kernel_rfl, ?_⟩) (unhide HKK) ?_
              rotate_left
              · intro W' hS'; (try dsimp only at hS'); go_simp; try with_reducible rfl
              try simp only [Act.put]
              refine AB.take (i := 15) (v := ?_) rfl (by kernel_rfl) (by kernel_rfl) (by kernel_rfl) (by kernel_rfl) (fun _ _ _ h => h) (Or.inl ⟨by kernel_rfl, ?_⟩) (unhide HKK) ?_
              rotate_left
              · intro W' hS'; (try dsimp only at hS'); go_simp; try with_reducible rfl
              try simp only [Act.put]
              refine AB.take (i := 16) (v := ?_) rfl (by kernel_rfl) (by kernel_rfl) (by kernel_rfl) (by kernel_rfl) (fun _ _ _ h => h) (Or.inl ⟨by kernel_rfl, ?_⟩) (unhide HKK) ?_
              rotate_left
              · intro W' hS'; (try dsimp only at hS'); go_simp; try with_reducible rfl
              try simp only [Act.put]
              refine AB.take (i := 17) (v := ?_) rfl (by kernel_rfl) (by kernel_rfl) (by kernel_rfl) (by kernel_rfl) (fun _ _ _ h => h) (Or.inl ⟨by kernel_rfl, ?_⟩) (unhide HKK) ?_
              rotate_left
              · intro W' hS'; (try dsimp only at hS'); go_simp; try with_reducible rfl
              try simp only [Act.put]
              refine AB.take (i := 18) (v := ?_) rfl (by kernel_rfl) (by kernel_rfl) (by kernel_rfl) (by kernel_rfl) (fun _ _ _ h => h) (Or.inl ⟨by kernel_rfl, ?_⟩) (unhide HKK) ?_
              rotate_left
              · intro W' hS'; (try dsimp only at hS'); go_simp; try with_reducible rfl
              try simp only [Act.put]
              refine AB.take (i := 19) (v := ?_) rfl (by kernel_rfl) (by kernel_rfl) (by kernel_rfl) (by kernel_rfl) (fun _ _ _ h => h) (Or.inl ⟨by kernel_rfl, ?_⟩) (unhide HKK) ?_
              rotate_left
              · intro W' hS'; (try dsimp only at hS'); go_simp; try with_reducible rfl
              try simp only [Act.put]
              refine AB.step (i := 20) (by kernel_rfl) rfl (fun K hK => ?_)
              go_simp
              go_at_call 16; (with_reducible refine (unhide HAR _ (unhide HCQ)).mono ?_); rintro e wb ⟨vb, rfl, hvb, hcc⟩; obtain ⟨A4, c8, hv4⟩ := hvb.val; obtain ⟨m4, hm4⟩ : ∃ m4 : Nat, m4 = (arrowL x.args (ofL d)).length := ⟨_, rfl⟩; rw [← hm4] at hv4; subst hv4; have HVB := hide hvb; have HCB := hide ((unhide HCQ).trans' hcc); have HKB := hide (unhide KSV _ ((unhide H1).trans' (unhide HCB))); have ho4 := unhide HOC _ (unhide HCB); have hb4 := unhide HSZ _ (unhide HCB) (.cells #[.string x.name, .slice A4 m4 c8] 47); clear hvb hcc hm4
              go_wp2_with fail
              refine hK.out _ _ (fun _ => unhide HKB) ?_
              clear hK K
              try simp only [Act.put, List.setIfInBounds_toArray, List.set_cons_zero, List.set_cons_succ]
              clear HKK
              have HKK := HKB
              refine AB.take (i := 21) (v := ?_) rfl (by kernel_rfl) (by kernel_rfl) (by kernel_rfl) (by kernel_rfl) (fun _ _ _ h => h) (Or.inl ⟨by kernel_rfl, ?_⟩) (unhide HKK) ?_
              rotate_left
              · intro W' hS'; (try dsimp only at hS'); go_simp; try with_reducible rfl
              try simp only [Act.put, List.setIfInBounds_toArray]
              have HKA := hide (unhide KSV _ ((unhide H1).trans' ((unhide HCB).alloc (.cells #[.string x.name, .slice A4 m4 c8] 47))))
              refine AB.step (i := 22) (by kernel_rfl) rfl (fun K hK => ?_)
              go_simp
              refine hK.out _ _ (fun _ => unhide HKA) ?_
              clear hK K
              try simp only [Act.put, List.setIfInBounds_toArray, List.set_cons_zero, List.set_cons_succ]
              refine AB.step (i := 23) (by kernel_rfl) rfl (fun K hK => ?_)
              refine step_append_rd _ rfl (.tmp 50) (.tmp 72) 27 rfl w.heap.size 47 is _ 2 40 Tryz.underlying27 his hzs hss hbs rfl (Nat.succ_pos 1) _ ps.length _ rfl (ho4.alloc _) (fun _ => True) (some ⟨wb.heap.size, 0, none⟩) 1 1 [.string x.name, .slice A4 m4 c8] rfl rfl ((unhide HRN) wb _) (ho1 A4 m4 c8) hm1 hm2 hb4 ?_
              intro v5 w5 ho5 hc5 hat
              have HRES := hide (unhide HSTEP wb w5 v5 _ _ (unhide HCB) ((unhide HVB).mono (fun q hq => hq.imp id (fun h => Nat.le_trans (unhide HCQ).size h))) ho5 hc5 hat)
              have HK5 := hide (unhide KSV _ (unhide HRES).1.1)
              clear ho5 hc5 hat
              refine hK.out _ _ (fun _ => unhide HK5) ?_
              clear hK K
              try simp only [Act.put, List.setIfInBounds_toArray]
              refine AB.step (i := 24) (by kernel_rfl) rfl (fun K hK => ?_)
              go_simp
              refine hK.out _ _ (fun h => absurd rfl h) ?_
              clear hK K
              try simp only [Act.put, List.setIfInBounds_toArray, List.set_cons_zero, List.set_cons_succ]
              refine AB.done (by kernel_rfl) ?_ _
              go_wp2_with fail
              go_roundw
              case rel => exact ⟨k + 1, by go_num, by omega, (unhide HRES).1, (unhide HRES).2⟩
              case measure => simp [intOf]; omega
            · obtain rfl : k = d.cons.length := by omega
              have hkk : ¬ (d.cons.length : Int) < (d.cons.length : Int) := by omega
              have HN := hide (hinv.next (unhide HX) hc60)
              clear hinv hvt
              go_wp2_with fail
              go_roundw
              case rel => exact ⟨i + 1, by go_num, by omega, unhide HN⟩
              case measure => simp [intOf]; omega
    · obtain rfl : i = l.length := by omega
      have hki : ¬ (l.length : Int) < (l.length : Int) := by omega
      have HIV := hide hinv
      clear hinv
      go_wp2_with fail
      go_ret
      obtain ⟨h1, ps, h2, h4, h5, h6⟩ := unhide HIV
      rw [sigsTo_end] at h2
      obtain ⟨OB, oc, rfl⟩ := own_val h4
      refine ⟨_, rfl, ⟨OB, oc, ps, by rw [← h2, List.length_map]; rfl, h2, (own_rd h4 (by omega)).mono (fun b hb => (h4.lt b hb).1), fun p hp => ⟨(h5 p hp).1.mono (fun b hb => hb.1), (h5 p hp).2⟩, ?_⟩, h1⟩
      rw [← h2, List.length_map]
      omega
end Go.Proofs.YticnehmgaklhfaaGreatDoor
