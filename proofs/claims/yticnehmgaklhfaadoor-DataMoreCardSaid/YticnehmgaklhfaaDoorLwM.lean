/-
  Layer 10, the law on one more declaration: it is true of all declarations.
-/
import Derived.Test.YticnehmgaklhfaaDoorAwk2
import Derived.Test.YticnehmgaklhfaaDoorCpy
import Derived.Test.YticnehmgaklhfaaDoorEc
import Derived.Test.YticnehmgaklhfaaDoorLaw3
namespace Go.Proofs.YticnehmgaklhfaaDoor
open Go.RowKit
set_option maxHeartbeats 4000000
set_option maxRecDepth 100000
theorem datasE_cases (l : List Dt) : datasE l = 0 ∨ datasE l = 100 ∨ datasE l = 101 ∨ datasE l = 102 := by
  unfold datasE
  split
  · exact .inr (.inl rfl)
  · split
    · exact .inr (.inr (.inl rfl))
    · split
      · exact .inr (.inr (.inr rfl))
      · exact .inl rfl
/-- A declaration's own row of one. -/
theorem rdd_one {W : World} {T : Nat → Prop} {b : Nat} {d : Dt} {u : Value} (h : Blk W b 30 #[.string d.name, .int .i64 d.params, u]) (hT : T b) (hu : RdC T W u d.cons) (hs : d.name.size ≤ 9223372036854775807) : RdD T W (.slice (some ⟨b, 0, none⟩) 1 1) [d] :=
  rdr_blk [(d, u)] h hT (fun p hp => by
    obtain rfl := List.mem_singleton.1 hp
    exact ⟨hu, hs⟩) (by simp)
/-- Behind both appends. -/
theorem rdd_more {T : Nat → Prop} {w0 w7 : World} {v7 : Value} {l : List Dt} {d : Dt} {u : Value} {ps : List (Dt × Value)} (hps : ps.map Prod.fst = l) (hR : ∀ p ∈ ps, RdC T w0 p.2 p.1.cons ∧ p.1.name.size ≤ 9223372036854775807) (hu : RdC T w0 u d.cons) (hs : d.name.size ≤ 9223372036854775807) (hl : l.length ≤ 1000000)
    (hc : Chg (fun _ => False) w0 w7) (ho : w7.ownsRow w0.heap.size 30 3 v7 (l.length + 1) ((ps.flatMap fun p => [.string p.1.name, .int .i64 p.1.params, p.2]) ++ [.string d.name, .int .i64 d.params, u])) : RdD (fun b => T b ∨ w0.heap.size ≤ b) w7 v7 (l ++ [d]) := by
  obtain ⟨A, c, rfl⟩ := own_val ho
  refine ⟨A, c, ps ++ [(d, u)], by rw [List.length_append]; rfl, by rw [List.map_append, hps]; rfl, ?_, fun p hp => ?_, by rw [List.length_append, List.length_singleton]; omega⟩
  · have h1 := (own_rd ho (by omega)).mono (T' := fun b => T b ∨ w0.heap.size ≤ b) (fun k hk => .inr (ho.lt k hk).1)
    rw [List.flatMap_append]
    exact h1
  · rcases List.mem_append.1 hp with hp | hp
    · exact ⟨((hR p hp).1.chg hc (fun _ _ _ => id)).mono (fun _ h => .inl h), (hR p hp).2⟩
    · obtain rfl := List.mem_singleton.1 hp
      exact ⟨(hu.chg hc (fun _ _ _ => id)).mono (fun _ h => .inl h), hs⟩
theorem more_law (l : List Dt) (v : Value) (d : Dt) (u : Value) (T1 T2 : Nat → Prop) (w : World) (hr : RdD T1 w v l) (hu : RdC T2 w u d.cons) (hds : d.name.size ≤ 9223372036854775807) (lay : Lay w) :
    Calls Tryd.prog 6 #[v, .agg #[.string d.name, .int .i64 d.params, u]] w fun e w' => e = .returned (.bool true) ∧ Chg (fun _ => False) w w' := by
  obtain ⟨A, c, ps, rfl, hps, hrd, hR, hlen⟩ := hr
  have hr : RdD T1 w (.slice A l.length c) l := ⟨A, c, ps, rfl, hps, hrd, hR, hlen⟩
  obtain ⟨B, cc, rfl⟩ := hu.val
  have c0 : Chg (fun _ => False) w (w.alloc (.cells #[.string d.name, .int .i64 d.params, .slice B d.cons.length cc] 30)) := (Chg.refl _ w).alloc _
  have b0 := Blk.new w 30 #[.string d.name, .int .i64 d.params, .slice B d.cons.length cc]
  have HDB := hide (show ∀ W, Chg (fun _ => False) (w.alloc (.cells #[.string d.name, .int .i64 d.params, .slice B d.cons.length cc] 30)) W → W.cell? ⟨w.heap.size, 0, none⟩ = some (.string d.name) ∧ W.cell? ⟨w.heap.size, 1, none⟩ = some (.int .i64 d.params) ∧ W.cell? ⟨w.heap.size, 2, none⟩ = some (.slice B d.cons.length cc) from fun W hW => by
    have h := b0.chg hW id
    exact ⟨h.cell 0, h.cell 1, h.cell 2⟩)
  have lay1 := lay.chg c0 (fun _ _ => id)
  have hr1 := (hr.chg c0 (fun _ _ _ => id)).mono (T' := fun _ => True) (fun _ _ => trivial)
  have hu1 := (hu.chg c0 (fun _ _ _ => id)).mono (T' := fun _ => True) (fun _ _ => trivial)
  have hrd1 := (hrd.chg c0 (fun _ _ _ => id)).mono (T' := fun _ => True) (fun _ _ => trivial)
  have hR1 : ∀ p ∈ ps, RdC (fun _ => True) (w.alloc (.cells #[.string d.name, .int .i64 d.params, .slice B d.cons.length cc] 30)) p.2 p.1.cons ∧ p.1.name.size ≤ 9223372036854775807 := fun p hp => ⟨((hR p hp).1.chg c0 (fun _ _ _ => id)).mono (fun _ _ => trivial), (hR p hp).2⟩
  have y0 := b0.cell 0
  have y1 := b0.cell 1
  have y2 := b0.cell 2
  simp only [List.getElem?_toArray, List.getElem?_cons_zero, List.getElem?_cons_succ] at y0 y1 y2
  have HC0 := hide c0
  clear hr hu c0 b0 hrd hR lay
  go_enter Tryd.func6, Tryd.ntmps6
  go_upto_region 1 with fail
  generalize w.alloc (.cells #[.string d.name, .int .i64 d.params, .slice B d.cons.length cc] 30) = w1 at *
  generalize w.heap.size = nb at *
  have HA := hide (fun W (hW : Chg (fun _ => False) w1 W) => awake_any W (lay1.chg hW (fun _ _ => id)))
  have HF := hide (fun W (hW : Chg (fun _ => False) w1 W) => show Calls Tryd.prog 8 #[.slice A l.length c] W fun e w' => ∃ r : Bool, e = .returned (.bool r) ∧ (r = true → BL l) ∧ Chg (fun _ => False) W w' from few_d l _ _ W (hr1.chg hW (fun _ _ _ => id)))
  have HONE := hide (fun W (hW : Chg (fun _ => False) w1 W) => show RdD (fun _ => True) (W.alloc (.cells #[.string d.name, .int .i64 d.params, .slice B d.cons.length cc] 30)) (.slice (some ⟨W.heap.size, 0, none⟩) 1 1) [d] from rdd_one (Blk.new W _ _) trivial (hu1.chg (hW.alloc _) (fun _ _ _ => id)) hds)
  have HF1 := hide (fun W (hW : Chg (fun _ => False) w1 W) => show Calls Tryd.prog 8 #[.slice (some ⟨W.heap.size, 0, none⟩) 1 1] (W.alloc (.cells #[.string d.name, .int .i64 d.params, .slice B d.cons.length cc] 30)) fun e w' => ∃ r : Bool, e = .returned (.bool r) ∧ (r = true → BL [d]) ∧ Chg (fun _ => False) W w' from
    (few_d [d] _ _ _ (unhide HONE W hW)).mono fun e w' h => by
      obtain ⟨r, h1, h2, h3⟩ := h
      exact ⟨r, h1, h2, ((Chg.refl _ W).alloc _).trans' h3⟩)
  have HCK := hide (fun W v T (hW : Chg (fun _ => False) w1 W) (h : RdD T W v l) => check_data l v T W h (lay1.chg hW (fun _ _ => id)))
  have HRW := hide (fun W (hW : Chg (fun _ => False) w1 W) => hr1.chg hW (fun _ _ _ => id))
  have HLN := hide (fun (hb : BL l) => show l.length ≤ 1000000 from by have := hb.1; omega)
  have HC := hide (Chg.refl (fun _ => False) w1)
  clear hr1
  by_cases hE : datasE l = 0
  · rw [hE] at HCK
    have HE := hide hE
    clear hE
    go_upto_region 3 with (first
      | (go_at_call 7; with_reducible refine (unhide HA _ (unhide HC)).mono ?_; rintro e w2 ⟨rfl, hch⟩; have HN_ := hide ((unhide HC).trans' hch); clear HC; have HC := HN_; clear HN_ hch; have d2 := unhide HDB _ (unhide HC); obtain ⟨x0, x1, x2⟩ := d2)
      | (go_at_call 8; with_reducible refine (unhide HF _ (unhide HC)).mono ?_; rintro e w3 ⟨rb, rfl, hb, hch⟩; have HB := hide hb; clear hb; have HN_ := hide ((unhide HC).trans' hch); clear HC; have HC := HN_; clear HN_ hch; clear x0 x1 x2; obtain ⟨x0, x1, x2⟩ := unhide HDB _ (unhide HC))
      | (go_at_call 8; with_reducible refine (unhide HF1 _ (unhide HC)).mono ?_; rintro e w4 ⟨rc, rfl, hb, hch⟩; have HB1 := hide hb; clear hb; have HN_ := hide ((unhide HC).trans' hch); clear HC; have HC := HN_; clear HN_ hch; clear x0 x1 x2; obtain ⟨x0, x1, x2⟩ := unhide HDB _ (unhide HC))
      | (at_builtin; refine cpyD _ (by kernel_rfl) (.tmp 22) (.tmp 23) rfl _ rfl rfl (unhide HRW _ (unhide HC)) (unhide HLN (unhide HB (by assumption))) ?_; intro vq wq hq hcap hch; have HQ := hide hq; (obtain ⟨Aq, cq, rfl⟩ := hq.val); have HN_ := hide ((unhide HC).trans' hch); clear HC; have HC := HN_; clear HN_ hch; clear x0 x1 x2; (obtain ⟨x0, x1, x2⟩ := unhide HDB _ (unhide HC)); clear hq hcap)
      | (go_at_call 20; with_reducible refine (unhide HCK _ _ _ (unhide HC) (unhide HQ)).mono ?_; rintro e w5 ⟨rfl, hch⟩; have HN_ := hide ((unhide HC).trans' hch); clear HC; have HC := HN_; clear HN_ hch; clear x0 x1 x2; (obtain ⟨x0, x1, x2⟩ := unhide HDB _ (unhide HC)); clear HQ))
    rotate_left
    · go_ret
      exact ⟨rfl, (unhide HC0).trans' (unhide HC)⟩
    · go_ret
      exact ⟨rfl, (unhide HC0).trans' (unhide HC)⟩
    have hb := unhide HB (by assumption)
    have hl70 := hb.1
    have hb1 := unhide HB1 (by assumption)
    obtain ⟨all, hall⟩ : ∃ all : List Dt, all = l ++ [d] := ⟨_, rfl⟩
    have hmore := datas_more (d := d) (unhide HE)
    rw [← hall] at hmore
    have hal : all.length = l.length + 1 := by rw [hall, List.length_append]; rfl
    rw [hal] at hmore
    have HCKA := hide (fun W v T (hW : Chg (fun _ => False) w1 W) (h : RdD T W v all) => check_data all v T W h (lay1.chg hW (fun _ _ => id)))
    have HCK1 := hide (fun W (hW : Chg (fun _ => False) w1 W) => show Calls Tryd.prog 20 #[.slice (some ⟨W.heap.size, 0, none⟩) 1 1] (W.alloc (.cells #[.string d.name, .int .i64 d.params, .slice B d.cons.length cc] 30)) fun e w' => e = .returned (.int .i64 (datasE [d])) ∧ Chg (fun _ => False) W w' from
      (check_data [d] _ _ _ (unhide HONE W hW) (lay1.chg (hW.alloc _) (fun _ _ => id))).mono fun e w' h => ⟨h.1, ((Chg.refl _ W).alloc _).trans' h.2⟩)
    have HCA := HC
    obtain ⟨wq, hwq⟩ : ∃ wq : World, wq = w5 := ⟨_, rfl⟩
    subst hwq
    have hcw := unhide HC
    have hrdq := hrd1.chg hcw (fun _ _ _ => id)
    have hRq : ∀ p ∈ ps, RdC (fun _ => True) wq p.2 p.1.cons ∧ p.1.name.size ≤ 9223372036854775807 := fun p hp => ⟨(hR1 p hp).1.chg hcw (fun _ _ _ => id), (hR1 p hp).2⟩
    have huq := hu1.chg hcw (fun _ _ _ => id)
    have HFIN := hide (fun w7 v7 (hc : Chg (fun _ => False) wq w7) ho => rdd_more (w7 := w7) (v7 := v7) hps hRq huq hds (by omega) hc ho)
    rw [← hall] at HFIN
    have e1 : Chg (fun _ => False) wq (wq.alloc (.cells #[] 30)).drew := ((Chg.refl _ wq).alloc _).drew
    have e2 : Chg (fun _ => False) wq ((wq.alloc (.cells #[] 30)).alloc (.cells #[.string d.name, .int .i64 d.params, .slice B d.cons.length cc] 30)).drew := (((Chg.refl _ wq).alloc _).alloc _).drew
    have e3 : Chg (fun _ => False) wq ((wq.alloc (.cells #[.string d.name, .int .i64 d.params, .slice B d.cons.length cc] 30)).alloc (.cells #[] 30)).drew := (((Chg.refl _ wq).alloc _).alloc _).drew
    have o1 := own_start (base := wq.heap.size) (size := 3) (Blk.new wq 30 #[]).drew (Nat.le_refl _)
    have o2 := own_start (base := wq.heap.size) (size := 3) ((Blk.new wq 30 #[]).alloc (.cells #[.string d.name, .int .i64 d.params, .slice B d.cons.length cc] 30)).drew (Nat.le_refl _)
    have o3 := own_start (base := wq.heap.size) (size := 3) (Blk.new_at (wq.alloc (.cells #[.string d.name, .int .i64 d.params, .slice B d.cons.length cc] 30)) (wq.heap.size + 1) 30 #[] (by simp)).drew (Nat.le_succ _)
    have b2 := (Blk.new_at (wq.alloc (.cells #[] 30)) (wq.heap.size + 1) 30 #[.string d.name, .int .i64 d.params, .slice B d.cons.length cc] (by simp)).drew
    have b3 := ((Blk.new wq 30 #[.string d.name, .int .i64 d.params, .slice B d.cons.length cc]).alloc (.cells #[] 30)).drew
    have r1 := hrdq.chg e1 (fun _ _ _ => id)
    have r2 := hrdq.chg e2 (fun _ _ _ => id)
    have r3 := hrdq.chg e3 (fun _ _ _ => id)
    have s1 := e1.size
    have s2 := e2.size
    have s3 := e3.size
    have n2 : ¬ (Value.slice (some ⟨wq.heap.size, 0, none⟩) 0 0).ownBlock = some (wq.heap.size + 1) := fun e => by
      simp only [Value.ownBlock, Option.some.injEq] at e
      omega
    have n3 : ¬ (Value.slice (some ⟨wq.heap.size + 1, 0, none⟩) 0 0).ownBlock = some wq.heap.size := fun e => by
      simp only [Value.ownBlock, Option.some.injEq] at e
      omega
    have hcl : (ps.flatMap fun p => [Value.string p.1.name, .int .i64 p.1.params, p.2]).length = l.length * 3 := by
      rw [flat_len (fun p : Dt × Value => [Value.string p.1.name, .int .i64 p.1.params, p.2]) 3 (fun _ => rfl), ← hps, List.length_map]
    have hone : ∀ y ∈ ps.flatMap fun p => [Value.string p.1.name, .int .i64 p.1.params, p.2], y.oneCell' = true := fun y hy => by
      obtain ⟨p, hp, hy⟩ := List.mem_flatMap.1 hy
      obtain ⟨A', c', hv'⟩ := (hRq p hp).1.val
      simp only [List.mem_cons, List.not_mem_nil, or_false] at hy
      rcases hy with rfl | rfl | rfl
      · rfl
      · rfl
      · rw [hv']
        rfl
    have hone2 : ∀ y ∈ ([.string d.name, .int .i64 d.params, .slice B d.cons.length cc] : List Value), y.oneCell' = true := fun y hy => by
      simp only [List.mem_cons, List.not_mem_nil, or_false] at hy
      rcases hy with rfl | rfl | rfl <;> rfl
    have hm1 : 0 + l.length ≤ maxLen := by simp only [maxLen]; omega
    have hm2 : (0 + l.length) * 48 ≤ 140737488355328 := by omega
    have hm3 : l.length + 1 ≤ maxLen := by simp only [maxLen]; omega
    have hm4 : (l.length + 1) * 48 ≤ 140737488355328 := by omega
    obtain ⟨i_, hii, hz, hs, hby⟩ := info_parts infoDt
    have KSW := hide (show ∀ W, Chg (fun _ => False) wq W → W.cell? ⟨nb, 0, none⟩ = some (.string d.name) ∧ W.cell? ⟨nb, 1, none⟩ = some (.int .i64 d.params) ∧ W.cell? ⟨nb, 2, none⟩ = some (.slice B d.cons.length cc) from fun W hW => unhide HDB W (hcw.trans' hW))
    have HKK := hide (unhide KSW _ ((Chg.refl _ _).drew))
    have RDB := hide (fun (W : World) (g : Nat) (h : Blk W g 30 #[.string d.name, .int .i64 d.params, .slice B d.cons.length cc]) => show Rd (fun _ => True) W (some ⟨g, 0, none⟩) [.string d.name, .int .i64 d.params, .slice B d.cons.length cc] from (Rd.blk h (fun j u hu => by simpa using hu)).mono (fun _ _ => trivial))
    have HO1 := hide o1
    have HO2 := hide o2
    have HO3 := hide o3
    have HE1 := hide e1
    have HE2 := hide e2
    have HE3 := hide e3
    have HB2 := hide b2
    have HB3 := hide b3
    have HR1 := hide r1
    have HR2 := hide r2
    have HR3 := hide r3
    have HN2 := hide n2
    have HN3 := hide n3
    have HON := hide hone
    have HON2 := hide hone2
    have HCL := hide hcl
    have HSM := hide (And.intro s1 (And.intro s2 s3))
    have HML := hide hmore
    clear hone hone2 hcl s1 s2 s3 hmore hb hb1 hrdq hRq huq hps hrd1 hR1 hcw e1 e2 e3 o1 o2 o3 b2 b3 r1 r2 r3 n2 n3 hu1
    go_region_held3 (fun W => W.cell? ⟨nb, 0, none⟩ = some (.string d.name) ∧ W.cell? ⟨nb, 1, none⟩ = some (.int .i64 d.params) ∧ W.cell? ⟨nb, 2, none⟩ = some (.slice B d.cons.length cc)) (first | exact unhide HKK | go_keep) (first
      | (refine step_append_rd _ rfl (.tmp 29) (.tmp 30) 22 rfl wq.heap.size 30 i_ _ 3 48 Tryd.underlying22 hii hz hs hby rfl (Nat.succ_pos 2) _ 0 [] rfl (unhide HO1) (fun _ => True) A l.length c (ps.flatMap fun p => [Value.string p.1.name, .int .i64 p.1.params, p.2]) rfl (unhide HCL) (unhide HR1) (unhide HON) hm1 hm2 (unhide HSM).1 ?_; intro v5 w6 ho5 hc5 hat; (rw [Nat.zero_add, List.nil_append] at ho5); have HO5 := hide ho5; have HC5 := hide ((unhide HE1).trans hc5 (fun i hi e => absurd hi (Nat.not_lt.2 ((unhide HO1).lt i e).1))); have HRDA := hide (unhide RDB (w6.alloc (.cells #[.string d.name, .int .i64 d.params, .slice B d.cons.length cc] 30)) w6.heap.size (Blk.new w6 30 #[.string d.name, .int .i64 d.params, .slice B d.cons.length cc])); have HSA := hide (Nat.le_trans (unhide HC5).size ((Chg.refl (fun _ => False) w6).alloc (.cells #[.string d.name, .int .i64 d.params, .slice B d.cons.length cc] 30)).size); have HOA := hide (ho5.alloc (.cells #[.string d.name, .int .i64 d.params, .slice B d.cons.length cc] 30)); have HCA5 := hide ((unhide HC5).alloc (.cells #[.string d.name, .int .i64 d.params, .slice B d.cons.length cc] 30)); clear HKK; have HKK := hide (unhide KSW _ (unhide HC5)); clear ho5 hc5 hat)
      | (refine step_append_rd _ rfl (.tmp 29) (.tmp 30) 22 rfl wq.heap.size 30 i_ _ 3 48 Tryd.underlying22 hii hz hs hby rfl (Nat.succ_pos 2) _ 0 [] rfl (unhide HO2) (fun _ => True) A l.length c (ps.flatMap fun p => [Value.string p.1.name, .int .i64 p.1.params, p.2]) rfl (unhide HCL) (unhide HR2) (unhide HON) hm1 hm2 (unhide HSM).2.1 ?_; intro v5 w6 ho5 hc5 hat; (rw [Nat.zero_add, List.nil_append] at ho5); have HO5 := hide ho5; have HC5 := hide ((unhide HE2).trans hc5 (fun i hi e => absurd hi (Nat.not_lt.2 ((unhide HO2).lt i e).1))); have HRDD := hide (unhide RDB w6 _ ((unhide HB2).chg hc5 (unhide HN2))); have HSZ := hide (unhide HC5).size; clear HKK; have HKK := hide (unhide KSW _ (unhide HC5)); clear ho5 hc5 hat)
      | (refine step_append_rd _ rfl (.tmp 29) (.tmp 30) 22 rfl wq.heap.size 30 i_ _ 3 48 Tryd.underlying22 hii hz hs hby rfl (Nat.succ_pos 2) _ 0 [] rfl (unhide HO3) (fun _ => True) A l.length c (ps.flatMap fun p => [Value.string p.1.name, .int .i64 p.1.params, p.2]) rfl (unhide HCL) (unhide HR3) (unhide HON) hm1 hm2 (unhide HSM).2.2 ?_; intro v5 w6 ho5 hc5 hat; (rw [Nat.zero_add, List.nil_append] at ho5); have HO5 := hide ho5; have HC5 := hide ((unhide HE3).trans hc5 (fun i hi e => absurd hi (Nat.not_lt.2 ((unhide HO3).lt i e).1))); have HRDD := hide (unhide RDB w6 _ ((unhide HB3).chg hc5 (unhide HN3))); have HSZ := hide (unhide HC5).size; clear HKK; have HKK := hide (unhide KSW _ (unhide HC5)); clear ho5 hc5 hat)
      | (refine step_append_rd _ rfl (.tmp 31) (.tmp 33) 22 rfl wq.heap.size 30 i_ _ 3 48 Tryd.underlying22 hii hz hs hby rfl (Nat.succ_pos 2) v5 l.length (ps.flatMap fun p => [Value.string p.1.name, .int .i64 p.1.params, p.2]) rfl (unhide HOA) (fun _ => True) (some ⟨w6.heap.size, 0, none⟩) 1 1 [.string d.name, .int .i64 d.params, .slice B d.cons.length cc] rfl rfl (unhide HRDA) (unhide HON2) hm3 hm4 (unhide HSA) ?_; intro v7 w7 ho7 hc7 hat7; (obtain ⟨A7, c7, rfl⟩ := own_val ho7); have HC7 := hide ((unhide HCA5).trans hc7 (fun i hi e => absurd hi (Nat.not_lt.2 ((unhide HOA).lt i e).1))); have HALL := hide (unhide HFIN _ _ (unhide HC7) ho7); clear HKK; have HKK := hide (unhide KSW _ (unhide HC7)); clear ho7 hc7 hat7)
      | (refine step_append_rd _ rfl (.tmp 31) (.tmp 33) 22 rfl wq.heap.size 30 i_ _ 3 48 Tryd.underlying22 hii hz hs hby rfl (Nat.succ_pos 2) v5 l.length (ps.flatMap fun p => [Value.string p.1.name, .int .i64 p.1.params, p.2]) rfl (unhide HO5) (fun _ => True) _ 1 1 [.string d.name, .int .i64 d.params, .slice B d.cons.length cc] rfl rfl (unhide HRDD) (unhide HON2) hm3 hm4 (unhide HSZ) ?_; intro v7 w7 ho7 hc7 hat7; (obtain ⟨A7, c7, rfl⟩ := own_val ho7); have HC7 := hide ((unhide HC5).trans hc7 (fun i hi e => absurd hi (Nat.not_lt.2 ((unhide HO5).lt i e).1))); have HALL := hide (unhide HFIN _ _ (unhide HC7) ho7); clear HKK; have HKK := hide (unhide KSW _ (unhide HC7)); clear ho7 hc7 hat7))
    all_goals
      have HN_ := hide ((unhide HCA).trans' (unhide HC7))
      clear HC
      have HC := HN_
      have hal2 := unhide HML
      have he1 := datasE_cases [d]
      have HAL := hide (show all.length ≤ 1000000 by omega)
      clear HN_ HKK HO1 HO2 HO3 HE1 HE2 HE3 HB2 HB3 HR1 HR2 HR3 HN2 HN3 HON HON2 HCL HSM HML HFIN KSW RDB hall HF1 HF HRW HLN HCK HONE HA
      clear hii hz hs hby i_ hal
      generalize datasE all = E1 at *
      generalize datasE [d] = E2 at *
      by_cases hE2 : E2 = 100
      · have hE1 := hal2.1 (.inl hE2)
        subst hE2 hE1
        clear hal2 he1
        go_wp2_with (first
          | (at_builtin; refine cpyD _ (by kernel_rfl) (.tmp 35) (.tmp 36) rfl _ rfl rfl (unhide HALL) (unhide HAL) ?_; intro vq w8 hq hcap hch; have HQ := hide hq; (obtain ⟨Aq, cq, rfl⟩ := hq.val); have HN_ := hide ((unhide HC).trans' hch); clear HC; have HC := HN_; clear HN_ hch; clear hq hcap)
          | (go_at_call 20; with_reducible refine (unhide HCKA _ _ _ (unhide HC) (unhide HQ)).mono ?_; rintro e w9 ⟨rfl, hch⟩; have HN_ := hide ((unhide HC).trans' hch); clear HC; have HC := HN_; clear HN_ hch; (obtain ⟨x0, x1, x2⟩ := unhide HDB _ (unhide HC)); clear HQ)
          | (go_at_call 20; with_reducible refine (unhide HCK1 _ (unhide HC)).mono ?_; rintro e wa ⟨rfl, hch⟩; have HN_ := hide ((unhide HC).trans' hch); clear HC; have HC := HN_; clear HN_ hch))
        go_ret
        exact ⟨rfl, (unhide HC0).trans' (unhide HC)⟩
      by_cases h60 : 60 < l.length + 1
      · have hE1 := hal2.1 (.inr h60)
        have h60' : (60 : Int) < (l.length : Int) + 1 := by omega
        subst hE1
        clear hal2
        rcases he1 with rfl | rfl | rfl | rfl
        · clear hE2
          go_wp2_with (first
            | (at_builtin; refine cpyD _ (by kernel_rfl) (.tmp 35) (.tmp 36) rfl _ rfl rfl (unhide HALL) (unhide HAL) ?_; intro vq w8 hq hcap hch; have HQ := hide hq; (obtain ⟨Aq, cq, rfl⟩ := hq.val); have HN_ := hide ((unhide HC).trans' hch); clear HC; have HC := HN_; clear HN_ hch; clear hq hcap)
            | (go_at_call 20; with_reducible refine (unhide HCKA _ _ _ (unhide HC) (unhide HQ)).mono ?_; rintro e w9 ⟨rfl, hch⟩; have HN_ := hide ((unhide HC).trans' hch); clear HC; have HC := HN_; clear HN_ hch; (obtain ⟨x0, x1, x2⟩ := unhide HDB _ (unhide HC)); clear HQ)
            | (go_at_call 20; with_reducible refine (unhide HCK1 _ (unhide HC)).mono ?_; rintro e wa ⟨rfl, hch⟩; have HN_ := hide ((unhide HC).trans' hch); clear HC; have HC := HN_; clear HN_ hch))
          go_ret
          exact ⟨rfl, (unhide HC0).trans' (unhide HC)⟩
        · exact absurd rfl hE2
        · clear hE2
          go_wp2_with (first
            | (at_builtin; refine cpyD _ (by kernel_rfl) (.tmp 35) (.tmp 36) rfl _ rfl rfl (unhide HALL) (unhide HAL) ?_; intro vq w8 hq hcap hch; have HQ := hide hq; (obtain ⟨Aq, cq, rfl⟩ := hq.val); have HN_ := hide ((unhide HC).trans' hch); clear HC; have HC := HN_; clear HN_ hch; clear hq hcap)
            | (go_at_call 20; with_reducible refine (unhide HCKA _ _ _ (unhide HC) (unhide HQ)).mono ?_; rintro e w9 ⟨rfl, hch⟩; have HN_ := hide ((unhide HC).trans' hch); clear HC; have HC := HN_; clear HN_ hch; (obtain ⟨x0, x1, x2⟩ := unhide HDB _ (unhide HC)); clear HQ)
            | (go_at_call 20; with_reducible refine (unhide HCK1 _ (unhide HC)).mono ?_; rintro e wa ⟨rfl, hch⟩; have HN_ := hide ((unhide HC).trans' hch); clear HC; have HC := HN_; clear HN_ hch))
          go_ret
          exact ⟨rfl, (unhide HC0).trans' (unhide HC)⟩
        · clear hE2
          go_wp2_with (first
            | (at_builtin; refine cpyD _ (by kernel_rfl) (.tmp 35) (.tmp 36) rfl _ rfl rfl (unhide HALL) (unhide HAL) ?_; intro vq w8 hq hcap hch; have HQ := hide hq; (obtain ⟨Aq, cq, rfl⟩ := hq.val); have HN_ := hide ((unhide HC).trans' hch); clear HC; have HC := HN_; clear HN_ hch; clear hq hcap)
            | (go_at_call 20; with_reducible refine (unhide HCKA _ _ _ (unhide HC) (unhide HQ)).mono ?_; rintro e w9 ⟨rfl, hch⟩; have HN_ := hide ((unhide HC).trans' hch); clear HC; have HC := HN_; clear HN_ hch; (obtain ⟨x0, x1, x2⟩ := unhide HDB _ (unhide HC)); clear HQ)
            | (go_at_call 20; with_reducible refine (unhide HCK1 _ (unhide HC)).mono ?_; rintro e wa ⟨rfl, hch⟩; have HN_ := hide ((unhide HC).trans' hch); clear HC; have HC := HN_; clear HN_ hch))
          go_ret
          exact ⟨rfl, (unhide HC0).trans' (unhide HC)⟩
      have h60' : ¬ (60 : Int) < (l.length : Int) + 1 := by omega
      have h60d : decide ((60 : Int) < (l.length : Int) + 1) = false := decide_eq_false h60'
      have hal3 := hal2.2 (fun h => h.elim hE2 h60)
      clear hal2
      rcases hal3 with rfl | rfl | ⟨rfl, rfl⟩
      · rcases he1 with rfl | rfl | rfl | rfl
        · clear hE2
          go_wp2_with (first
            | (at_builtin; refine cpyD _ (by kernel_rfl) (.tmp 35) (.tmp 36) rfl _ rfl rfl (unhide HALL) (unhide HAL) ?_; intro vq w8 hq hcap hch; have HQ := hide hq; (obtain ⟨Aq, cq, rfl⟩ := hq.val); have HN_ := hide ((unhide HC).trans' hch); clear HC; have HC := HN_; clear HN_ hch; clear hq hcap)
            | (go_at_call 20; with_reducible refine (unhide HCKA _ _ _ (unhide HC) (unhide HQ)).mono ?_; rintro e w9 ⟨rfl, hch⟩; have HN_ := hide ((unhide HC).trans' hch); clear HC; have HC := HN_; clear HN_ hch; (obtain ⟨x0, x1, x2⟩ := unhide HDB _ (unhide HC)); clear HQ)
            | (go_at_call 20; with_reducible refine (unhide HCK1 _ (unhide HC)).mono ?_; rintro e wa ⟨rfl, hch⟩; have HN_ := hide ((unhide HC).trans' hch); clear HC; have HC := HN_; clear HN_ hch))
          go_ret
          exact ⟨rfl, (unhide HC0).trans' (unhide HC)⟩
        · exact absurd rfl hE2
        · clear hE2
          go_wp2_with (first
            | (at_builtin; refine cpyD _ (by kernel_rfl) (.tmp 35) (.tmp 36) rfl _ rfl rfl (unhide HALL) (unhide HAL) ?_; intro vq w8 hq hcap hch; have HQ := hide hq; (obtain ⟨Aq, cq, rfl⟩ := hq.val); have HN_ := hide ((unhide HC).trans' hch); clear HC; have HC := HN_; clear HN_ hch; clear hq hcap)
            | (go_at_call 20; with_reducible refine (unhide HCKA _ _ _ (unhide HC) (unhide HQ)).mono ?_; rintro e w9 ⟨rfl, hch⟩; have HN_ := hide ((unhide HC).trans' hch); clear HC; have HC := HN_; clear HN_ hch; (obtain ⟨x0, x1, x2⟩ := unhide HDB _ (unhide HC)); clear HQ)
            | (go_at_call 20; with_reducible refine (unhide HCK1 _ (unhide HC)).mono ?_; rintro e wa ⟨rfl, hch⟩; have HN_ := hide ((unhide HC).trans' hch); clear HC; have HC := HN_; clear HN_ hch))
          go_ret
          exact ⟨rfl, (unhide HC0).trans' (unhide HC)⟩
        · clear hE2
          go_wp2_with (first
            | (at_builtin; refine cpyD _ (by kernel_rfl) (.tmp 35) (.tmp 36) rfl _ rfl rfl (unhide HALL) (unhide HAL) ?_; intro vq w8 hq hcap hch; have HQ := hide hq; (obtain ⟨Aq, cq, rfl⟩ := hq.val); have HN_ := hide ((unhide HC).trans' hch); clear HC; have HC := HN_; clear HN_ hch; clear hq hcap)
            | (go_at_call 20; with_reducible refine (unhide HCKA _ _ _ (unhide HC) (unhide HQ)).mono ?_; rintro e w9 ⟨rfl, hch⟩; have HN_ := hide ((unhide HC).trans' hch); clear HC; have HC := HN_; clear HN_ hch; (obtain ⟨x0, x1, x2⟩ := unhide HDB _ (unhide HC)); clear HQ)
            | (go_at_call 20; with_reducible refine (unhide HCK1 _ (unhide HC)).mono ?_; rintro e wa ⟨rfl, hch⟩; have HN_ := hide ((unhide HC).trans' hch); clear HC; have HC := HN_; clear HN_ hch))
          go_ret
          exact ⟨rfl, (unhide HC0).trans' (unhide HC)⟩
      · rcases he1 with rfl | rfl | rfl | rfl
        · clear hE2
          go_wp2_with (first
            | (at_builtin; refine cpyD _ (by kernel_rfl) (.tmp 35) (.tmp 36) rfl _ rfl rfl (unhide HALL) (unhide HAL) ?_; intro vq w8 hq hcap hch; have HQ := hide hq; (obtain ⟨Aq, cq, rfl⟩ := hq.val); have HN_ := hide ((unhide HC).trans' hch); clear HC; have HC := HN_; clear HN_ hch; clear hq hcap)
            | (go_at_call 20; with_reducible refine (unhide HCKA _ _ _ (unhide HC) (unhide HQ)).mono ?_; rintro e w9 ⟨rfl, hch⟩; have HN_ := hide ((unhide HC).trans' hch); clear HC; have HC := HN_; clear HN_ hch; (obtain ⟨x0, x1, x2⟩ := unhide HDB _ (unhide HC)); clear HQ)
            | (go_at_call 20; with_reducible refine (unhide HCK1 _ (unhide HC)).mono ?_; rintro e wa ⟨rfl, hch⟩; have HN_ := hide ((unhide HC).trans' hch); clear HC; have HC := HN_; clear HN_ hch))
          go_ret
          exact ⟨rfl, (unhide HC0).trans' (unhide HC)⟩
        · exact absurd rfl hE2
        · clear hE2
          go_wp2_with (first
            | (at_builtin; refine cpyD _ (by kernel_rfl) (.tmp 35) (.tmp 36) rfl _ rfl rfl (unhide HALL) (unhide HAL) ?_; intro vq w8 hq hcap hch; have HQ := hide hq; (obtain ⟨Aq, cq, rfl⟩ := hq.val); have HN_ := hide ((unhide HC).trans' hch); clear HC; have HC := HN_; clear HN_ hch; clear hq hcap)
            | (go_at_call 20; with_reducible refine (unhide HCKA _ _ _ (unhide HC) (unhide HQ)).mono ?_; rintro e w9 ⟨rfl, hch⟩; have HN_ := hide ((unhide HC).trans' hch); clear HC; have HC := HN_; clear HN_ hch; (obtain ⟨x0, x1, x2⟩ := unhide HDB _ (unhide HC)); clear HQ)
            | (go_at_call 20; with_reducible refine (unhide HCK1 _ (unhide HC)).mono ?_; rintro e wa ⟨rfl, hch⟩; have HN_ := hide ((unhide HC).trans' hch); clear HC; have HC := HN_; clear HN_ hch))
          go_ret
          exact ⟨rfl, (unhide HC0).trans' (unhide HC)⟩
        · clear hE2
          go_wp2_with (first
            | (at_builtin; refine cpyD _ (by kernel_rfl) (.tmp 35) (.tmp 36) rfl _ rfl rfl (unhide HALL) (unhide HAL) ?_; intro vq w8 hq hcap hch; have HQ := hide hq; (obtain ⟨Aq, cq, rfl⟩ := hq.val); have HN_ := hide ((unhide HC).trans' hch); clear HC; have HC := HN_; clear HN_ hch; clear hq hcap)
            | (go_at_call 20; with_reducible refine (unhide HCKA _ _ _ (unhide HC) (unhide HQ)).mono ?_; rintro e w9 ⟨rfl, hch⟩; have HN_ := hide ((unhide HC).trans' hch); clear HC; have HC := HN_; clear HN_ hch; (obtain ⟨x0, x1, x2⟩ := unhide HDB _ (unhide HC)); clear HQ)
            | (go_at_call 20; with_reducible refine (unhide HCK1 _ (unhide HC)).mono ?_; rintro e wa ⟨rfl, hch⟩; have HN_ := hide ((unhide HC).trans' hch); clear HC; have HC := HN_; clear HN_ hch))
          go_ret
          exact ⟨rfl, (unhide HC0).trans' (unhide HC)⟩
      · clear hE2 he1
        go_wp2_with (first
          | (at_builtin; refine cpyD _ (by kernel_rfl) (.tmp 35) (.tmp 36) rfl _ rfl rfl (unhide HALL) (unhide HAL) ?_; intro vq w8 hq hcap hch; have HQ := hide hq; (obtain ⟨Aq, cq, rfl⟩ := hq.val); have HN_ := hide ((unhide HC).trans' hch); clear HC; have HC := HN_; clear HN_ hch; clear hq hcap)
          | (go_at_call 20; with_reducible refine (unhide HCKA _ _ _ (unhide HC) (unhide HQ)).mono ?_; rintro e w9 ⟨rfl, hch⟩; have HN_ := hide ((unhide HC).trans' hch); clear HC; have HC := HN_; clear HN_ hch; (obtain ⟨x0, x1, x2⟩ := unhide HDB _ (unhide HC)); clear HQ)
          | (go_at_call 20; with_reducible refine (unhide HCK1 _ (unhide HC)).mono ?_; rintro e wa ⟨rfl, hch⟩; have HN_ := hide ((unhide HC).trans' hch); clear HC; have HC := HN_; clear HN_ hch))
        go_ret
        exact ⟨rfl, (unhide HC0).trans' (unhide HC)⟩
  · have hE' : ¬ datasE l = 0 := hE
    generalize datasE l = E at *
    go_wp2_with (first
      | (go_at_call 7; with_reducible refine (unhide HA _ (unhide HC)).mono ?_; rintro e w2 ⟨rfl, hch⟩; have HN_ := hide ((unhide HC).trans' hch); clear HC; have HC := HN_; clear HN_ hch; have d2 := unhide HDB _ (unhide HC); obtain ⟨x0, x1, x2⟩ := d2)
      | (go_at_call 8; with_reducible refine (unhide HF _ (unhide HC)).mono ?_; rintro e w3 ⟨rb, rfl, hb, hch⟩; have HB := hide hb; clear hb; have HN_ := hide ((unhide HC).trans' hch); clear HC; have HC := HN_; clear HN_ hch; clear x0 x1 x2; obtain ⟨x0, x1, x2⟩ := unhide HDB _ (unhide HC))
      | (go_at_call 8; with_reducible refine (unhide HF1 _ (unhide HC)).mono ?_; rintro e w4 ⟨rc, rfl, hb, hch⟩; have HB1 := hide hb; clear hb; have HN_ := hide ((unhide HC).trans' hch); clear HC; have HC := HN_; clear HN_ hch; clear x0 x1 x2; obtain ⟨x0, x1, x2⟩ := unhide HDB _ (unhide HC))
      | (at_builtin; refine cpyD _ (by kernel_rfl) (.tmp 22) (.tmp 23) rfl _ rfl rfl (unhide HRW _ (unhide HC)) (unhide HLN (unhide HB (by assumption))) ?_; intro vq wq hq hcap hch; have HQ := hide hq; (obtain ⟨Aq, cq, rfl⟩ := hq.val); have HN_ := hide ((unhide HC).trans' hch); clear HC; have HC := HN_; clear HN_ hch; clear x0 x1 x2; (obtain ⟨x0, x1, x2⟩ := unhide HDB _ (unhide HC)); clear hq hcap)
      | (go_at_call 20; with_reducible refine (unhide HCK _ _ _ (unhide HC) (unhide HQ)).mono ?_; rintro e w5 ⟨rfl, hch⟩; have HN_ := hide ((unhide HC).trans' hch); clear HC; have HC := HN_; clear HN_ hch; clear x0 x1 x2; (obtain ⟨x0, x1, x2⟩ := unhide HDB _ (unhide HC)); clear HQ))
    all_goals (go_ret; exact ⟨rfl, (unhide HC0).trans' (unhide HC)⟩)
end Go.Proofs.YticnehmgaklhfaaDoor
