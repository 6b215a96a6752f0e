/-
  The walks of the document's Live and Shape.
-/
import Derived.Test.YtlgkgglecgdkgaaPlayN
import Derived.Deep.RegionLaw
import Derived.Deep.RegionHeld3
namespace Go.Proofs.Ytlgkgglecgdkgaa
open Go.RowKit
set_option maxHeartbeats 400000
set_option maxRecDepth 100000

theorem live_take (all : List ObjM) (fin : List Int) (j : Nat) (hj : j < fin.length) : liveR all (fin.take (j + 1)) = liveR all (fin.take j) + needO (objAt all (fin.getD j 0)) := by
  have e : fin.take (j + 1) = fin.take j ++ [fin.getD j 0] := by
    rw [List.take_add_one, List.getElem?_eq_getElem hj, List.getD_eq_getElem?_getD, List.getElem?_eq_getElem hj]; rfl
  rw [e]
  unfold liveR
  rw [List.map_append, List.sum_append]
  simp

theorem live_any (all : List ObjM) (L : List Int) (rs : List Rf) (fin : List Int) (f : Nat) (words used : Int) (A B : Option Addr) (c d : Nat) (T T' : Nat → Prop) (w : World) (h : RdObjs T w A all) (h' : Rd T' w B (rs.flatMap rfv))
    (hC : Cls all L) (hfl : ∀ i ∈ fin, i ∈ L) (hr : ∀ r ∈ rs, ClR L r) (hrl : rs.length ≤ 1000) (e : neededR all rs f = some fin) (hx : ∀ i ∈ L, (objAt all i).text.size ≤ 1048576) (hb : liveR all fin ≤ 1048576) (hfn : fin.length ≤ 1000) :
    Calls Try.prog 22 #[.agg #[.int .i64 words, .int .i64 used, .slice A all.length c], .slice B rs.length d] w fun e w' =>
      e = .returned (.int .i64 (liveR all fin : Nat)) ∧ Chg (fun _ => False) w w' := by
  obtain ⟨bx, hbx⟩ : ∃ x : Array Value, x = #[.int .i64 words, .int .i64 used, .slice A all.length c] := ⟨_, rfl⟩
  have HBX := hide hbx
  have hch0 : Chg (fun _ => False) w (w.alloc (.cells bx 45)) := (Chg.refl _ w).alloc _
  have hblk0 : Blk (w.alloc (.cells bx 45)) w.heap.size 45 bx := Blk.new w 45 bx
  have HN := hide (needed_any all L rs fin f words used A B c d T T' (w.alloc (.cells bx 45)) (h.chg hch0 (fun _ _ _ => id)) (h'.chg hch0 (fun _ _ _ => id)) hC hr hrl e)
  have hlv : ∀ j, liveR all (fin.take j) ≤ liveR all fin := fun j => by
    have h1 : liveR all fin = liveR all (fin.take j) + liveR all (fin.drop j) := by
      unfold liveR; rw [← List.sum_append, ← List.map_append, List.take_append_drop]
    omega
  have HLV := hide hlv
  have Hh := hide h
  have HC := hide hC
  have HFL := hide hfl
  have HX := hide hx
  have HCH0 := hide hch0
  have HBL0 := hide hblk0
  clear h h' hC hr e hfl hx hlv hch0 hblk0
  rw [hbx] at HN HCH0 HBL0
  go_enter Try.func22, Try.ntmps22
  go_wp2_with fail
  refine (unhide HN).mono ?_
  rintro e w1 ⟨A1, c1, rfl, hrd, hc1⟩
  have HRD := hide hrd
  have HC1 := hide ((unhide HCH0).trans' hc1)
  have HB1 := hide ((unhide HBL0).chg hc1 id)
  clear hrd hc1 HN
  go_wp2_with fail
  go_loopw [5, 7] (fun s i wr => ∃ j : Nat, j ≤ fin.length ∧ i = .int .i64 j ∧ s = .int .i64 (liveR all (fin.take j) : Nat) ∧ Chg (fun _ => False) w1 wr) (fun _ i _ => fin.length - (intOf i).toNat)
  case atStart => exact ⟨0, Nat.zero_le _, rfl, by simp [liveR], Chg.refl _ _⟩
  case round =>
    obtain ⟨wq, rfl⟩ : ∃ wq : World, wq = wr := ⟨_, rfl⟩
    obtain ⟨j, hj, rfl, rfl, hchg⟩ := hrel
    by_cases hlt : j < fin.length
    · have hge : (fin.map intl)[j]? = some (intl (fin.getD j 0)) := by
        rw [List.getElem?_map, List.getD_eq_getElem?_getD, List.getElem?_eq_getElem hlt]; rfl
      have hmem := unhide HFL _ (getD_mem hlt)
      obtain ⟨cn, hcn, hcl2, hobj⟩ := (unhide HC).at_ hmem
      have hpl := (unhide HC).pl _ hmem
      have hxl := unhide HX _ hmem
      have hall := ((unhide HC1).trans' hchg)
      obtain ⟨bo, oo, rfl, _, hco⟩ := ((unhide HRD).chg hchg (fun _ _ _ => id)).flat (by intro e; have := congrArg List.length e; rw [List.length_map, List.length_nil] at this; omega)
      have d0 := hco j _ hge
      obtain ⟨ba, oa, rfl, _, hca⟩ := ((unhide Hh).chg hall (fun _ _ _ => id)).flat (by rintro rfl; simp at hcl2)
      obtain ⟨v3, hat⟩ := hca cn _ hobj
      obtain ⟨e0, e1, e2, e3, ⟨Pp, cpp, rfl, hps⟩⟩ := hat
      have d2 := ((unhide HB1).chg hchg id).cell 2
      simp only [List.getElem?_toArray, List.getElem?_cons_zero, List.getElem?_cons_succ] at d2
      unfold intl at d0
      rw [hcn] at d0
      have hst := live_take all fin j hlt
      have hl1 := unhide HLV (j + 1)
      rw [hst] at hl1
      have HLT := hide hst
      generalize liveR all (fin.take j) = S at *
      have HN := hide (fun W => need_o (objAt all (fin.getD j 0)) Pp cpp W hxl (by omega))
      generalize objAt all (fin.getD j 0) = ob at *
      generalize needO ob = N at *
      have hcl3 : (cn : Int) < (all.length : Int) := by omega
      have HCH := hide hchg
      obtain ⟨obk, obt, obx, ps⟩ := ob
      dsimp only at e0 e1 e2 e3 hpl HN
      clear hge hmem hcn hobj hco hca hps hst hall hchg
      go_wp2_with fail
      go_region_law (first
        | (go_simp; go_at_call 12; refine (unhide HN _).mono ?_; rintro e w2 ⟨rfl, hc2⟩
           have HC2 := hide hc2
           clear hc2))
      all_goals
        go_wp2_with fail
        refine ⟨⟨j + 1, by omega, by go_num, ?_, (unhide HCH).drew.trans' (unhide HC2)⟩, by simp [intOf]; omega⟩
        rw [unhide HLT]
        go_num
    · obtain rfl : j = fin.length := by omega
      rw [List.take_length]
      have HCH := hide hchg
      clear hchg
      go_wp2_with fail
      go_ret
      exact ⟨rfl, (unhide HC1).trans' (unhide HCH)⟩

theorem info78o : (Try.prog.info? 78).map (fun i => (i.zero, i.size, i.bytes)) = some (some (.agg #[.int .i64 0, .int .i64 0, .string ByteArray.empty, .slice none 0 0]), 4, 56) := info78
theorem Rd.bound {T : Nat → Prop} {w : World} {A : Option Addr} {xs : List Value} (h : Rd T w A xs) : Rd (fun b => T b ∧ b < w.heap.size) w A xs := fun hn => by
  obtain ⟨ad, e, ht, hc⟩ := h hn
  refine ⟨ad, e, ⟨ht, ?_⟩, hc⟩
  obtain ⟨x, l, rfl⟩ := List.exists_cons_of_ne_nil hn
  have := block_lt_of_cell (hc 0 x rfl)
  rwa [block_of_add] at this
theorem RefsT.bound {T : Nat → Prop} {w : World} {v : Value} {l : List Rf} (h : RefsT T w v l) : RefsT (fun b => T b ∧ b < w.heap.size) w v l := by
  obtain ⟨A, c, e, h⟩ := h
  exact ⟨A, c, e, h.bound⟩
theorem RdObjs.bound {T : Nat → Prop} {w : World} {A : Option Addr} {l : List ObjM} (h : RdObjs T w A l) : RdObjs (fun b => T b ∧ b < w.heap.size) w A l := by
  obtain ⟨fin, e, h1, h2⟩ := h
  exact ⟨fin, e, h1.bound, fun p hp => (h2 p hp).bound⟩
theorem oev_one (p : Value × ObjM) (h : p.1.oneCell' = true) : ∀ u ∈ oev p, u.oneCell' = true := by
  intro u hu
  simp [oev] at hu
  rcases hu with rfl | rfl | rfl | rfl
  · rfl
  · rfl
  · rfl
  · exact h

/-- What Shape holds in the midst: the cells that are done. -/
structure SSt (w1 wr : World) (all : List ObjM) (fin : List Int) (j : Nat) (v : Value) (done : List (Value × ObjM)) : Prop where
  dn : done.map (·.2) = (fin.take j).map (cellR all fin)
  own : wr.ownsRow w1.heap.size 78 4 v j (done.flatMap oev)
  ps : ∀ p ∈ done, RefsT (fun b => b < wr.heap.size ∧ v.ownBlock ≠ some b) wr p.1 p.2.parts
  chg : Chg (fun _ => False) w1 wr
theorem SSt.app {w1 wr w2 w3 : World} {all : List ObjM} {fin : List Int} {j : Nat} {v v3 : Value} {done : List (Value × ObjM)} {q : Value × ObjM} {o : Obj} (h : SSt w1 wr all fin j v done) (hj : j < fin.length)
    (hq : q.2 = cellR all fin (fin.getD j 0)) (hps : RefsT (fun b => wr.heap.size ≤ b) w2 q.1 q.2.parts) (hc2 : Chg (fun _ => False) wr w2)
    (ho : w3.ownsRow w1.heap.size 78 4 v3 (j + 1) (done.flatMap oev ++ oev q)) (hc3 : Chg (fun k => v.ownBlock = some k) (w2.alloc o) w3) (hat : v3.ownBlock = v.ownBlock ∨ v3.ownBlock = some (w2.alloc o).heap.size) : SSt w1 w3 all fin (j + 1) v3 (done ++ [q]) := by
  have hs2 := hc2.size
  have hs3 := hc3.size
  rw [size_alloc] at hs3 hat
  have hlt : ∀ k, v.ownBlock = some k → k < wr.heap.size := fun k hk => (h.own.lt k hk).2
  have hne : ∀ b, b < w2.heap.size → v.ownBlock ≠ some b → v3.ownBlock ≠ some b := by
    intro b hb hn
    rcases hat with e | e
    · rw [e]; exact hn
    · rw [e]; intro e2; injection e2 with e2; omega
  refine ⟨?_, by simpa using ho, ?_, ((h.chg.trans' hc2).alloc o).trans hc3 (fun i hi hs => by have := (h.own.lt i hs).1; omega)⟩
  · have e : fin.take (j + 1) = fin.take j ++ [fin.getD j 0] := by
      rw [List.take_add_one, List.getElem?_eq_getElem hj, List.getD_eq_getElem?_getD, List.getElem?_eq_getElem hj]; rfl
    rw [e, List.map_append, List.map_append, h.dn]
    simp [hq]
  · intro p hp
    rcases List.mem_append.1 hp with hp | hp
    · have h1 := (((h.ps p hp).chg hc2 (fun _ _ _ => id)).chg ((Chg.refl (fun _ => False) w2).alloc o) (fun _ _ _ => id)).chg hc3 (fun b hb _ => hb.2)
      exact h1.mono (fun b hb => ⟨by omega, hne b (by omega) hb.2⟩)
    · rw [List.mem_singleton] at hp
      subst hp
      have h0 := hps.bound
      have h1 := (h0.chg ((Chg.refl (fun _ => False) w2).alloc o) (fun _ _ _ => id)).chg hc3 (fun b hb _ e => by have := hlt b e; omega)
      exact h1.mono (fun b hb => ⟨by omega, hne b hb.2 (fun e => by have := hlt b e; omega)⟩)

set_option maxHeartbeats 1000000 in
theorem shapeR_any (all : List ObjM) (L : List Int) (rs : List Rf) (fin : List Int) (f : Nat) (words used : Int) (A B : Option Addr) (c d : Nat) (T T' : Nat → Prop) (w : World) (h : RdObjs T w A all) (h' : Rd T' w B (rs.flatMap rfv))
    (hC : Cls all L) (hfl : ∀ i ∈ fin, i ∈ L) (hr : ∀ r ∈ rs, ClR L r) (hrl : rs.length ≤ 1000) (e : neededR all rs f = some fin) (hfn : fin.length ≤ 1000) :
    Calls Try.prog 24 #[.agg #[.int .i64 words, .int .i64 used, .slice A all.length c], .slice B rs.length d] w fun e w' =>
      ∃ A1 c1 A2 c2, e = .returned (.tuple #[.slice A1 rs.length c1, .slice A2 fin.length c2]) ∧ Rd (fun _ => True) w' A1 ((rs.map (refR fin)).flatMap rfv) ∧ RdObjs (fun _ => True) w' A2 (fin.map (cellR all fin)) ∧ Chg (fun _ => False) w w' := by
  obtain ⟨j0, hj0, hy0, hy1, hy2⟩ := info_parts info78
  obtain ⟨bx, hbx⟩ : ∃ x : Array Value, x = #[.int .i64 words, .int .i64 used, .slice A all.length c] := ⟨_, rfl⟩
  have HBX := hide hbx
  have hch0 : Chg (fun _ => False) w (w.alloc (.cells bx 45)) := (Chg.refl _ w).alloc _
  have hblk0 : Blk (w.alloc (.cells bx 45)) w.heap.size 45 bx := Blk.new w 45 bx
  have HN := hide (needed_any all L rs fin f words used A B c d T T' (w.alloc (.cells bx 45)) (h.chg hch0 (fun _ _ _ => id)) (h'.chg hch0 (fun _ _ _ => id)) hC hr hrl e)
  have Hh := hide h
  have Hh' := hide h'
  have HC := hide hC
  have HFL := hide hfl
  have HCH0 := hide hch0
  have HBL0 := hide hblk0
  clear h h' hC hr e hfl hch0 hblk0
  rw [hbx] at HN HCH0 HBL0
  go_enter Try.func24, Try.ntmps24
  go_wp2_with fail
  refine (unhide HN).mono ?_
  rintro e w1 ⟨A1, c1, rfl, hrd, hc1⟩
  have HRD := hide hrd
  have HC1 := hide ((unhide HCH0).trans' hc1)
  have HB1 := hide ((unhide HBL0).chg hc1 id)
  clear hrd hc1 HN
  go_wp2_with fail
  go_loopw [7, 8] (fun v i wr => ∃ (j : Nat) (done : List (Value × ObjM)), j ≤ fin.length ∧ i = .int .i64 j ∧ SSt w1 wr all fin j v done) (fun _ i _ => fin.length - (intOf i).toNat)
  case atStart =>
    exact ⟨0, [], Nat.zero_le _, rfl, ⟨rfl, by simpa using World.ownsRow_made w1 #[] 0 (Nat.le_refl _) (Nat.zero_le _) rfl, fun p hp => absurd hp (by simp), (Chg.refl _ w1).alloc _⟩⟩
  case round =>
    obtain ⟨wq, rfl⟩ : ∃ wq : World, wq = wr := ⟨_, rfl⟩
    obtain ⟨j, done, hj, rfl, hst⟩ := hrel
    obtain ⟨Aq, cq, rfl⟩ := own_val hst.own
    have hsz := hst.chg.size
    by_cases hlt : j < fin.length
    · have hge : (fin.map intl)[j]? = some (intl (fin.getD j 0)) := by
        rw [List.getElem?_map, List.getD_eq_getElem?_getD, List.getElem?_eq_getElem hlt]; rfl
      have hmem := unhide HFL _ (getD_mem hlt)
      obtain ⟨cn, hcn, hcl2, hobj⟩ := (unhide HC).at_ hmem
      have hpl := (unhide HC).pl _ hmem
      have hall := ((unhide HC1).trans' hst.chg)
      have hrdq := (unhide HRD).chg hst.chg (fun _ _ _ => id)
      obtain ⟨bo, oo, rfl, _, hco⟩ := hrdq.flat (by intro e; have := congrArg List.length e; rw [List.length_map, List.length_nil] at this; omega)
      have d0 := hco j _ hge
      obtain ⟨ba, oa, rfl, _, hca⟩ := ((unhide Hh).chg hall (fun _ _ _ => id)).flat (by rintro rfl; simp at hcl2)
      obtain ⟨v3, hat⟩ := hca cn _ hobj
      obtain ⟨e0, e1, e2, e3, ⟨Pp, cpp, rfl, hps⟩⟩ := hat
      have d2 := ((unhide HB1).chg hst.chg id).cell 2
      simp only [List.getElem?_toArray, List.getElem?_cons_zero, List.getElem?_cons_succ] at d2
      unfold intl at d0
      rw [hcn] at d0
      have hcR : cellR all fin (fin.getD j 0) = ⟨(objAt all (fin.getD j 0)).kind, (objAt all (fin.getD j 0)).tag, (objAt all (fin.getD j 0)).text, (objAt all (fin.getD j 0)).parts.map (refR fin)⟩ := rfl
      generalize objAt all (fin.getD j 0) = ob at *
      obtain ⟨obk, obt, obx, ps⟩ := ob
      dsimp only at e0 e1 e2 e3 hpl hps hcR
      have HCR := hide hcR
      have HRF := hide (fun (W : World) (hc : Chg (fun _ => False) wq W) => refs_any fin ps (some ⟨bo, oo, none⟩) Pp c1 cpp _ T W (hrdq.chg hc (fun _ _ _ => id)) (hps.chg hc (fun _ _ _ => id)) (by omega) (by omega))
      have hcl3 : (cn : Int) < (all.length : Int) := by omega
      have HST := hide hst
      have hca0 : Chg (fun _ => False) wq (wq.alloc (.cells #[.int .i64 0, .int .i64 0, .string ⟨#[]⟩, .slice none 0 0] 35)) := (Chg.refl _ wq).alloc _
      have f0 := cell_old d0 hca0
      have f2 := cell_old d2 hca0
      have f3 := cell_old e0 hca0
      have f4 := cell_old e1 hca0
      have f5 := cell_old e2 hca0
      have f6 := cell_old e3 hca0
      clear hge hmem hcn hobj hco hca hps hst hall hrdq hcR hca0
      have hmax1 : j + 1 ≤ maxLen := by simp only [maxLen]; omega
      have hmax2 : (j + 1) * 56 ≤ 140737488355328 := by omega
      have hcx : Chg (fun _ => False) wq ((wq.alloc (.cells #[.int .i64 obk, .int .i64 obt, .string obx, .slice Pp ps.length cpp] 35)).drew.drew) := ((Chg.refl _ wq).alloc _).drew.drew
      have HCX := hide hcx
      have HB5 := hide (Blk.new wq 35 #[.int .i64 obk, .int .i64 obt, .string obx, .slice Pp ps.length cpp])
      have HK5 := hide (show (wq.alloc (.cells #[.int .i64 obk, .int .i64 obt, .string obx, .slice Pp ps.length cpp] 35)).cell? ⟨wq.heap.size, 0, none⟩ = some (.int .i64 obk) ∧ (wq.alloc (.cells #[.int .i64 obk, .int .i64 obt, .string obx, .slice Pp ps.length cpp] 35)).cell? ⟨wq.heap.size, 1, none⟩ = some (.int .i64 obt) ∧ (wq.alloc (.cells #[.int .i64 obk, .int .i64 obt, .string obx, .slice Pp ps.length cpp] 35)).cell? ⟨wq.heap.size, 2, none⟩ = some (.string obx) ∧ (wq.alloc (.cells #[.int .i64 obk, .int .i64 obt, .string obx, .slice Pp ps.length cpp] 35)).cell? ⟨wq.heap.size, 3, none⟩ = some (.slice Pp ps.length cpp) from ⟨(unhide HB5).cell 0, (unhide HB5).cell 1, (unhide HB5).cell 2, (unhide HB5).cell 3⟩)
      have HO5 := hide ((unhide HST).own.alloc (.cells #[.int .i64 obk, .int .i64 obt, .string obx, .slice Pp ps.length cpp] 35))
      clear hcx
      go_wp2_with fail
      go_region
      all_goals
        go_wp2_with fail
        go_region_held3 (fun W => W.cell? ⟨wq.heap.size, 0, none⟩ = some (.int .i64 obk) ∧ W.cell? ⟨wq.heap.size, 1, none⟩ = some (.int .i64 obt) ∧ W.cell? ⟨wq.heap.size, 2, none⟩ = some (.string obx) ∧ W.cell? ⟨wq.heap.size, 3, none⟩ = some (.slice Pp ps.length cpp))
          (first | exact unhide HK5 | exact unhide HK2 | exact unhide HK2a | exact unhide HK3 | go_keep)
          (first
          | (go_at_call 42; refine (unhide HRF _ (unhide HCX)).mono ?_; rintro e w2 ⟨A2, c2, rfl, hr2, hc2⟩
             have hB2 := Blk.chg (show Blk ((wq.alloc (.cells #[.int .i64 obk, .int .i64 obt, .string obx, .slice Pp ps.length cpp] 35)).drew.drew) _ _ _ from unhide HB5) hc2 id
             have HK2 := hide (show w2.cell? ⟨wq.heap.size, 0, none⟩ = some (.int .i64 obk) ∧ w2.cell? ⟨wq.heap.size, 1, none⟩ = some (.int .i64 obt) ∧ w2.cell? ⟨wq.heap.size, 2, none⟩ = some (.string obx) ∧ w2.cell? ⟨wq.heap.size, 3, none⟩ = some (.slice Pp ps.length cpp) from ⟨hB2.cell 0, hB2.cell 1, hB2.cell 2, hB2.cell 3⟩)
             have HB2 := hide hB2
             have hB2a := hB2.alloc (.cells (oev (.slice A2 ps.length c2, ⟨obk, obt, obx, ps.map (refR fin)⟩)).toArray 78)
             have HK2a := hide (show (w2.alloc (.cells (oev (.slice A2 ps.length c2, ⟨obk, obt, obx, ps.map (refR fin)⟩)).toArray 78)).cell? ⟨wq.heap.size, 0, none⟩ = some (.int .i64 obk) ∧ (w2.alloc (.cells (oev (.slice A2 ps.length c2, ⟨obk, obt, obx, ps.map (refR fin)⟩)).toArray 78)).cell? ⟨wq.heap.size, 1, none⟩ = some (.int .i64 obt) ∧ (w2.alloc (.cells (oev (.slice A2 ps.length c2, ⟨obk, obt, obx, ps.map (refR fin)⟩)).toArray 78)).cell? ⟨wq.heap.size, 2, none⟩ = some (.string obx) ∧ (w2.alloc (.cells (oev (.slice A2 ps.length c2, ⟨obk, obt, obx, ps.map (refR fin)⟩)).toArray 78)).cell? ⟨wq.heap.size, 3, none⟩ = some (.slice Pp ps.length cpp) from ⟨hB2a.cell 0, hB2a.cell 1, hB2a.cell 2, hB2a.cell 3⟩)
             have HO2 := hide (own_chg (show ((wq.alloc (.cells #[.int .i64 obk, .int .i64 obt, .string obx, .slice Pp ps.length cpp] 35)).drew.drew).ownsRow _ _ _ _ _ _ from unhide HO5) hc2 (fun _ _ => id))
             have HR2 := hide hr2
             have HC2 := hide ((unhide HCX).trans' hc2)
             have hs2 : w1.heap.size ≤ (w2.alloc (.cells (oev (.slice A2 ps.length c2, ⟨obk, obt, obx, ps.map (refR fin)⟩)).toArray 78)).heap.size := by
               have := ((unhide HCX).trans' hc2).size
               rw [size_alloc]; omega
             clear hB2 hB2a hr2 hc2)
          | (refine step_append_rd _ ?_ (.tmp 28) (.tmp 40) 63 ?_ w1.heap.size 78 j0 (.agg #[.int .i64 0, .int .i64 0, .string ByteArray.empty, .slice none 0 0]) 4 56 Try.underlying63 hj0 hy0 hy1 hy2 ?_ (Nat.succ_pos 3) (.slice Aq j cq) j (done.flatMap oev) ?_ ((unhide HO2).alloc _) (· = w2.heap.size) (some ⟨w2.heap.size, 0, none⟩) 1 1 (oev (.slice A2 ps.length c2, ⟨obk, obt, obx, ps.map (refR fin)⟩)) ?_ ?_ (rd_new _ _ 78 (oev (.slice A2 ps.length c2, ⟨obk, obt, obx, ps.map (refR fin)⟩)) rfl) (oev_one _ rfl) hmax1 hmax2 hs2 ?_; any_goals (with_unfolding_all rfl)
             intro v3 w3 ho3 hc3 hat
             have hB3 := ((unhide HB2).alloc (.cells (oev (.slice A2 ps.length c2, ⟨obk, obt, obx, ps.map (refR fin)⟩)).toArray 78)).chg hc3 (own_blk_ne (unhide HO2) (unhide HB2) (by decide))
             have HK3 := hide (show w3.cell? ⟨wq.heap.size, 0, none⟩ = some (.int .i64 obk) ∧ w3.cell? ⟨wq.heap.size, 1, none⟩ = some (.int .i64 obt) ∧ w3.cell? ⟨wq.heap.size, 2, none⟩ = some (.string obx) ∧ w3.cell? ⟨wq.heap.size, 3, none⟩ = some (.slice Pp ps.length cpp) from ⟨hB3.cell 0, hB3.cell 1, hB3.cell 2, hB3.cell 3⟩)
             have HO3 := hide ho3
             have HC3 := hide hc3
             have HAT := hide hat
             clear ho3 hc3 hat hB3))
        all_goals
          go_wp2_with fail
          refine ⟨⟨j + 1, done ++ [(.slice A2 ps.length c2, ⟨obk, obt, obx, ps.map (refR fin)⟩)], by omega, by go_num, ?_⟩, by simp [intOf]; omega⟩
          refine (unhide HST).app hlt (unhide HCR).symm ⟨A2, c2, by simp, (unhide HR2).mono (fun b hb => ?_)⟩ (unhide HC2) (unhide HO3) (unhide HC3) (unhide HAT)
          have hb2 : (wq.alloc (.cells #[.int .i64 obk, .int .i64 obt, .string obx, .slice Pp ps.length cpp] 35)).heap.size ≤ b := hb
          rw [size_alloc] at hb2
          omega
    · obtain rfl : j = fin.length := by omega
      have hall := ((unhide HC1).trans' hst.chg)
      have HRF := hide (refs_any fin rs A1 B c1 d _ T' wq ((unhide HRD).chg hst.chg (fun _ _ _ => id)) ((unhide Hh').chg hall (fun _ _ _ => id)) (by omega) (by omega))
      have HST := hide hst
      have HALL := hide hall
      clear hst hall
      go_wp2_with fail
      refine (unhide HRF).mono ?_
      rintro e w2 ⟨A2, c2, rfl, hr2, hc2⟩
      have HR2 := hide hr2
      have HC2 := hide hc2
      clear hr2 hc2
      go_wp2_with fail
      go_ret2
      refine ⟨A2, c2, Aq, cq, rfl, (unhide HR2).mono (fun _ _ => trivial), ?_, (unhide HALL).trans' (unhide HC2)⟩
      have hs := unhide HST
      refine ⟨done, by rw [hs.dn, List.take_length], ((own_rd hs.own (by omega)).chg (unhide HC2) (fun _ _ _ => id)).mono (fun _ _ => trivial), fun p hp => ((hs.ps p hp).chg (unhide HC2) (fun _ _ _ => id)).mono (fun _ _ => trivial)⟩
end Go.Proofs.Ytlgkgglecgdkgaa
