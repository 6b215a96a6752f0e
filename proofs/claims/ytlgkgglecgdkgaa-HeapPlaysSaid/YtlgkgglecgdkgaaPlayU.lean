/-
  The walk of the document's Put where there is room.
-/
import Derived.Test.YtlgkgglecgdkgaaPlayT
namespace Go.Proofs.Ytlgkgglecgdkgaa
open Go.RowKit
set_option maxHeartbeats 400000
set_option maxRecDepth 100000

theorem oev_len (fin : List (Value × ObjM)) : (fin.flatMap oev).length = fin.length * 4 := by
  induction fin with
  | nil => rfl
  | cons p l ih => rw [List.flatMap_cons, List.length_append, ih, List.length_cons]; simp [oev]; omega
theorem info35 : (Try.prog.info? 35).map (fun i => (i.zero, i.size, i.bytes)) = some (some (.agg #[.int .i64 0, .int .i64 0, .string ByteArray.empty, .slice none 0 0]), 4, 56) := by kernel_rfl

theorem put_leaf {w w5 w4 : World} {A4 : Option Addr} {n c4 : Nat} {xs ys : List Value} {v1 v2 v3 : Value} {y : Array Value} (hc5 : Chg (fun _ => False) w w5) (hsz : w.heap.size + 4 ≤ w5.heap.size)
    (ho : w4.ownsRow w5.heap.size 35 4 (.slice A4 (n + 1) c4) (n + 1) (xs ++ ys)) (hp : PutMem w4 w.heap.size #[v1, v2, v3] y)
    (hk : Chg (fun k => w5.heap.size ≤ k ∨ k = w.heap.size) w5 (w4.setCell ⟨w.heap.size, 2, none⟩ (.slice A4 (n + 1) c4))) :
    ∃ A' c', PutMem (w4.setCell ⟨w.heap.size, 2, none⟩ (.slice A4 (n + 1) c4)) w.heap.size #[v1, v2, .slice A' (n + 1) c'] y ∧
      Rd (fun b => w.heap.size + 4 ≤ b) (w4.setCell ⟨w.heap.size, 2, none⟩ (.slice A4 (n + 1) c4)) A' (xs ++ ys) ∧ Chg (fun _ => False) w (w4.setCell ⟨w.heap.size, 2, none⟩ (.slice A4 (n + 1) c4)) := by
  refine ⟨A4, c4, ⟨hp.m0.set_ 2 _, hp.m1.far (by dsimp only; omega) _, hp.m2.far (by dsimp only; omega) _, hp.m3.far (by dsimp only; omega) _⟩, ?_, hc5.trans hk (fun i hi hs => by omega)⟩
  have h1 := (own_rd ho (by omega)).chg ((Chg.refl (fun k => k = w.heap.size) w4).setCell (p := ⟨w.heap.size, 2, none⟩) (fun _ => rfl) (.slice A4 (n + 1) c4)) (fun b hb _ hs => by have := (ho.lt b hb).1; omega)
  exact h1.mono (fun b hb => by have := (ho.lt b hb).1; omega)

set_option maxHeartbeats 1000000 in
theorem put_some (all : List ObjM) (o : ObjM) (words used : Nat) (c cp : Nat) (A Ap : Option Addr) (T : Nat → Prop) (w : World) (h : RdObjs T w A all) (hal : all.length ≤ 1000) (hp : RefsT T w (.slice Ap o.parts.length cp) o.parts) (h1 : o.text.size ≤ 1048576) (h2 : o.parts.length ≤ 1048576) (hw : words ≤ 1048576) (hroom : used + needO o ≤ words) :
    Calls Try.prog 17 #[.agg #[.int .i64 (words : Int), .int .i64 (used : Int), .slice A all.length c], .agg #[.int .i64 o.kind, .int .i64 o.tag, .string o.text, .slice Ap o.parts.length cp]] w fun e w' =>
      ∃ A' c', e = .returned (.tuple #[.agg #[.int .i64 (words : Int), .int .i64 (used + needO o : Nat), .slice A' (all.length + 1) c'], .agg #[.bool false, .int .i64 (all.length : Int)], .bool true]) ∧ RdObjs (fun b => T b ∨ w.heap.size ≤ b) w' A' (all ++ [o]) ∧ Chg (fun _ => False) w w' := by
  obtain ⟨j0, hj0, hy0, hy1, hy2⟩ := info_parts info35
  have hN := fun W => need_o o Ap cp W h1 h2
  have hlt : ¬ (words : Int) - (used : Int) < (needO o : Int) := by omega
  have hlt2 : decide ((words : Int) - (used : Int) < (needO o : Int)) = false := decide_eq_false hlt
  have hnb : needO o ≤ 2000000 := by unfold needO; split <;> omega
  generalize needO o = N at *
  obtain ⟨ok, ot, ox, ps⟩ := o
  dsimp only at hN h1 h2 hp
  have HN := hide hN
  have HH := hide h
  have HPP := hide hp
  clear hN h hp
  have HP := hide (PutMem.new w #[.int .i64 words, .int .i64 used, .slice A all.length c] #[.int .i64 ok, .int .i64 ot, .string ox, .slice Ap ps.length cp])
  have HC0 := hide ((((((Chg.refl (fun _ => False) w).alloc (.cells #[.int .i64 words, .int .i64 used, .slice A all.length c] 45)).alloc (.cells #[.int .i64 ok, .int .i64 ot, .string ox, .slice Ap ps.length cp] 35)).alloc (.cells #[.int .i64 0, .int .i64 0, .slice none 0 0] 45)).alloc (.cells #[.bool false, .int .i64 0] 51)))
  go_enter Try.func17, Try.ntmps17
  go_wp2_with (go_at_call 12; refine (unhide HN _).mono ?_; rintro e w2 ⟨rfl, hc2⟩
               have hP := (unhide HP).chg hc2 (fun _ _ _ => id)
               have HC2 := hide ((unhide HC0).trans' hc2)
               clear hc2
               have c00 := hP.m0.cell 0
               have c01 := hP.m0.cell 1
               have f01 := hP.m0.frozen 1
               simp only [List.getElem?_toArray, List.getElem?_cons_zero, List.getElem?_cons_succ] at c00 c01
               have HP2 := hide hP
               clear hP)
  have hP5 : PutMem (w2.setCell ⟨w.heap.size, 1, none⟩ (.int .i64 ((used : Int) + (N : Int)))) w.heap.size #[.int .i64 words, .int .i64 ((used : Int) + (N : Int)), .slice A all.length c] #[.int .i64 ok, .int .i64 ot, .string ox, .slice Ap ps.length cp] :=
    ⟨(unhide HP2).m0.set_ 1 _, (unhide HP2).m1.far (by dsimp only; omega) _, (unhide HP2).m2.far (by dsimp only; omega) _, (unhide HP2).m3.far (by dsimp only; omega) _⟩
  have hC5 : Chg (fun _ => False) w (w2.setCell ⟨w.heap.size, 1, none⟩ (.int .i64 ((used : Int) + (N : Int)))) := (unhide HC2).setCell (fun h => by dsimp only at h; omega) _
  clear c00 c01 f01 HP2 HC2 HP HC0
  have hsz : w.heap.size + 4 ≤ (w2.setCell ⟨w.heap.size, 1, none⟩ (.int .i64 ((used : Int) + (N : Int)))).heap.size := by have := hP5.m3.lt; omega
  generalize w2.setCell ⟨w.heap.size, 1, none⟩ (.int .i64 ((used : Int) + (N : Int))) = w5 at *
  have HP5 := hide hP5
  have HC5 := hide hC5
  clear hP5 hC5
  obtain ⟨fin, hfin, hrd0, hps⟩ := unhide HH
  have hrd := hrd0.chg (unhide HC5) (fun _ _ _ => id)
  have hrows : (fin.flatMap oev).length = all.length * 4 := by rw [← hfin, List.length_map, oev_len]
  have hone : ∀ u ∈ fin.flatMap oev, u.oneCell' = true := by
    intro u hu
    obtain ⟨q, hq, hu⟩ := List.mem_flatMap.1 hu
    obtain ⟨_, _, e, _⟩ := hps q hq
    exact oev_one q (by rw [e]; rfl) u hu
  have HRD := hide hrd
  have HROW := hide hrows
  have HONE := hide hone
  have HPS := hide hps
  have HFIN := hide hfin
  clear hrd hrows hone hps hfin
  have c02 := (unhide HP5).m0.cell 2
  have c10 := (unhide HP5).m1.cell 0
  have c11 := (unhide HP5).m1.cell 1
  have c12 := (unhide HP5).m1.cell 2
  have c13 := (unhide HP5).m1.cell 3
  have f02 := (unhide HP5).m0.frozen 2
  simp only [List.getElem?_toArray, List.getElem?_cons_zero, List.getElem?_cons_succ] at c02 c10 c11 c12 c13
  go_cut [] from 24 to 31 (fun wx => ∃ A' c', PutMem wx w.heap.size #[.int .i64 words, .int .i64 ((used : Int) + (N : Int)), .slice A' (all.length + 1) c'] #[.int .i64 ok, .int .i64 ot, .string ox, .slice Ap ps.length cp] ∧ Rd (fun b => w.heap.size + 4 ≤ b) wx A' (fin.flatMap oev ++ oev (.slice Ap ps.length cp, ⟨ok, ot, ox, ps⟩)) ∧ Chg (fun _ => False) w wx)
  case first =>
    have KS : ∀ W', Chg (fun k => w5.heap.size ≤ k ∨ k = w.heap.size) w5 W' → W'.cell? ⟨w.heap.size + 1, 0, none⟩ = some (.int .i64 ok) ∧ W'.cell? ⟨w.heap.size + 1, 1, none⟩ = some (.int .i64 ot) ∧ W'.cell? ⟨w.heap.size + 1, 2, none⟩ = some (.string ox) ∧ W'.cell? ⟨w.heap.size + 1, 3, none⟩ = some (.slice Ap ps.length cp) := by
      intro W' hc
      have hb := (unhide HP5).m1.chg hc (by omega)
      exact ⟨hb.cell 0, hb.cell 1, hb.cell 2, hb.cell 3⟩
    obtain ⟨xo, hxo⟩ : ∃ x : Obj, x = .cells #[.int .i64 ok, .int .i64 ot, .string ox, .slice Ap ps.length cp] 35 := ⟨_, rfl⟩
    have c5 : Chg (fun k => w5.heap.size ≤ k) w5 w5 := Chg.refl _ w5
    have c5e := c5.alloc (.cells #[] 35)
    have c5x := c5.alloc xo
    have c5ex := c5e.alloc xo
    have c5xe := c5x.alloc (.cells #[] 35)
    have n1 := (Chg.refl (fun _ => False) w5).alloc (.cells #[] 35)
    have n2 := (Chg.refl (fun _ => False) w5).alloc xo
    have n3 := n1.alloc xo
    have n4 := n2.alloc (.cells #[] 35)
    have p0 := cell_old c10 n1
    have p1 := cell_old c11 n1
    have p2 := cell_old c12 n1
    have p3 := cell_old c13 n1
    have l2 := cell_old c02 n1
    have l3 := cell_old c02 n2
    have l4 := cell_old c02 n3
    have l5 := cell_old c02 n4
    have o1 := World.ownsRow_made (base := w5.heap.size) (e := 35) (size := 4) w5 #[] 0 (Nat.le_refl _) (Nat.zero_le _) rfl
    have o3 := World.ownsRow_made (base := w5.heap.size) (e := 35) (size := 4) (w5.alloc xo) #[] 0 (by rw [size_alloc]; exact Nat.le_succ _) (Nat.zero_le _) rfl
    rw [size_alloc] at o3
    have K1 := hide c5.drew
    have K2 := hide c5e.drew
    have K3 := hide c5x.drew
    have K4 := hide c5ex.drew
    have K5 := hide c5xe.drew
    have HO1 := hide (show (w5.alloc (.cells #[] 35)).drew.ownsRow _ _ _ _ _ _ from o1)
    have HO2 := hide (show ((w5.alloc (.cells #[] 35)).alloc xo).drew.ownsRow _ _ _ _ _ _ from o1.alloc xo)
    have HO3' := hide (show ((w5.alloc xo).alloc (.cells #[] 35)).drew.ownsRow _ _ _ _ _ _ from o3)
    have HQ1 := hide ((unhide HRD).chg n1.drew (fun _ _ _ => id))
    have HQ2 := hide ((unhide HRD).chg n3.drew (fun _ _ _ => id))
    have HQ3 := hide ((unhide HRD).chg n4.drew (fun _ _ _ => id))
    have KX := hide ((rd_new w5 w5.heap.size 35 (oev (.slice Ap ps.length cp, ⟨ok, ot, ox, ps⟩)) rfl).chg ((Chg.refl (fun _ => False) _).alloc (.cells #[] 35)).drew (fun _ _ _ => id))
    have KY := hide ((rd_new (w5.alloc (.cells #[] 35)) (w5.heap.size + 1) 35 (oev (.slice Ap ps.length cp, ⟨ok, ot, ox, ps⟩)) (by rw [size_alloc])).chg (Chg.refl (fun _ => False) _).drew (fun _ _ _ => id))
    have HS2 := hide (show w5.heap.size ≤ ((w5.alloc (.cells #[] 35)).alloc xo).drew.heap.size by show w5.heap.size ≤ ((w5.alloc (.cells #[] 35)).alloc xo).heap.size; rw [size_alloc, size_alloc]; omega)
    have HS3 := hide (show w5.heap.size ≤ ((w5.alloc xo).alloc (.cells #[] 35)).drew.heap.size by show w5.heap.size ≤ ((w5.alloc xo).alloc (.cells #[] 35)).heap.size; rw [size_alloc, size_alloc]; omega)
    have HS1 := hide (show w5.heap.size ≤ (w5.alloc (.cells #[] 35)).drew.heap.size by show w5.heap.size ≤ (w5.alloc (.cells #[] 35)).heap.size; rw [size_alloc]; omega)
    clear c5 c5e c5x c5ex c5xe o1 o3 n1 n2 n3 n4
    subst hxo
    have hmax1 : 0 + all.length ≤ maxLen := by simp only [maxLen]; omega
    have hmax2 : (0 + all.length) * 56 ≤ 140737488355328 := by omega
    have hmax3 : all.length + 1 ≤ maxLen := by simp only [maxLen]; omega
    have hmax4 : (all.length + 1) * 56 ≤ 140737488355328 := by omega
    go_region_law
      (first
      | (refine step_append_rd _ ?_ (.tmp 24) (.tmp 26) 43 ?_ w5.heap.size 35 j0 (.agg #[.int .i64 0, .int .i64 0, .string ByteArray.empty, .slice none 0 0]) 4 56 Try.underlying43 hj0 hy0 hy1 hy2 ?_ (Nat.succ_pos 3) (.slice (some ⟨w5.heap.size, 0, none⟩) 0 0) 0 [] ?_ (unhide HO1) T A all.length c (fin.flatMap oev) ?_ (unhide HROW) (unhide HQ1) (unhide HONE) hmax1 hmax2 (unhide HS1) ?_; any_goals (with_unfolding_all rfl)
         intro v3 w3 ho3 hc3 hat
         rw [Nat.zero_add, List.nil_append] at ho3
         have q1 := KS w3 (((unhide K2).trans hc3 (fun i hi hs => by simp [Value.ownBlock] at hs; omega)).mono (fun _ _ h => .inl h))
         obtain ⟨q10, q11, q12, q13⟩ := q1
         have HO3 := hide ho3
         have hk6 := (unhide K2).trans hc3 (fun i hi hs => by simp [Value.ownBlock] at hs; omega)
         have K6 := hide hk6
         have K7 := hide (hk6.alloc (.cells #[.int .i64 ok, .int .i64 ot, .string ox, .slice Ap ps.length cp] 35))
         have hs3 : w5.heap.size ≤ w3.heap.size := hk6.size
         have hs4 : w5.heap.size ≤ (w3.alloc (.cells #[.int .i64 ok, .int .i64 ot, .string ox, .slice Ap ps.length cp] 35)).heap.size := by rw [size_alloc]; omega
         clear ho3 hc3 hat hk6)
      | (refine step_append_rd _ ?_ (.tmp 24) (.tmp 26) 43 ?_ w5.heap.size 35 j0 (.agg #[.int .i64 0, .int .i64 0, .string ByteArray.empty, .slice none 0 0]) 4 56 Try.underlying43 hj0 hy0 hy1 hy2 ?_ (Nat.succ_pos 3) (.slice (some ⟨w5.heap.size, 0, none⟩) 0 0) 0 [] ?_ (unhide HO2) T A all.length c (fin.flatMap oev) ?_ (unhide HROW) (unhide HQ2) (unhide HONE) hmax1 hmax2 (unhide HS2) ?_; any_goals (with_unfolding_all rfl)
         intro v3 w3 ho3 hc3 hat
         rw [Nat.zero_add, List.nil_append] at ho3
         have HO3 := hide ho3
         have hk6 := (unhide K4).trans hc3 (fun i hi hs => by simp [Value.ownBlock] at hs; omega)
         have K6 := hide hk6
         have K7 := hide (hk6.alloc (.cells #[.int .i64 ok, .int .i64 ot, .string ox, .slice Ap ps.length cp] 35))
         have hs3 : w5.heap.size ≤ w3.heap.size := hk6.size
         have hs4 : w5.heap.size ≤ (w3.alloc (.cells #[.int .i64 ok, .int .i64 ot, .string ox, .slice Ap ps.length cp] 35)).heap.size := by rw [size_alloc]; omega
         have HX3 := hide ((unhide KY).chg hc3 (fun b hb _ hs => by have hb2 : b = w5.heap.size + 1 := hb; simp [Value.ownBlock] at hs; omega))
         clear ho3 hc3 hat hk6)
      | (refine step_append_rd _ ?_ (.tmp 24) (.tmp 26) 43 ?_ w5.heap.size 35 j0 (.agg #[.int .i64 0, .int .i64 0, .string ByteArray.empty, .slice none 0 0]) 4 56 Try.underlying43 hj0 hy0 hy1 hy2 ?_ (Nat.succ_pos 3) (.slice (some ⟨w5.heap.size + 1, 0, none⟩) 0 0) 0 [] ?_ (unhide HO3') T A all.length c (fin.flatMap oev) ?_ (unhide HROW) (unhide HQ3) (unhide HONE) hmax1 hmax2 (unhide HS3) ?_; any_goals (with_unfolding_all rfl)
         intro v3 w3 ho3 hc3 hat
         rw [Nat.zero_add, List.nil_append] at ho3
         have HO3 := hide ho3
         have hk6 := (unhide K5).trans hc3 (fun i hi hs => by simp [Value.ownBlock] at hs; omega)
         have K6 := hide hk6
         have K7 := hide (hk6.alloc (.cells #[.int .i64 ok, .int .i64 ot, .string ox, .slice Ap ps.length cp] 35))
         have hs3 : w5.heap.size ≤ w3.heap.size := hk6.size
         have hs4 : w5.heap.size ≤ (w3.alloc (.cells #[.int .i64 ok, .int .i64 ot, .string ox, .slice Ap ps.length cp] 35)).heap.size := by rw [size_alloc]; omega
         have HX3 := hide ((unhide KX).chg hc3 (fun b hb _ hs => by have hb2 : b = w5.heap.size := hb; simp [Value.ownBlock] at hs; omega))
         clear ho3 hc3 hat hk6)
      | (refine step_append_rd _ ?_ (.tmp 27) (.tmp 29) 43 ?_ w5.heap.size 35 j0 (.agg #[.int .i64 0, .int .i64 0, .string ByteArray.empty, .slice none 0 0]) 4 56 Try.underlying43 hj0 hy0 hy1 hy2 ?_ (Nat.succ_pos 3) v3 all.length (fin.flatMap oev) ?_ ((unhide HO3).alloc _) _ (some ⟨w3.heap.size, 0, none⟩) 1 1 (oev (.slice Ap ps.length cp, ⟨ok, ot, ox, ps⟩)) ?_ ?_ (rd_new w3 w3.heap.size 35 (oev (.slice Ap ps.length cp, ⟨ok, ot, ox, ps⟩)) rfl) (oev_one _ rfl) hmax3 hmax4 hs4 ?_; any_goals (with_unfolding_all rfl)
         intro v4 w4 ho4 hc4 hat
         obtain ⟨A4, c4, rfl⟩ := own_val ho4
         have hk8 := (unhide K7).trans hc4 (fun i hi hs => by have := ((unhide HO3).lt i hs).1; omega)
         have hp4 : PutMem w4 w.heap.size #[.int .i64 words, .int .i64 ((used : Int) + (N : Int)), .slice A all.length c] #[.int .i64 ok, .int .i64 ot, .string ox, .slice Ap ps.length cp] := (unhide HP5).chg hk8 (fun k h1 h2 h3 => by omega)
         have e02 := hp4.m0.cell 2
         have g02 := hp4.m0.frozen 2
         simp only [List.getElem?_toArray, List.getElem?_cons_zero, List.getElem?_cons_succ] at e02
         have HO4 := hide ho4
         have HP4 := hide hp4
         have K8 := hide hk8
         have K9 := hide ((hk8.mono (fun _ _ h => .inl h : ∀ i, i < w5.heap.size → w5.heap.size ≤ i → (w5.heap.size ≤ i ∨ i = w.heap.size))).setCell (p := ⟨w.heap.size, 2, none⟩) (fun _ => .inr rfl) (.slice A4 (all.length + 1) c4))
         clear ho4 hc4 hat hk8 hp4)
      | (refine step_append_rd _ ?_ (.tmp 27) (.tmp 29) 43 ?_ w5.heap.size 35 j0 (.agg #[.int .i64 0, .int .i64 0, .string ByteArray.empty, .slice none 0 0]) 4 56 Try.underlying43 hj0 hy0 hy1 hy2 ?_ (Nat.succ_pos 3) v3 all.length (fin.flatMap oev) ?_ (unhide HO3) _ (some ⟨w5.heap.size + 1, 0, none⟩) 1 1 (oev (.slice Ap ps.length cp, ⟨ok, ot, ox, ps⟩)) ?_ ?_ (unhide HX3) (oev_one _ rfl) hmax3 hmax4 hs3 ?_; any_goals (with_unfolding_all rfl)
         intro v4 w4 ho4 hc4 hat
         obtain ⟨A4, c4, rfl⟩ := own_val ho4
         have hk8 := (unhide K6).trans hc4 (fun i hi hs => by have := ((unhide HO3).lt i hs).1; omega)
         have hp4 : PutMem w4 w.heap.size #[.int .i64 words, .int .i64 ((used : Int) + (N : Int)), .slice A all.length c] #[.int .i64 ok, .int .i64 ot, .string ox, .slice Ap ps.length cp] := (unhide HP5).chg hk8 (fun k h1 h2 h3 => by omega)
         have e02 := hp4.m0.cell 2
         have g02 := hp4.m0.frozen 2
         simp only [List.getElem?_toArray, List.getElem?_cons_zero, List.getElem?_cons_succ] at e02
         have HO4 := hide ho4
         have HP4 := hide hp4
         have K8 := hide hk8
         have K9 := hide ((hk8.mono (fun _ _ h => .inl h : ∀ i, i < w5.heap.size → w5.heap.size ≤ i → (w5.heap.size ≤ i ∨ i = w.heap.size))).setCell (p := ⟨w.heap.size, 2, none⟩) (fun _ => .inr rfl) (.slice A4 (all.length + 1) c4))
         clear ho4 hc4 hat hk8 hp4)
      | (refine step_append_rd _ ?_ (.tmp 27) (.tmp 29) 43 ?_ w5.heap.size 35 j0 (.agg #[.int .i64 0, .int .i64 0, .string ByteArray.empty, .slice none 0 0]) 4 56 Try.underlying43 hj0 hy0 hy1 hy2 ?_ (Nat.succ_pos 3) v3 all.length (fin.flatMap oev) ?_ (unhide HO3) _ (some ⟨w5.heap.size, 0, none⟩) 1 1 (oev (.slice Ap ps.length cp, ⟨ok, ot, ox, ps⟩)) ?_ ?_ (unhide HX3) (oev_one _ rfl) hmax3 hmax4 hs3 ?_; any_goals (with_unfolding_all rfl)
         intro v4 w4 ho4 hc4 hat
         obtain ⟨A4, c4, rfl⟩ := own_val ho4
         have hk8 := (unhide K6).trans hc4 (fun i hi hs => by have := ((unhide HO3).lt i hs).1; omega)
         have hp4 : PutMem w4 w.heap.size #[.int .i64 words, .int .i64 ((used : Int) + (N : Int)), .slice A all.length c] #[.int .i64 ok, .int .i64 ot, .string ox, .slice Ap ps.length cp] := (unhide HP5).chg hk8 (fun k h1 h2 h3 => by omega)
         have e02 := hp4.m0.cell 2
         have g02 := hp4.m0.frozen 2
         simp only [List.getElem?_toArray, List.getElem?_cons_zero, List.getElem?_cons_succ] at e02
         have HO4 := hide ho4
         have HP4 := hide hp4
         have K8 := hide hk8
         have K9 := hide ((hk8.mono (fun _ _ h => .inl h : ∀ i, i < w5.heap.size → w5.heap.size ≤ i → (w5.heap.size ≤ i ∨ i = w.heap.size))).setCell (p := ⟨w.heap.size, 2, none⟩) (fun _ => .inr rfl) (.slice A4 (all.length + 1) c4))
         clear ho4 hc4 hat hk8 hp4))
    all_goals
      go_wp2_with fail
      go_meet
      case rel =>
        exact put_leaf (unhide HC5) hsz (unhide HO4) (unhide HP4) (unhide K9)
  case rest =>
    obtain ⟨A', c', hP, hR, hC⟩ := hcut
    have c00 := hP.m0.cell 0
    have c01 := hP.m0.cell 1
    have c02 := hP.m0.cell 2
    have c20 := hP.m2.cell 0
    have c21 := hP.m2.cell 1
    have c22 := hP.m2.cell 2
    have c30 := hP.m3.cell 0
    have c31 := hP.m3.cell 1
    have f20 := hP.m2.frozen 0
    have f21 := hP.m2.frozen 1
    have f22 := hP.m2.frozen 2
    have f30 := hP.m3.frozen 0
    have f31 := hP.m3.frozen 1
    simp only [List.getElem?_toArray, List.getElem?_cons_zero, List.getElem?_cons_succ] at c00 c01 c02 c20 c21 c22 c30 c31
    have HR := hide hR
    have HCC := hide hC
    clear hP hR hC
    go_wp2_with fail
    go_region
    all_goals
      go_wp2_with fail
      have hset : Chg (fun k => w.heap.size ≤ k ∧ k < w.heap.size + 4) wc (((((wc.setCell ⟨w.heap.size + 1 + 1, 0, none⟩ (.int .i64 (words : Int))).setCell ⟨w.heap.size + 1 + 1, 1, none⟩ (.int .i64 ((used : Int) + (N : Int)))).setCell ⟨w.heap.size + 1 + 1, 2, none⟩ (.slice A' (all.length + 1) c')).setCell ⟨w.heap.size + 1 + 1 + 1, 0, none⟩ (.bool false)).setCell ⟨w.heap.size + 1 + 1 + 1, 1, none⟩ (.int .i64 (all.length : Int))).drew := by
        refine Chg.drew ?_
        repeat (first | exact Chg.refl _ _ | refine Chg.setCell ?_ (fun _ => by dsimp only; omega) _)
      refine bodyPost_ret (v := .tuple #[.agg #[.int .i64 (words : Int), .int .i64 ((used : Int) + (N : Int)), .slice A' (all.length + 1) c'], .agg #[.bool false, .int .i64 (all.length : Int)], .bool true]) (by simp [results, Try.results17, go_sem, c20, c21, c22, c30, c31]) rfl ⟨A', c', by rw [Int.natCast_add], ?_, (unhide HCC).trans hset (fun i hi hs => by omega)⟩
      have h9 := (unhide HCC).trans hset (S := fun _ => False) (fun i hi hs => by omega)
      refine ⟨fin ++ [(.slice Ap ps.length cp, ⟨ok, ot, ox, ps⟩)], ?_, ?_, ?_⟩
      · rw [List.map_append, unhide HFIN]; rfl
      · rw [List.flatMap_append]
        refine ((unhide HR).chg hset (fun b hb _ hs => by omega)).mono (fun b hb => .inr (by omega))
      · intro q hq
        rcases List.mem_append.1 hq with hq | hq
        · exact ((unhide HPS q hq).chg h9 (fun _ _ _ => id)).mono (fun _ h => .inl h)
        · rw [List.mem_singleton] at hq
          subst hq
          exact ((unhide HPP).chg h9 (fun _ _ _ => id)).mono (fun _ h => .inl h)
end Go.Proofs.Ytlgkgglecgdkgaa
