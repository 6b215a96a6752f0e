/-
  The walk of the document's Set.
-/
import Derived.Test.YtlgkgglecgdkgaaPlayU
namespace Go.Proofs.Ytlgkgglecgdkgaa
open Go.RowKit
set_option maxHeartbeats 400000
set_option maxRecDepth 100000

/-- A block that begins with these values. -/
def Pre (cur : Array Value) (xs : List Value) : Prop := ∀ (j : Nat) (u : Value), xs[j]? = some u → cur[j]? = some u
theorem own_blk {w : World} {base : Nat} {e : TypeId} {size n : Nat} {v : Value} {xs : List Value} (h : w.ownsRow base e size v n xs) (hn : 0 < n) :
    ∃ g cap cur, v = .slice (some ⟨g, 0, none⟩) n cap ∧ base ≤ g ∧ Blk w g e cur ∧ Pre cur xs := by
  rcases h.2 with ⟨_, h0⟩ | ⟨g, cap, cur, hv, hb, hg, _, _, _, ht⟩
  · omega
  · refine ⟨g, cap, cur, hv, hb, hg, fun j u hj => ?_⟩
    rw [← ht, List.getElem?_take] at hj
    split at hj
    · rw [← Array.getElem?_toList]; exact hj
    · cases hj
theorem Pre.set {cur : Array Value} {xs : List Value} (h : Pre cur xs) (i : Nat) (u : Value) : Pre (cur.setIfInBounds i u) (xs.set i u) := by
  intro j v hj
  rw [List.getElem?_set] at hj
  rw [Array.getElem?_setIfInBounds]
  split at hj
  · rename_i e
    subst e
    split at hj
    · rename_i hl
      cases hj
      have h1 := h i _ (List.getElem?_eq_getElem hl)
      rw [if_pos rfl, if_pos (Array.getElem?_eq_some_iff.1 h1).1]
    · cases hj
  · rename_i e
    rw [if_neg e]
    exact h j v hj
theorem rfv_set : ∀ (l : List Rf) (p : Nat) (r : Rf), ((l.flatMap rfv).set (p * 2) (.bool r.1)).set (p * 2 + 1) (.int .i64 r.2) = (l.set p r).flatMap rfv := by
  intro l
  induction l with
  | nil => intro p r; simp
  | cons x l ih =>
    intro p r
    cases p with
    | zero => simp [rfv]
    | succ p =>
      rw [show (p + 1) * 2 = p * 2 + 2 by omega, List.set_cons_succ, List.flatMap_cons, List.flatMap_cons, ← ih p r]
      simp [rfv]
theorem oev_set : ∀ (l : List (Value × ObjM)) (p : Nat) (q : Value × ObjM), ((((l.flatMap oev).set (p * 4) (.int .i64 q.2.kind)).set (p * 4 + 1) (.int .i64 q.2.tag)).set (p * 4 + 2) (.string q.2.text)).set (p * 4 + 3) q.1 = (l.set p q).flatMap oev := by
  intro l
  induction l with
  | nil => intro p r; simp
  | cons x l ih =>
    intro p q
    cases p with
    | zero => simp [oev]
    | succ p =>
      rw [show (p + 1) * 4 = p * 4 + 4 by omega, List.set_cons_succ, List.flatMap_cons, List.flatMap_cons, ← ih p q]
      simp [oev]
theorem rfv_onel (l : List Rf) : ∀ u ∈ l.flatMap rfv, u.oneCell' = true := rfv_one l

set_option maxHeartbeats 1000000 in
theorem set_any (all : List ObjM) (words used : Int) (i p c : Nat) (A : Option Addr) (T : Nat → Prop) (o : ObjM) (r : Rf) (w : World) (h : RdObjs T w A all) (hal : all.length ≤ 1000) (ho : all[i]? = some o) (hp : p < o.parts.length) (hpl : o.parts.length ≤ 1000) :
    Calls Try.prog 20 #[.agg #[.int .i64 words, .int .i64 used, .slice A all.length c], .int .i64 (i : Int), .int .i64 (p : Int), .agg #[.bool r.1, .int .i64 r.2]] w fun e w' =>
      ∃ A' c', e = .returned (.agg #[.int .i64 words, .int .i64 used, .slice A' all.length c']) ∧ RdObjs (fun b => T b ∨ w.heap.size ≤ b) w' A' (all.set i ⟨o.kind, o.tag, o.text, o.parts.set p r⟩) ∧ Chg (fun _ => False) w w' := by
  obtain ⟨i0, hi0, hz0, hz1, hz2⟩ := info_parts info51
  obtain ⟨j0, hj0, hy0, hy1, hy2⟩ := info_parts info35
  have hil : i < all.length := (List.getElem?_eq_some_iff.1 ho).1
  obtain ⟨fin, hfin, hrd, hps⟩ := h
  have hfl : fin.length = all.length := by rw [← hfin, List.length_map]
  have hgi : fin[i]? = some fin[i] := List.getElem?_eq_getElem (by omega)
  have hob : fin[i].2 = o := by
    have := ho
    rw [← hfin, List.getElem?_map, hgi] at this
    exact Option.some.inj this
  have hpi := hps _ (List.mem_of_getElem? hgi)
  obtain ⟨b, oo, hA, _, hc⟩ := hrd.flat (by intro e; have := congrArg List.length e; rw [oev_len, List.length_nil] at this; omega)
  have hcell : ∀ j v, j < 4 → (oev fin[i])[j]? = some v → w.cell? ⟨b, oo + i * 4 + j, none⟩ = some v := fun j v hj hv => by
    rw [Nat.add_assoc]
    exact hc _ _ ((flat_get oev 4 (fun _ => rfl) fin i j _ hgi hj).trans hv)
  have e0 : w.cell? ⟨b, oo + i * 4, none⟩ = _ := hcell 0 _ (by omega) rfl
  have e1 := hcell 1 _ (by omega) rfl
  have e2 := hcell 2 _ (by omega) rfl
  have e3 := hcell 3 _ (by omega) rfl
  obtain ⟨Pp, cpp, hv, hprd⟩ := hpi
  rw [hv] at e3
  rw [hob] at e0 e1 e2 e3 hprd
  have hone : ∀ u ∈ fin.flatMap oev, u.oneCell' = true := by
    intro u hu
    obtain ⟨q, hq, hu⟩ := List.mem_flatMap.1 hu
    obtain ⟨_, _, e, _⟩ := hps q hq
    exact oev_one q (by rw [e]; rfl) u hu
  have hrows : (fin.flatMap oev).length = all.length * 4 := by rw [oev_len, hfl]
  obtain ⟨ok, ot, ox, ps⟩ := o
  obtain ⟨r1, r2⟩ := r
  dsimp only at e0 e1 e2 e3 hprd hp hpl
  have HRD := hide hrd
  have HPS := hide hps
  have HPR := hide hprd
  have HONE := hide hone
  have HROW := hide hrows
  have HFIN := hide hfin
  have hps1 : (i : Int) < (all.length : Int) := by omega
  have hps2 : (p : Int) < (ps.length : Int) := by omega
  have hn0 : (ps.flatMap rfv).length = ps.length * 2 := rfv_len ps
  subst hA
  clear hrd hps hprd hone hrows hfin hc hcell hv hob hgi ho
  have hw3 := (((Chg.refl (fun _ => False) w).alloc (.cells #[.int .i64 words, .int .i64 used, .slice (some ⟨b, oo, none⟩) all.length c] 45)).alloc (.cells #[.bool r1, .int .i64 r2] 51)).alloc (.cells #[.int .i64 0, .int .i64 0, .slice none 0 0] 45)
  have e0 := cell_old e0 hw3
  have e1 := cell_old e1 hw3
  have e2 := cell_old e2 hw3
  have e3 := cell_old e3 hw3
  have HW3 := hide hw3
  obtain ⟨W3, hW3⟩ : ∃ W, W = (((w.alloc (.cells #[.int .i64 words, .int .i64 used, .slice (some ⟨b, oo, none⟩) all.length c] 45)).alloc (.cells #[.bool r1, .int .i64 r2] 51)).alloc (.cells #[.int .i64 0, .int .i64 0, .slice none 0 0] 45)) := ⟨_, rfl⟩
  have hP0 : Blk W3 w.heap.size 45 #[.int .i64 words, .int .i64 used, .slice (some ⟨b, oo, none⟩) all.length c] := by rw [hW3]; exact ((Blk.new w 45 _).alloc _).alloc _
  have hP1 : Blk W3 (w.heap.size + 1) 51 #[.bool r1, .int .i64 r2] := by rw [hW3]; exact (Blk.new_at (w.alloc (.cells #[.int .i64 words, .int .i64 used, .slice (some ⟨b, oo, none⟩) all.length c] 45)) _ 51 _ (by simp)).alloc _
  have hP2 : Blk W3 (w.heap.size + 1 + 1) 45 #[.int .i64 0, .int .i64 0, .slice none 0 0] := by rw [hW3]; exact Blk.new_at ((w.alloc (.cells #[.int .i64 words, .int .i64 used, .slice (some ⟨b, oo, none⟩) all.length c] 45)).alloc (.cells #[.bool r1, .int .i64 r2] 51)) _ 45 _ (by simp)
  have hs3 : W3.heap.size = w.heap.size + 1 + 1 + 1 := by rw [hW3]; simp
  have HP0 := hide hP0
  have HP1 := hide hP1
  have HP2 := hide hP2
  have HS3 := hide hs3
  have HWE := hide hW3
  clear hw3 hP0 hP1 hP2 hs3 hW3
  have hmx1 : 0 + ps.length ≤ maxLen := by simp only [maxLen]; omega
  go_enter Try.func20, Try.ntmps20
  go_upto_region 2 with fail
  rw [← unhide HWE]
  have h4 : Chg (fun _ => False) w (W3.alloc (.cells #[.int .i64 ok, .int .i64 ot, .string ox, .slice Pp ps.length cpp] 35)) := by rw [unhide HWE]; exact (unhide HW3).alloc _
  have q0 := (unhide HP0).alloc (.cells #[.int .i64 ok, .int .i64 ot, .string ox, .slice Pp ps.length cpp] 35)
  have q1 := (unhide HP1).alloc (.cells #[.int .i64 ok, .int .i64 ot, .string ox, .slice Pp ps.length cpp] 35)
  have q2 := (unhide HP2).alloc (.cells #[.int .i64 ok, .int .i64 ot, .string ox, .slice Pp ps.length cpp] 35)
  have q3 := Blk.new_at W3 (w.heap.size + 1 + 1 + 1) 35 #[.int .i64 ok, .int .i64 ot, .string ox, .slice Pp ps.length cpp] (unhide HS3).symm
  have hs4 : (W3.alloc (.cells #[.int .i64 ok, .int .i64 ot, .string ox, .slice Pp ps.length cpp] 35)).heap.size = w.heap.size + 4 := by rw [size_alloc, unhide HS3]
  clear e0 e1 e2 e3
  generalize W3.alloc (.cells #[.int .i64 ok, .int .i64 ot, .string ox, .slice Pp ps.length cpp] 35) = w4 at *
  have o4 := World.ownsRow_made (base := w.heap.size + 4) (e := 51) (size := 2) w4 #[] 0 (by omega) (Nat.zero_le _) rfl
  rw [hs4] at o4
  have c33 := (q3.alloc (.cells #[] 51)).cell 3
  simp only [List.getElem?_toArray, List.getElem?_cons_zero, List.getElem?_cons_succ] at c33
  have r4 := ((unhide HPR).chg h4 (fun _ _ _ => id)).chg ((Chg.refl (fun _ => False) w4).alloc (.cells #[] 51)) (fun _ _ _ => id)
  have n4 : Chg (fun k => w.heap.size + 4 ≤ k) w4 (w4.alloc (.cells #[] 51)) := (Chg.refl _ w4).alloc _
  have H4 := hide h4
  have Q0 := hide q0
  have Q1 := hide q1
  have Q2 := hide q2
  have Q3 := hide q3
  have HO4 := hide o4
  have HR4 := hide r4
  have HN4 := hide n4
  have hb4 : w.heap.size + 4 ≤ (w4.alloc (.cells #[] 51)).heap.size := by rw [size_alloc]; omega
  clear h4 q0 q1 q2 q3 o4 r4 n4 HWE HP0 HP1 HP2 HW3
  have hmx2 : (0 + ps.length) * 16 ≤ 140737488355328 := by omega
  go_cut [10] from 17 to 20 (fun v wx => ∃ g cap cur, v = .slice (some ⟨g, 0, none⟩) ps.length cap ∧ w.heap.size + 4 ≤ g ∧ Blk wx g 51 cur ∧ Pre cur (ps.flatMap rfv) ∧ Chg (fun k => w.heap.size + 4 ≤ k) w4 wx)
  case first =>
    go_wp2_with (at_builtin
                 refine wpList_append_rd _ rfl (.tmp 17) (.tmp 19) 33 rfl (w.heap.size + 4) 51 i0 _ 2 16 Try.underlying33 hi0 hz0 hz1 hz2 rfl (by omega) (.slice (some ⟨w.heap.size + 4, 0, none⟩) 0 0) 0 [] rfl (unhide HO4) T Pp ps.length cpp (ps.flatMap rfv) rfl hn0 (unhide HR4) (rfv_onel ps) hmx1 hmx2 hb4 ?_
                 intro v5 w5 ho5 hc5 hat5
                 have HO5 := hide ho5
                 have HC5 := hide hc5
                 clear ho5 hc5 hat5)
    go_meet
    case rel =>
      have ho5 := unhide HO5
      rw [Nat.zero_add, List.nil_append] at ho5
      obtain ⟨g, cap, cur, rfl, hg, hgb, hpre⟩ := own_blk ho5 (by omega)
      exact ⟨g, cap, cur, rfl, hg, hgb, hpre, (unhide HN4).trans (unhide HC5) (fun k _ hk => by simp [Value.ownBlock] at hk; omega)⟩
  case rest =>
  obtain ⟨g, cap, cur, rfl, hg, hgb, hpre, hc5⟩ := hcut
  have q0 := (unhide Q0).chg hc5 (by omega)
  have q1 := (unhide Q1).chg hc5 (by omega)
  have q2 := (unhide Q2).chg hc5 (by omega)
  have q3 := (unhide Q3).chg hc5 (by omega)
  have x0 := flat_get rfv 2 (fun _ => rfl) ps p 0 _ (List.getElem?_eq_getElem hp) (by omega)
  have x1 := flat_get rfv 2 (fun _ => rfl) ps p 1 _ (List.getElem?_eq_getElem hp) (by omega)
  have y0 : wc.cell? ⟨g, p * 2, none⟩ = _ := hgb.cell' (hpre _ _ x0)
  have y1 : wc.cell? ⟨g, p * 2 + 1, none⟩ = _ := hgb.cell' (hpre _ _ x1)
  have z0 := hgb.frozen (p * 2)
  have z1 := hgb.frozen (p * 2 + 1)
  have c10 := q1.cell 0
  have c11 := q1.cell 1
  simp only [List.getElem?_toArray, List.getElem?_cons_zero, List.getElem?_cons_succ] at c10 c11
  have hgw : ¬ w.heap.size + 4 ≤ w.heap.size := by omega
  have H5 := hide ((unhide H4).trans hc5 (S := fun _ => False) (fun k h1 h2 => by omega))
  have HG := hide hgb
  have HPRE := hide hpre
  have R0 := hide q0
  have R2 := hide q2
  have R3 := hide q3
  clear hc5 q0 q1 q2 q3 x0 x1 hgb hpre HO4 HR4 HN4 Q0 Q1 Q2 Q3 c33
  go_upto_region 4 with fail
  have hpre6 : Pre ((cur.setIfInBounds (p * 2) (.bool r1)).setIfInBounds (p * 2 + 1) (.int .i64 r2)) ((ps.set p (r1, r2)).flatMap rfv) := by
    rw [← rfv_set ps p (r1, r2)]
    exact ((unhide HPRE).set _ _).set _ _
  have g6 : Blk ((wc.setCell ⟨g, p * 2, none⟩ (.bool r1)).setCell ⟨g, p * 2 + 1, none⟩ (.int .i64 r2)) g 51 _ := ((unhide HG).set_ (p * 2) (.bool r1)).set_ (p * 2 + 1) (.int .i64 r2)
  have n6 : Chg (fun k => w.heap.size + 4 ≤ k) wc ((wc.setCell ⟨g, p * 2, none⟩ (.bool r1)).setCell ⟨g, p * 2 + 1, none⟩ (.int .i64 r2)) := ((Chg.refl _ wc).setCell (fun _ => hg) _).setCell (fun _ => hg) _
  have h6 : Chg (fun _ => False) w ((wc.setCell ⟨g, p * 2, none⟩ (.bool r1)).setCell ⟨g, p * 2 + 1, none⟩ (.int .i64 r2)) := (unhide H5).trans n6 (fun k h1 h2 => by omega)
  have q0 := (unhide R0).chg n6 (by omega)
  have q2 := (unhide R2).chg n6 (by omega)
  have q3 := (unhide R3).chg n6 (by omega)
  have gl := g6.lt
  clear n6 y0 y1 z0 z1 c10 c11 R0 R2 R3 H5 HG HPRE
  generalize (wc.setCell ⟨g, p * 2, none⟩ (.bool r1)).setCell ⟨g, p * 2 + 1, none⟩ (.int .i64 r2) = w6 at *
  generalize (cur.setIfInBounds (p * 2) (.bool r1)).setIfInBounds (p * 2 + 1) (.int .i64 r2) = cur6 at *
  have c33 := q3.cell 3
  have f33 := q3.frozen 3
  simp only [List.getElem?_toArray, List.getElem?_cons_zero, List.getElem?_cons_succ] at c33
  have Q0 := hide q0
  have Q2 := hide q2
  have Q3 := hide q3
  have HG := hide g6
  have HPRE := hide hpre6
  have H6 := hide h6
  clear q0 q2 q3 g6 hpre6 h6
  go_upto_region 5 with fail
  have n7 : Chg (fun k => k = w.heap.size + 1 + 1 + 1) w6 (w6.setCell ⟨w.heap.size + 1 + 1 + 1, 3, none⟩ (.slice (some ⟨g, 0, none⟩) ps.length cap)) := (Chg.refl (fun k => k = w.heap.size + 1 + 1 + 1) w6).setCell (fun _ => rfl) _
  have q0 := (unhide Q0).chg n7 (by omega)
  have q2 := (unhide Q2).chg n7 (by omega)
  have q3 : Blk (w6.setCell ⟨w.heap.size + 1 + 1 + 1, 3, none⟩ (.slice (some ⟨g, 0, none⟩) ps.length cap)) (w.heap.size + 1 + 1 + 1) 35 #[.int .i64 ok, .int .i64 ot, .string ox, .slice (some ⟨g, 0, none⟩) ps.length cap] := (unhide Q3).set_ 3 _
  have g7 := (unhide HG).chg n7 (by omega)
  have h7 := (unhide H6).trans n7 (S := fun _ => False) (fun k h1 h2 => by omega)
  have hs7 := n7.size
  clear n7 c33 f33 Q0 Q2 Q3 HG H6
  generalize w6.setCell ⟨w.heap.size + 1 + 1 + 1, 3, none⟩ (.slice (some ⟨g, 0, none⟩) ps.length cap) = w7 at *
  have hw7 : w.heap.size + 4 ≤ w7.heap.size := by have := g7.lt; omega
  have o7 := World.ownsRow_made (base := w7.heap.size) (e := 35) (size := 4) w7 #[] 0 (Nat.le_refl _) (Nat.zero_le _) rfl
  have c02 := (q0.alloc (.cells #[] 35)).cell 2
  simp only [List.getElem?_toArray, List.getElem?_cons_zero, List.getElem?_cons_succ] at c02
  have r7 := ((unhide HRD).chg h7 (fun _ _ _ => id)).chg ((Chg.refl (fun _ => False) w7).alloc (.cells #[] 35)) (fun _ _ _ => id)
  have n7 : Chg (fun k => w7.heap.size ≤ k) w7 (w7.alloc (.cells #[] 35)) := (Chg.refl _ w7).alloc _
  have Q0 := hide q0
  have Q2 := hide q2
  have Q3 := hide q3
  have HG := hide g7
  have H7 := hide h7
  have HO7 := hide o7
  have HR7 := hide r7
  have HN7 := hide n7
  have hb7 : w7.heap.size ≤ (w7.alloc (.cells #[] 35)).heap.size := by rw [size_alloc]; omega
  have hmx3 : 0 + all.length ≤ maxLen := by simp only [maxLen]; omega
  have hmx4 : (0 + all.length) * 56 ≤ 140737488355328 := by omega
  clear q0 q2 q3 g7 h7 o7 r7 n7
  go_cut [11] from 27 to 30 (fun v wx => ∃ g2 cap2 cur2, v = .slice (some ⟨g2, 0, none⟩) all.length cap2 ∧ w7.heap.size ≤ g2 ∧ Blk wx g2 35 cur2 ∧ Pre cur2 (fin.flatMap oev) ∧ Chg (fun k => w7.heap.size ≤ k) w7 wx)
  case first =>
    go_wp2_with (at_builtin
                 refine wpList_append_rd _ rfl (.tmp 27) (.tmp 29) 43 rfl w7.heap.size 35 j0 _ 4 56 Try.underlying43 hj0 hy0 hy1 hy2 rfl (by omega) (.slice (some ⟨w7.heap.size, 0, none⟩) 0 0) 0 [] rfl (unhide HO7) T (some ⟨b, oo, none⟩) all.length c (fin.flatMap oev) rfl (unhide HROW) (unhide HR7) (unhide HONE) hmx3 hmx4 hb7 ?_
                 intro v8 w8 ho8 hc8 hat8
                 have HO8 := hide ho8
                 have HC8 := hide hc8
                 clear ho8 hc8 hat8)
    go_meet
    case rel =>
      have ho8 := unhide HO8
      rw [Nat.zero_add, List.nil_append] at ho8
      obtain ⟨g2, cap2, cur2, rfl, hg2, hgb2, hpre2⟩ := own_blk ho8 (by omega)
      exact ⟨g2, cap2, cur2, rfl, hg2, hgb2, hpre2, (unhide HN7).trans (unhide HC8) (fun k _ hk => by simp [Value.ownBlock] at hk; omega)⟩
  case rest =>
  obtain ⟨g2, cap2, cur2, rfl, hg2, hgb2, hpre2, hc8⟩ := hcut
  have q0 := (unhide Q0).chg hc8 (by omega)
  have q2 := (unhide Q2).chg hc8 (by omega)
  have q3 := (unhide Q3).chg hc8 (by omega)
  have g8 := (unhide HG).chg hc8 (by omega)
  have hgi : fin[i]? = some fin[i] := List.getElem?_eq_getElem (by omega)
  have xg := fun j (hj : j < 4) => flat_get oev 4 (fun _ => rfl) fin i j _ hgi hj
  have y0 : wc.cell? ⟨g2, i * 4, none⟩ = _ := hgb2.cell' (hpre2 _ _ (xg 0 (by omega)))
  have y1 : wc.cell? ⟨g2, i * 4 + 1, none⟩ = _ := hgb2.cell' (hpre2 _ _ (xg 1 (by omega)))
  have y2 : wc.cell? ⟨g2, i * 4 + 2, none⟩ = _ := hgb2.cell' (hpre2 _ _ (xg 2 (by omega)))
  have y3 : wc.cell? ⟨g2, i * 4 + 3, none⟩ = _ := hgb2.cell' (hpre2 _ _ (xg 3 (by omega)))
  have z0 := hgb2.frozen (i * 4)
  have z1 := hgb2.frozen (i * 4 + 1)
  have z2 := hgb2.frozen (i * 4 + 2)
  have z3 := hgb2.frozen (i * 4 + 3)
  have c00 := q0.cell 0
  have c01 := q0.cell 1
  have c02 := q0.cell 2
  have f02 := q0.frozen 2
  have c20 := q2.cell 0
  have c21 := q2.cell 1
  have c22 := q2.cell 2
  have f20 := q2.frozen 0
  have f21 := q2.frozen 1
  have f22 := q2.frozen 2
  have c30 := q3.cell 0
  have c31 := q3.cell 1
  have c32 := q3.cell 2
  have c33 := q3.cell 3
  simp only [List.getElem?_toArray, List.getElem?_cons_zero, List.getElem?_cons_succ] at c00 c01 c02 c20 c21 c22 c30 c31 c32 c33
  have ne0 : ¬ g2 = w.heap.size := by omega
  have ne1 : ¬ w.heap.size = g2 := by omega
  have ne2 : ¬ g2 = w.heap.size + 1 + 1 := by omega
  have ne3 : ¬ w.heap.size + 1 + 1 = g2 := by omega
  have ne4 : ¬ w.heap.size = w.heap.size + 1 + 1 := by omega
  have ne5 : ¬ w.heap.size + 1 + 1 = w.heap.size := by omega
  have hpre9 : Pre ((((cur2.setIfInBounds (i * 4) (.int .i64 ok)).setIfInBounds (i * 4 + 1) (.int .i64 ot)).setIfInBounds (i * 4 + 2) (.string ox)).setIfInBounds (i * 4 + 3) (.slice (some ⟨g, 0, none⟩) ps.length cap)) ((fin.set i (.slice (some ⟨g, 0, none⟩) ps.length cap, ⟨ok, ot, ox, ps.set p (r1, r2)⟩)).flatMap oev) := by
    rw [← oev_set fin i]
    exact (((hpre2.set _ _).set _ _).set _ _).set _ _
  have h9 := (unhide H7).trans hc8 (S := fun _ => False) (fun k h1 h2 => by omega)
  have HG2 := hide hgb2
  have HGB := hide g8
  have HPRE2 := hide hpre9
  have H9 := hide h9
  have hwz : w.heap.size + 4 ≤ g2 := by omega
  clear xg hgi q0 q2 q3 g8 hgb2 hpre2 hpre9 h9 hc8 Q0 Q2 Q3 HG H7 HO7 HR7 HN7
  go_wp2_with fail
  have hr4 := ((((unhide HG2).set_ (i * 4) (.int .i64 ok)).set_ (i * 4 + 1) (.int .i64 ot)).set_ (i * 4 + 2) (.string ox)).set_ (i * 4 + 3) (.slice (some ⟨g, 0, none⟩) ps.length cap)
  have hc4 : Chg (fun k => k = g2) wc ((((wc.setCell ⟨g2, i * 4, none⟩ (.int .i64 ok)).setCell ⟨g2, i * 4 + 1, none⟩ (.int .i64 ot)).setCell ⟨g2, i * 4 + 2, none⟩ (.string ox)).setCell ⟨g2, i * 4 + 3, none⟩ (.slice (some ⟨g, 0, none⟩) ps.length cap)) :=
    ((((Chg.refl (fun k => k = g2) wc).setCell (fun _ => rfl) _).setCell (fun _ => rfl) _).setCell (fun _ => rfl) _).setCell (fun _ => rfl) _
  refine bodyPost_ret (v := .agg #[.int .i64 words, .int .i64 used, .slice (some ⟨g2, 0, none⟩) all.length cap2]) (by simp [results, Try.results20, go_sem, c20, c21, c22]) rfl ?_
  clear y0 y1 y2 y3 z0 z1 z2 z3 c00 c01 c02 f02 c20 c21 c22 f20 f21 f22 c30 c31 c32
  generalize (((wc.setCell ⟨g2, i * 4, none⟩ (.int .i64 ok)).setCell ⟨g2, i * 4 + 1, none⟩ (.int .i64 ot)).setCell ⟨g2, i * 4 + 2, none⟩ (.string ox)).setCell ⟨g2, i * 4 + 3, none⟩ (.slice (some ⟨g, 0, none⟩) ps.length cap) = w10 at *
  have hc5 : Chg (fun k => k = w.heap.size ∨ k = w.heap.size + 1 + 1) w10 ((((w10.setCell ⟨w.heap.size, 2, none⟩ (.slice (some ⟨g2, 0, none⟩) all.length cap2)).setCell ⟨w.heap.size + 1 + 1, 0, none⟩ (.int .i64 words)).setCell ⟨w.heap.size + 1 + 1, 1, none⟩ (.int .i64 used)).setCell ⟨w.heap.size + 1 + 1, 2, none⟩ (.slice (some ⟨g2, 0, none⟩) all.length cap2)) := by
    repeat (first | exact Chg.refl _ _ | refine Chg.setCell ?_ (fun _ => .inl rfl) _ | refine Chg.setCell ?_ (fun _ => .inr rfl) _)
  have hall := ((unhide H9).trans hc4 (S := fun _ => False) (fun k h1 h2 => by omega)).trans hc5 (S := fun _ => False) (fun k h1 h2 => by omega)
  have hg := ((unhide HGB).chg hc4 (by omega)).chg hc5 (by omega)
  have hg2 := hr4.chg hc5 (by omega)
  refine ⟨some ⟨g2, 0, none⟩, cap2, rfl, ⟨fin.set i (.slice (some ⟨g, 0, none⟩) ps.length cap, ⟨ok, ot, ox, ps.set p (r1, r2)⟩), ?_, ?_, ?_⟩, hall⟩
  · rw [List.map_set, unhide HFIN]
  · exact (Rd.blk hg2 (unhide HPRE2)).mono (fun k hk => .inr (by omega))
  · intro q hq
    rcases List.mem_or_eq_of_mem_set hq with hq | rfl
    · exact ((unhide HPS q hq).chg hall (fun _ _ _ => id)).mono (fun _ h => .inl h)
    · exact ⟨some ⟨g, 0, none⟩, cap, by simp, (Rd.blk hg (unhide HPRE)).mono (fun k hk => .inr (by omega))⟩
end Go.Proofs.Ytlgkgglecgdkgaa
