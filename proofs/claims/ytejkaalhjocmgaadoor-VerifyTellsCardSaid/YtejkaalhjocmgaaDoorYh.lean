/-
  Layer 19: what the chapter's examples fix: the walk.
-/
import Derived.Test.YtejkaalhjocmgaaDoorYg
namespace Go.Proofs.YtejkaalhjocmgaaDoor
open Go.RowKit
set_option maxHeartbeats 1000000
set_option maxRecDepth 100000
theorem tell_two {x y : Int} {w w' : World} {e : Ending} (h : TellOut [x, y] w e w') : ∃ b o c, e = .returned (.slice (some ⟨b, o, none⟩) 2 c) ∧ w'.cell? ⟨b, o, none⟩ = some (.int .i64 x) ∧ w'.cell? ⟨b, o + 1, none⟩ = some (.int .i64 y) ∧ Chg (fun _ => False) w w' := by
  obtain ⟨v, rfl, h2, h3⟩ := h
  obtain ⟨A, c, rfl⟩ := h2.val
  obtain ⟨b, o, rfl, _, h4⟩ := h2.flat (by simp)
  exact ⟨b, o, c, rfl, h4 0 (by simp), h4 1 (by simp), h3⟩
theorem awake_any (w : World) (lay : Lay w) : Calls Tryd.prog 7 #[] w fun e w' => e = .returned (.bool true) ∧ Chg (fun _ => False) w w' := by
  have HL := hide (fun W (hW : Chg (fun _ => False) w W) => (lay.chg hW (fun _ _ => id) : Lay W))
  have HC0 := hide (Chg.refl (fun _ => False) w)
  clear lay
  go_enter Tryd.func7, Tryd.ntmps7
  go_upto_region 2 with fail
  have k1 : Blk (((w.alloc (.cells #[.bool false, .int .i64 1, .string ⟨#[]⟩] 46)).alloc (.cells #[.int .i64 1, .int .i64 0, .int .i64 0, .int .i64 0, .int .i64 0, .int .i64 0] 42)).alloc (.cells #[.slice (some ⟨w.heap.size, 0, none⟩) 1 1, .slice (some ⟨w.heap.size + 1, 0, none⟩) 2 2] 25)) w.heap.size 46 #[.bool false, .int .i64 1, .string ⟨#[]⟩] := ((Blk.new w _ _).alloc _).alloc _
  have k2 : Blk (((w.alloc (.cells #[.bool false, .int .i64 1, .string ⟨#[]⟩] 46)).alloc (.cells #[.int .i64 1, .int .i64 0, .int .i64 0, .int .i64 0, .int .i64 0, .int .i64 0] 42)).alloc (.cells #[.slice (some ⟨w.heap.size, 0, none⟩) 1 1, .slice (some ⟨w.heap.size + 1, 0, none⟩) 2 2] 25)) (w.heap.size + 1) 42 #[.int .i64 1, .int .i64 0, .int .i64 0, .int .i64 0, .int .i64 0, .int .i64 0] := (Blk.new_at _ _ _ _ (by simp)).alloc _
  have k3 : Blk (((w.alloc (.cells #[.bool false, .int .i64 1, .string ⟨#[]⟩] 46)).alloc (.cells #[.int .i64 1, .int .i64 0, .int .i64 0, .int .i64 0, .int .i64 0, .int .i64 0] 42)).alloc (.cells #[.slice (some ⟨w.heap.size, 0, none⟩) 1 1, .slice (some ⟨w.heap.size + 1, 0, none⟩) 2 2] 25)) (w.heap.size + 2) 25 #[.slice (some ⟨w.heap.size, 0, none⟩) 1 1, .slice (some ⟨w.heap.size + 1, 0, none⟩) 2 2] := Blk.new_at _ _ _ _ (by simp)
  have hc1 : Chg (fun _ => False) w (((w.alloc (.cells #[.bool false, .int .i64 1, .string ⟨#[]⟩] 46)).alloc (.cells #[.int .i64 1, .int .i64 0, .int .i64 0, .int .i64 0, .int .i64 0, .int .i64 0] 42)).alloc (.cells #[.slice (some ⟨w.heap.size, 0, none⟩) 1 1, .slice (some ⟨w.heap.size + 1, 0, none⟩) 2 2] 25)) := (((Chg.refl _ w).alloc _).alloc _).alloc _
  generalize (((w.alloc (.cells #[.bool false, .int .i64 1, .string ⟨#[]⟩] 46)).alloc (.cells #[.int .i64 1, .int .i64 0, .int .i64 0, .int .i64 0, .int .i64 0, .int .i64 0] 42)).alloc (.cells #[.slice (some ⟨w.heap.size, 0, none⟩) 1 1, .slice (some ⟨w.heap.size + 1, 0, none⟩) 2 2] 25)) = W1 at *
  have hp : Rd (fun _ => True) W1 (some ⟨w.heap.size, 0, none⟩) (mOne.pool.flatMap cstv) := (Rd.blk k1 (fun j u hj => by rw [List.getElem?_toArray]; exact hj)).mono (fun _ _ => trivial)
  have hc : Rd (fun _ => True) W1 (some ⟨w.heap.size + 1, 0, none⟩) (mOne.code.flatMap insv) := (Rd.blk k2 (fun j u hj => by rw [List.getElem?_toArray]; exact hj)).mono (fun _ _ => trivial)
  have hc3 : Rd (fun _ => True) W1 (some ⟨w.heap.size + 1, 3, none⟩) (mTwo.code.flatMap insv) := (Rd.sub k2 (fun j u hj => by
    match j, hj with
    | 0, hj => exact hj
    | 1, hj => exact hj
    | 2, hj => exact hj)).mono (fun _ _ => trivial)
  have lay1 := unhide HL W1 hc1
  have px : ∀ x ∈ mOne.pool, x.text.size ≤ 9223372036854775807 := by decide
  have HD := hide (fun W (hW : Chg (fun _ => False) W1 W) => show Calls Tryd.prog 10 #[.agg #[.slice (some ⟨w.heap.size, 0, none⟩) 1 1, .slice (some ⟨w.heap.size + 1, 0, none⟩) 2 2]] W fun e w' => ∃ b o c, e = .returned (.slice (some ⟨b, o, none⟩) 2 c) ∧ w'.cell? ⟨b, o, none⟩ = some (.int .i64 0) ∧ w'.cell? ⟨b, o + 1, none⟩ = some (.int .i64 1) ∧ Chg (fun _ => False) W w' from
    (depths_any mOne _ _ 1 2 _ _ W (hp.chg hW (fun _ _ _ => id)) (hc.chg hW (fun _ _ _ => id)) (by decide) (by decide) px (lay1.chg hW (fun _ _ => id))).mono (fun e w' h => tell_two (by rw [one_dep] at h; exact h)))
  have HO := hide (fun W (hW : Chg (fun _ => False) W1 W) => show Calls Tryd.prog 12 #[.agg #[.slice (some ⟨w.heap.size, 0, none⟩) 1 1, .slice (some ⟨w.heap.size + 1, 0, none⟩) 2 2]] W fun e w' => ∃ b o c, e = .returned (.slice (some ⟨b, o, none⟩) 2 c) ∧ w'.cell? ⟨b, o, none⟩ = some (.int .i64 (-1)) ∧ w'.cell? ⟨b, o + 1, none⟩ = some (.int .i64 (-1)) ∧ Chg (fun _ => False) W w' from
    (owners_any mOne _ _ 1 2 _ _ W (hp.chg hW (fun _ _ _ => id)) (hc.chg hW (fun _ _ _ => id)) (by decide) (by decide) px (lay1.chg hW (fun _ _ => id))).mono (fun e w' h => tell_two (by rw [one_own] at h; exact h)))
  have HV := hide (fun W (hW : Chg (fun _ => False) W1 W) => show Calls Tryd.prog 13 #[.agg #[.slice (some ⟨w.heap.size, 0, none⟩) 1 1, .slice (some ⟨w.heap.size + 1, 0, none⟩) 2 2]] W fun e w' => e = .returned (.int .i64 0) ∧ Chg (fun _ => False) W w' from
    (verify_any mOne _ _ 1 2 _ _ W (hp.chg hW (fun _ _ _ => id)) (hc.chg hW (fun _ _ _ => id)) (by decide) (by decide) px (lay1.chg hW (fun _ _ => id))).mono (fun e w' h => by rw [one_ver] at h; exact h))
  have HV2 := hide (fun W (hW : Chg (fun _ => False) W1 W) => show Calls Tryd.prog 13 #[.agg #[.slice none 0 0, .slice (some ⟨w.heap.size + 1, 3, none⟩) 1 1]] W fun e w' => e = .returned (.int .i64 190) ∧ Chg (fun _ => False) W w' from
    (verify_any mTwo none _ 0 1 (fun _ => True) _ W (Rd.nil_ _ _ _) (hc3.chg hW (fun _ _ _ => id)) (by decide) (by decide) (by decide) (lay1.chg hW (fun _ _ => id))).mono (fun e w' h => by rw [two_ver] at h; exact h))
  have HT := hide (fun W => show Calls Tryd.prog 15 #[.int .i64 11] W fun e w' => e = .returned (.int .i64 2) ∧ Chg (fun _ => False) W w' from takes_any 11 W)
  have HT2 := hide (fun W => show Calls Tryd.prog 15 #[.int .i64 14] W fun e w' => e = .returned (.int .i64 0) ∧ Chg (fun _ => False) W w' from takes_any 14 W)
  have x0 := k3.cell 0
  have x1 := k3.cell 1
  simp only [List.getElem?_toArray, List.getElem?_cons_zero, List.getElem?_cons_succ] at x0 x1
  have HK := hide k3
  have HC1 := hide hc1
  clear k1 k2 k3 hc1 hp hc hc3 lay1 px
  go_wp2_with (first
    | (go_at_call 10; refine (unhide HD _ (Chg.refl _ _)).mono ?_; rintro e w2 ⟨b, o, c, rfl, d0, d1, hch⟩; have hk := (unhide HK).chg hch id; have y0 := hk.cell 0; have y1 := hk.cell 1; simp only [List.getElem?_toArray, List.getElem?_cons_zero, List.getElem?_cons_succ] at y0 y1; have HC2 := hide hch; have HD1 := hide d1; clear hk hch d0 d1)
    | (go_at_call 12; refine (unhide HO _ (unhide HC2)).mono ?_; rintro e w3 ⟨b2, o2, c2, rfl, d0, d1, hch⟩; have hc3 := (unhide HC2).trans' hch; have hk := (unhide HK).chg hc3 id; have z0 := hk.cell 0; have z1 := hk.cell 1; simp only [List.getElem?_toArray, List.getElem?_cons_zero, List.getElem?_cons_succ] at z0 z1; have HC3 := hide hc3; have HD3 := hide ((hch.cell (p := ⟨b, o + 1, none⟩) (hat_lt (unhide HD1)) id).trans (unhide HD1)); have HE3 := hide d0; clear hk hch hc3 d0 d1)
    | (go_at_call 13; (with_reducible refine (unhide HV _ (unhide HC3)).mono ?_); rintro e w4 ⟨rfl, hch⟩; have hc4 := (unhide HC3).trans' hch; have hk := (unhide HK).chg hc4 id; have v0 := hk.cell 0; have v1 := hk.cell 1; simp only [List.getElem?_toArray, List.getElem?_cons_zero, List.getElem?_cons_succ] at v0 v1; have HC4 := hide hc4; have d4 := (hch.cell (p := ⟨b, o + 1, none⟩) (hat_lt (unhide HD3)) id).trans (unhide HD3); have e4 := (hch.cell (p := ⟨b2, o2, none⟩) (hat_lt (unhide HE3)) id).trans (unhide HE3); clear hk hch hc4)
    | (go_at_call 13; (with_reducible refine (unhide HV2 _ (unhide HC4)).mono ?_); rintro e w5 ⟨rfl, hch⟩; have HC5 := hide ((unhide HC4).trans' hch); clear hch)
    | (go_at_call 15; (with_reducible refine (unhide HT _).mono ?_); rintro e w6 ⟨rfl, hch⟩; have HC6 := hide ((unhide HC5).trans' hch); clear hch)
    | (go_at_call 15; (with_reducible refine (unhide HT2 _).mono ?_); rintro e w7 ⟨rfl, hch⟩; have HC7 := hide ((unhide HC6).trans' hch); clear hch))
  go_ret
  exact ⟨rfl, (unhide HC1).trans' (unhide HC7)⟩
end Go.Proofs.YtejkaalhjocmgaaDoor
