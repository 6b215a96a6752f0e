/-
  Walks of the reference's Num and of pick.
-/
import Derived.Test.YtlgkgglecgdkgaaActs
namespace Go.Proofs.Ytlgkgglecgdkgaa
open Go.RowKit
set_option maxHeartbeats 400000
set_option maxRecDepth 100000

theorem refNum_any (n : Int) (w : World) :
    Calls Try.prog 34 #[.int .i64 n] w fun e w' => e = .returned (.agg #[.bool true, .int .i64 (backV (u64n n))]) ∧ Chg (fun _ => False) w w' := by
  have H := hide (refWrap_any n)
  generalize backV (u64n n) = V at *
  go_enter Try.func34, Try.ntmps34
  go_wp2_with (go_at_call 9; refine (unhide H _).mono ?_; rintro e w' ⟨rfl, rfl⟩)
  exact bodyPost_ret (v := .agg #[.bool true, .int .i64 V]) (by simp [results, Try.results34, go_sem]) rfl ⟨rfl, by repeat (first | exact Chg.refl _ _ | refine Chg.setCell ?_ (fun h => by simp at h) _ | refine Chg.alloc ?_ _)⟩

theorem pick_num (n : Int) (A A2 : Option Addr) (m c m2 c2 : Nat) (w : World) (h : n < 0 ∨ m = 0) :
    Calls Try.prog 15 #[.int .i64 n, .slice A m c, .slice A2 m2 c2] w fun e w' =>
      e = .returned (.tuple #[.int .u64 ((numW n : Nat) : Int), .agg #[.bool true, .int .i64 (backV (u64n n))]]) ∧ Chg (fun _ => False) w w' := by
  have H1 := hide (num_any n)
  have H2 := hide (refNum_any n)
  generalize backV (u64n n) = V at *
  generalize numW n = N at *
  by_cases hn : n < 0
  · clear h
    go_enter Try.func15, Try.ntmps15
    go_wp2_with (first
      | (go_at_call 8; refine (unhide H1 _).mono ?_; rintro e w' ⟨rfl, rfl⟩)
      | (go_at_call 34; refine (unhide H2 _).mono ?_; rintro e w' ⟨rfl, hc⟩; have hb := (Blk.new w 51 #[.bool false, .int .i64 0]).chg hc (fun h => h); have q0 := hb.cell' (i := 0) rfl; have q1 := hb.cell' (i := 1) rfl; have f0 := hb.frozen 0; have f1 := hb.frozen 1; have Hb := hide hb; have Hc := hide hc; clear hb hc))
    refine bodyPost_ret (v := .tuple #[.int .u64 (N : Int), .agg #[.bool true, .int .i64 V]]) ?_ rfl ⟨rfl, ?_⟩
    · have h2 := ((unhide Hb).set_ 0 (.bool true)).set_ 1 (.int .i64 V)
      have z0 := h2.cell' (i := 0) rfl
      have z1 := h2.cell' (i := 1) rfl
      simp [results, Try.results15, go_sem, z0, z1]
    · have h0 := (Chg.refl (fun _ => False) w).alloc (.cells #[.bool false, .int .i64 0] 51)
      exact (((h0.trans' (unhide Hc)).setCell (fun h => by simp at h) _).setCell (fun h => by simp at h) _)
  · obtain rfl : m = 0 := by omega
    clear h
    go_enter Try.func15, Try.ntmps15
    go_wp2_with (first
      | (go_at_call 8; refine (unhide H1 _).mono ?_; rintro e w' ⟨rfl, rfl⟩)
      | (go_at_call 34; refine (unhide H2 _).mono ?_; rintro e w' ⟨rfl, hc⟩; have hb := (Blk.new w 51 #[.bool false, .int .i64 0]).chg hc (fun h => h); have q0 := hb.cell' (i := 0) rfl; have q1 := hb.cell' (i := 1) rfl; have f0 := hb.frozen 0; have f1 := hb.frozen 1; have Hb := hide hb; have Hc := hide hc; clear hb hc))
    refine bodyPost_ret (v := .tuple #[.int .u64 (N : Int), .agg #[.bool true, .int .i64 V]]) ?_ rfl ⟨rfl, ?_⟩
    · have h2 := ((unhide Hb).set_ 0 (.bool true)).set_ 1 (.int .i64 V)
      have z0 := h2.cell' (i := 0) rfl
      have z1 := h2.cell' (i := 1) rfl
      simp [results, Try.results15, go_sem, z0, z1]
    · have h0 := (Chg.refl (fun _ => False) w).alloc (.cells #[.bool false, .int .i64 0] 51)
      exact (((h0.trans' (unhide Hc)).setCell (fun h => by simp at h) _).setCell (fun h => by simp at h) _)

theorem pick_old (n : Nat) (words : List Nat) (refs : List (Bool × Int)) (A A2 : Option Addr) (c c2 : Nat) (w : World) (hn : n ≤ 9223372036854775807) (hl : words.length ≤ 1000000) (he : refs.length = words.length) (h0 : 0 < words.length)
    (hw : Rd (fun _ => True) w A (words.map wv)) (hr : Rd (fun _ => True) w A2 (refs.flatMap rfv)) :
    Calls Try.prog 15 #[.int .i64 (n : Int), .slice A words.length c, .slice A2 refs.length c2] w fun e w' =>
      e = .returned (.tuple #[.int .u64 ((words.getD (n % words.length) 0 : Nat) : Int), .agg #[.bool (refs.getD (n % words.length) (true, 0)).1, .int .i64 (refs.getD (n % words.length) (true, 0)).2]]) ∧ Chg (fun _ => False) w w' := by
  have hk : n % words.length < words.length := Nat.mod_lt _ h0
  obtain ⟨b, o, rfl, _, hc⟩ := hw.flat (by intro e; have := congrArg List.length e; rw [List.length_map, List.length_nil] at this; omega)
  obtain ⟨b2, o2, rfl, _, hc2⟩ := hr.flat (by intro e; have := congrArg List.length e; rw [rfv_len, List.length_nil] at this; omega)
  have g0 := hc _ _ (wv_at words hk)
  have hr2 : refs[n % words.length]? = some (refs.getD (n % words.length) (true, 0)) := by rw [List.getD_eq_getElem?_getD, List.getElem?_eq_getElem (by rw [he]; exact hk)]; rfl
  have g1 : w.cell? ⟨b2, o2 + n % words.length * 2, none⟩ = some (.bool (refs.getD (n % words.length) (true, 0)).1) := hc2 _ _ (flat_get rfv 2 (fun _ => rfl) refs _ 0 _ hr2 (by omega))
  have g2 : w.cell? ⟨b2, o2 + n % words.length * 2 + 1, none⟩ = some (.int .i64 (refs.getD (n % words.length) (true, 0)).2) := hc2 _ _ (flat_get rfv 2 (fun _ => rfl) refs _ 1 _ hr2 (by omega))
  rw [he]
  clear hw hr hc hc2 hr2
  have a0 := (World.cell?_alloc_lt w (.cells #[.bool false, .int .i64 0] 51) _ (block_lt_of_cell g0)).trans g0
  have a1 := (World.cell?_alloc_lt w (.cells #[.bool false, .int .i64 0] 51) _ (block_lt_of_cell g1)).trans g1
  have a2 := (World.cell?_alloc_lt w (.cells #[.bool false, .int .i64 0] 51) _ (block_lt_of_cell g2)).trans g2
  generalize refs.getD (n % words.length) (true, 0) = R at *
  obtain ⟨R1, R2⟩ := R
  generalize words.getD (n % words.length) 0 = V at *
  generalize words.length = L at *
  have ht : Int.tmod (n : Int) (L : Int) = ((n % L : Nat) : Int) := rfl
  generalize hK : n % L = K at *
  have HK := hide hK
  clear hK
  have hL0 : ((L : Int) == 0) = false := by rw [beq_eq_false_iff_ne]; omega
  have hn0 : decide ((n : Int) < 0) = false := decide_eq_false (by omega)
  go_enter Try.func15, Try.ntmps15
  go_wp2_with fail
  go_region
  go_wp2_with fail
  refine bodyPost_ret (v := .tuple #[.int .u64 (V : Int), .agg #[.bool R1, .int .i64 R2]]) ?_ rfl ⟨rfl, ?_⟩
  · simp [results, Try.results15, go_sem]
  · exact ((Chg.refl _ w).alloc _).drew
end Go.Proofs.Ytlgkgglecgdkgaa
