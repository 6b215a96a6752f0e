/-
  Layer 17, the document's side: what a line is: where it has no words, or tells a label.
-/
import Derived.Test.YtgonllogaiiicaaDoorRra
import Derived.Deep.RegionHeld3
namespace Go.Proofs.YtgonllogaiiicaaDoor
open Go.RowKit
set_option maxHeartbeats 4000000
set_option maxRecDepth 100000
/-- A line, as a value. -/
def lnV (x : Ln) : Value := .agg #[.int .i64 (x.kind : Int), .string ⟨x.label.toArray⟩, .int .i64 (x.at_ : Int), .int .i64 x.i.op, .int .i64 x.i.a, .int .i64 x.i.b]
def zero6 : Array Value := #[.int .i64 0, .string ⟨#[]⟩, .int .i64 0, .int .i64 0, .int .i64 0, .int .i64 0]
/-- Six cells set. -/
def put6 (W : World) (g : Nat) (v0 v1 v2 v3 v4 v5 : Value) : World := (((((W.setCell ⟨g, 0, none⟩ v0).setCell ⟨g, 1, none⟩ v1).setCell ⟨g, 2, none⟩ v2).setCell ⟨g, 3, none⟩ v3).setCell ⟨g, 4, none⟩ v4).setCell ⟨g, 5, none⟩ v5
theorem put6_blk {W : World} {g : Nat} {a0 a1 a2 a3 a4 a5 : Value} {t : TypeId} (h : Blk W g t #[a0, a1, a2, a3, a4, a5]) (v0 v1 v2 v3 v4 v5 : Value) : Blk (put6 W g v0 v1 v2 v3 v4 v5) g t #[v0, v1, v2, v3, v4, v5] :=
  (((((h.set_ 0 v0).set_ 1 v1).set_ 2 v2).set_ 3 v3).set_ 4 v4).set_ 5 v5
theorem put6_chg {w W : World} {g : Nat} (h : Chg (fun _ => False) w W) (hg : w.heap.size ≤ g) (v0 v1 v2 v3 v4 v5 : Value) : Chg (fun _ => False) w (put6 W g v0 v1 v2 v3 v4 v5) :=
  have H : ∀ {x : Prop} (i : Nat), (⟨g, i, none⟩ : Addr).block < w.heap.size → x := fun i hi => by
    have : g < w.heap.size := hi
    omega
  (((((h.setCell (H 0) v0).setCell (H 1) v1).setCell (H 2) v2).setCell (H 3) v3).setCell (H 4) v4).setCell (H 5) v5
theorem line_res' {V : World} {g : Nat} {v0 v1 v2 v3 v4 v5 : Value} (hb : Blk V g 44 #[v0, v1, v2, v3, v4, v5]) (tmps : Array Value) (ht : tmps.getD 2 undef = .pointer (some ⟨g, 0, none⟩)) :
    (results Tryd.f19 tmps).run Tryd.prog V = .ok (.agg #[v0, v1, v2, v3, v4, v5]) V := by
  have x0 := hb.cell 0
  have x1 := hb.cell 1
  have x2 := hb.cell 2
  have x3 := hb.cell 3
  have x4 := hb.cell 4
  have x5 := hb.cell 5
  simp only [List.getElem?_toArray, List.getElem?_cons_zero, List.getElem?_cons_succ] at x0 x1 x2 x3 x4 x5
  rw [Array.getD_eq_getD_getElem?] at ht
  simp [results, Tryd.results19, go_sem, ht, x0, x1, x2, x3, x4, x5]
theorem line_res {W : World} {g : Nat} {a0 a1 a2 a3 a4 a5 : Value} (h : Blk W g 44 #[a0, a1, a2, a3, a4, a5]) (tmps : Array Value) (ht : tmps.getD 2 undef = .pointer (some ⟨g, 0, none⟩)) (v0 v1 v2 v3 v4 v5 : Value) :
    (results Tryd.f19 tmps).run Tryd.prog (put6 W g v0 v1 v2 v3 v4 v5) = .ok (.agg #[v0, v1, v2, v3, v4, v5]) (put6 W g v0 v1 v2 v3 v4 v5) := line_res' (put6_blk h v0 v1 v2 v3 v4 v5) tmps ht
theorem Blk.all6 {W : World} {g : Nat} {t : TypeId} {a0 a1 a2 a3 a4 a5 : Value} (h : Blk W g t #[a0, a1, a2, a3, a4, a5]) :
    (W.cell? ⟨g, 0, none⟩ = some a0 ∧ W.cell? ⟨g, 1, none⟩ = some a1 ∧ W.cell? ⟨g, 2, none⟩ = some a2 ∧ W.cell? ⟨g, 3, none⟩ = some a3 ∧ W.cell? ⟨g, 4, none⟩ = some a4 ∧ W.cell? ⟨g, 5, none⟩ = some a5) ∧
    (W.frozen? ⟨g, 0, none⟩ = false ∧ W.frozen? ⟨g, 1, none⟩ = false ∧ W.frozen? ⟨g, 2, none⟩ = false ∧ W.frozen? ⟨g, 3, none⟩ = false ∧ W.frozen? ⟨g, 4, none⟩ = false ∧ W.frozen? ⟨g, 5, none⟩ = false) :=
  ⟨⟨h.cell 0, h.cell 1, h.cell 2, h.cell 3, h.cell 4, h.cell 5⟩, h.frozen 0, h.frozen 1, h.frozen 2, h.frozen 3, h.frozen 4, h.frozen 5⟩
theorem read1_nil (s : ByteArray) (w : World) (hs : s.size ≤ 100000000) (hw : wordsL s.data.toList = []) :
    Calls Tryd.prog 19 #[.string s] w fun e w' => e = .returned (lnV (readL s.data.toList)) ∧ Chg (fun _ => False) w w' := by
  have hx : readL s.data.toList = ⟨1, [], 0, ⟨0, 0, 0⟩⟩ := by unfold readL; rw [hw]; rfl
  rw [hx]
  have HW := hide (fun W => refWords_any s W hs)
  rw [hw] at HW
  have HC0 := hide ((Chg.refl (fun _ => False) w).alloc (.cells zero6 44))
  go_enter Tryd.func19, Tryd.ntmps19
  go_wp2_with (go_at_call 42; (with_reducible refine (unhide HW _).mono ?_); rintro e w2 ⟨A, c, rfl, hr, hc2⟩; have HC2 := hide hc2; have HK := hide ((Blk.new w 44 zero6).chg hc2 id); (obtain ⟨⟨y0, y1, y2, y3, y4, y5⟩, z0, z1, z2, z3, z4, z5⟩ := (unhide HK).all6); clear hr hc2)
  exact bodyPost_ret (line_res (unhide HK) _ rfl _ _ _ _ _ _) rfl ⟨rfl, put6_chg ((unhide HC0).trans' (unhide HC2)) (Nat.le_refl _) _ _ _ _ _ _⟩
/-- What the walks need of a line's first word. -/
theorem read1_tells (s : ByteArray) (w : World) (hs : s.size ≤ 100000000) (s0 : Bs) (p0 : Nat) (rest : List (Bs × Nat)) (hw : wordsL s.data.toList = (s0, p0) :: rest) (hl : s0.getLast? = some 58) :
    Calls Tryd.prog 19 #[.string s] w fun e w' => e = .returned (lnV (readL s.data.toList)) ∧ Chg (fun _ => False) w w' := by
  have hx : readL s.data.toList = if rest = [] ∧ labelB s0.dropLast = true then ⟨2, s0.dropLast, p0, ⟨0, 0, 0⟩⟩ else wrongL := by unfold readL; rw [hw]; exact if_pos hl
  have hwl := wordsL_len s.data.toList
  obtain ⟨hm1, hm2, hm3⟩ : s0 ≠ [] ∧ s0.length ≤ s.size ∧ p0 ≤ s.size := wordsL_mem (s := s.data.toList) (x := (s0, p0)) (by rw [hw]; simp)
  have hsl : s.data.toList.length = s.size := rfl
  have HW := hide (fun W => refWords_any s W hs)
  rw [hw] at HW hwl
  have HC0 := hide ((Chg.refl (fun _ => False) w).alloc (.cells zero6 44))
  obtain ⟨X, hX⟩ : ∃ X : ByteArray, ⟨s0.toArray⟩ = X := ⟨_, rfl⟩
  have hXd : X.data.toList = s0 := by rw [← hX]
  have hXs : X.size = s0.length := by rw [← hX]; simp [ByteArray.size]
  have hpos : 0 < X.size := by
    rw [hXs]
    exact List.length_pos_iff.2 hm1
  have hlast := last_byte hpos
  rw [hXd, hl] at hlast
  have hcut := cut_byte hpos
  rw [hXd] at hcut
  have hLB := refLabel_any (X.extract 0 (X.size - 1))
  obtain ⟨n, hn⟩ : ∃ n, X.size = n + 1 := ⟨X.size - 1, by omega⟩
  have hv58 : ∀ h : n < X.size, ((X[n]'h).toNat : Int) = 58 := by
    intro h
    have : X[X.size - 1]'(by omega) = X[n]'h := by congr 1; omega
    rw [← this, ← Option.some.inj hlast]; rfl
  rw [show X.size - 1 = n by omega] at hcut hLB
  have hLB2 := fun W => hLB W (by rw [hcut]; show s0.dropLast.toArray.size ≤ _; rw [List.size_toArray, List.length_dropLast]; omega)
  rw [hcut] at hLB2
  have hrl : rest.length ≤ 100000000 := by rw [List.length_cons] at hwl; omega
  have HE := hide hcut
  have HLB := hide hLB2
  have hdd : (ByteArray.data ⟨s0.dropLast.toArray⟩).toList = s0.dropLast := by simp
  rw [hdd] at HLB
  have hnb : n ≤ 1000000000 := by omega
  generalize s0.dropLast = L0 at *
  have hXX := hX
  have HX := hide hX
  clear hX hXX hLB hLB2 hm1 hXd hXs hlast hcut hwl hsl hw hdd
  generalize readL s.data.toList = R at *
  cases rest with
  | cons y rest =>
    have hR : R = wrongL := by rw [hx, if_neg (by simp)]
    rw [hR]
    clear hx hR
    go_enter Tryd.func19, Tryd.ntmps19
    go_wp2_with (go_at_call 42; (with_reducible refine (unhide HW _).mono ?_); rintro e w2 ⟨A, c, rfl, hr, hc2⟩; have HC2 := hide hc2; have HK := hide ((Blk.new w 44 zero6).chg hc2 id); (obtain ⟨⟨y0, y1, y2, y3, y4, y5⟩, z0, z1, z2, z3, z4, z5⟩ := (unhide HK).all6); (obtain ⟨b, o, rfl, hT, hat⟩ := words_at hr (by simp)); (have k0 := hat 0 _ rfl); rw [Nat.zero_mul, Nat.add_zero] at k0; obtain ⟨k1, k2⟩ := k0; rw [unhide HX] at k1; have HAT := hide hat; clear hat hr hc2)
    exact bodyPost_ret (line_res (unhide HK) _ rfl _ _ _ _ _ _) rfl ⟨rfl, put6_chg ((unhide HC0).trans' (unhide HC2)) (Nat.le_refl _) _ _ _ _ _ _⟩
  | nil =>
    cases hlb : labelB L0 with
    | false =>
      have hR : R = wrongL := by rw [hx, hlb, if_neg (by simp)]
      rw [hlb] at HLB
      rw [hR]
      clear hx hR hlb
      go_enter Tryd.func19, Tryd.ntmps19
      go_wp2_with (first
        | (go_at_call 42; (with_reducible refine (unhide HW _).mono ?_); rintro e w2 ⟨A, c, rfl, hr, hc2⟩; have HC2 := hide hc2; have HK := hide ((Blk.new w 44 zero6).chg hc2 id); (obtain ⟨⟨y0, y1, y2, y3, y4, y5⟩, z0, z1, z2, z3, z4, z5⟩ := (unhide HK).all6); (obtain ⟨b, o, rfl, hT, hat⟩ := words_at hr (by simp)); (have k0 := hat 0 _ rfl); rw [Nat.zero_mul, Nat.add_zero] at k0; obtain ⟨k1, k2⟩ := k0; rw [unhide HX] at k1; clear hat hr hc2)
        | (go_at_call 43; rw [unhide HE]; (with_reducible refine (unhide HLB _).mono ?_); rintro e w3 ⟨rfl, rfl⟩))
      exact bodyPost_ret (line_res (unhide HK) _ rfl _ _ _ _ _ _) rfl ⟨rfl, put6_chg ((unhide HC0).trans' (unhide HC2)) (Nat.le_refl _) _ _ _ _ _ _⟩
    | true =>
      have hR : R = ⟨2, L0, p0, ⟨0, 0, 0⟩⟩ := by rw [hx, hlb, if_pos (by simp)]
      rw [hlb] at HLB
      rw [hR]
      clear hx hR hlb
      go_enter Tryd.func19, Tryd.ntmps19
      go_wp2_with (first
        | (go_at_call 42; (with_reducible refine (unhide HW _).mono ?_); rintro e w2 ⟨A, c, rfl, hr, hc2⟩; have HC2 := hide hc2; have HK := hide ((Blk.new w 44 zero6).chg hc2 id); (obtain ⟨⟨y0, y1, y2, y3, y4, y5⟩, z0, z1, z2, z3, z4, z5⟩ := (unhide HK).all6); (obtain ⟨b, o, rfl, hT, hat⟩ := words_at hr (by simp)); (have k0 := hat 0 _ rfl); rw [Nat.zero_mul, Nat.add_zero] at k0; obtain ⟨k1, k2⟩ := k0; rw [unhide HX] at k1; clear hat hr hc2)
        | (go_at_call 43; rw [unhide HE]; (with_reducible refine (unhide HLB _).mono ?_); rintro e w3 ⟨rfl, rfl⟩))
      go_region
      go_wp2_with fail
      exact bodyPost_ret (line_res' (Blk.drew (put6_blk (unhide HK) (.int .i64 2) (.string (X.extract 0 n)) (.int .i64 (p0 : Int)) (.int .i64 0) (.int .i64 0) (.int .i64 0))) _ rfl) rfl ⟨retv (by rw [unhide HE]; rfl), Chg.drew (put6_chg ((unhide HC0).trans' (unhide HC2)) (Nat.le_refl _) _ _ _ _ _ _)⟩
end Go.Proofs.YtgonllogaiiicaaDoor
