/-
  Layer 17: text.read: what a line is.
-/
import Derived.Test.YtgonllogaiiicaaDoorWi
import Derived.Test.YtgonllogaiiicaaDoorM03
import Derived.Test.YtgonllogaiiicaaDoorWd
namespace Go.Proofs.YtgonllogaiiicaaDoor
open Go.RowKit
set_option maxHeartbeats 4000000
set_option maxRecDepth 100000
/-- An instruction, as a value. -/
def insV (i : Ins) : Value := .agg #[.int .i64 i.op, .int .i64 i.a, .int .i64 i.b]
/-- What text.read hands back of a line. -/
def rdV (x : Ln) : Value := .tuple #[.int .i64 (x.kind : Int), .string ⟨x.label.toArray⟩, insV x.i]
def zero3 : Array Value := #[.int .i64 0, .int .i64 0, .int .i64 0]
theorem Blk.all3 {W : World} {g : Nat} {t : TypeId} {a0 a1 a2 : Value} (h : Blk W g t #[a0, a1, a2]) :
    (W.cell? ⟨g, 0, none⟩ = some a0 ∧ W.cell? ⟨g, 1, none⟩ = some a1 ∧ W.cell? ⟨g, 2, none⟩ = some a2) ∧ W.frozen? ⟨g, 0, none⟩ = false ∧ W.frozen? ⟨g, 1, none⟩ = false ∧ W.frozen? ⟨g, 2, none⟩ = false :=
  ⟨⟨h.cell 0, h.cell 1, h.cell 2⟩, h.frozen 0, h.frozen 1, h.frozen 2⟩
def put3 (W : World) (g : Nat) (v0 v1 v2 : Value) : World := ((W.setCell ⟨g, 0, none⟩ v0).setCell ⟨g, 1, none⟩ v1).setCell ⟨g, 2, none⟩ v2
theorem put3_blk {W : World} {g : Nat} {a0 a1 a2 : Value} {t : TypeId} (h : Blk W g t #[a0, a1, a2]) (v0 v1 v2 : Value) : Blk (put3 W g v0 v1 v2) g t #[v0, v1, v2] := ((h.set_ 0 v0).set_ 1 v1).set_ 2 v2
theorem put3_chg {w W : World} {g : Nat} (h : Chg (fun _ => False) w W) (hg : w.heap.size ≤ g) (v0 v1 v2 : Value) : Chg (fun _ => False) w (put3 W g v0 v1 v2) :=
  have H : ∀ {x : Prop} (i : Nat), (⟨g, i, none⟩ : Addr).block < w.heap.size → x := fun i hi => by
    have : g < w.heap.size := hi
    omega
  ((h.setCell (H 0) v0).setCell (H 1) v1).setCell (H 2) v2
theorem read_res {V : World} {g : Nat} {v0 v1 v2 : Value} (hb : Blk V g 42 #[v0, v1, v2]) (tmps : Array Value) (x y : Value) (h2 : tmps.getD 2 undef = x) (h3 : tmps.getD 3 undef = y) (h4 : tmps.getD 4 undef = .pointer (some ⟨g, 0, none⟩)) :
    (results Tryd.f41 tmps).run Tryd.prog V = .ok (.tuple #[x, y, .agg #[v0, v1, v2]]) V := by
  have x0 := hb.cell 0
  have x1 := hb.cell 1
  have x2 := hb.cell 2
  simp only [List.getElem?_toArray, List.getElem?_cons_zero, List.getElem?_cons_succ] at x0 x1 x2
  rw [Array.getD_eq_getD_getElem?] at h2 h3 h4
  simp [results, Tryd.results41, go_sem, h2, h3, h4, x0, x1, x2]
/-- The words of a line, as a row that is read. -/
theorem words_row (s : ByteArray) (w : World) (hl : Lay w) (hs : s.size ≤ 1000000000) : Calls Tryd.prog 47 #[.string s] w fun e W' =>
    ∃ A c, e = .returned (.slice A (wordsS s.data.toList).length c) ∧ (wordsS s.data.toList).length ≤ c ∧ Rd (fun k => w.heap.size ≤ k) W' A ((wordsS s.data.toList).map bv) ∧ Chg (fun _ => False) w W' :=
  (words_any s w hl (by omega)).mono fun e W' ⟨v, h1, h2, h3⟩ => by
    have hb : (wordsS s.data.toList).map bv = (wordsS s.data.toList).map fun b => Value.string ⟨b.toArray⟩ := rfl
    rw [← hb] at h2
    obtain ⟨A, c, rfl⟩ := own_val h2
    refine ⟨A, c, h1, ?_, (own_rd h2 (by decide)).mono (fun k hk => (h2.lt k hk).1), Chg.of_below h3 _⟩
    rcases h2.2 with ⟨e1, e2⟩ | ⟨g, cap, cur, e1, _, _, e4, _⟩
    · rw [e2]; exact Nat.zero_le _
    · injection e1 with e5 e6 e7
      rw [e7]; exact e4
theorem label_bs (b : Bs) (hb : b.length ≤ 1000000000) (W : World) : Calls Tryd.prog 58 #[.string ⟨b.toArray⟩] W fun e w' => e = .returned (.bool (labelB b)) ∧ Chg (fun _ => False) W w' := by
  have := label_any ⟨b.toArray⟩ W (by show b.toArray.size ≤ _; rw [List.size_toArray]; omega)
  rw [show (ByteArray.data ⟨b.toArray⟩).toList = b from by simp] at this
  exact this
theorem number_bs (b : Bs) (hb : b.length ≤ 1000000000) (W : World) : Calls Tryd.prog 60 #[.string ⟨b.toArray⟩] W fun e w' => e = .returned (.tuple #[.int .i64 (numP b).1, .bool (numP b).2]) ∧ Chg (fun _ => False) W w' := by
  have := number_any ⟨b.toArray⟩ W (by show b.toArray.size ≤ _; rw [List.size_toArray]; omega)
  rw [show (ByteArray.data ⟨b.toArray⟩).toList = b from by simp] at this
  exact this
theorem suffix_bs (b : Bs) (hb : b.length ≤ 1000000000) (W : World) : Calls Tryd.prog 57 #[.string ⟨b.toArray⟩, .string ⟨#[58]⟩] W fun e w' => e = .returned (.tuple #[.string ⟨(if b.getLast? = some 58 then b.dropLast else b).toArray⟩, .bool (decide (b.getLast? = some 58))]) ∧ W = w' := by
  have := Tryd.strings_CutSuffix ⟨b.toArray⟩ ⟨#[58]⟩ W (by show b.toArray.size ≤ _; rw [List.size_toArray]; omega)
  rw [show (ByteArray.data ⟨b.toArray⟩).toList = b from by simp, show (ByteArray.data ⟨#[58]⟩).toList = [58] from rfl, suffix_iff] at this
  refine this.mono fun e w' ⟨h1, h2⟩ => ⟨?_, h2.symm⟩
  rw [h1]
  by_cases h : b.getLast? = some 58
  · rw [suffix_cut b h, if_pos h]
  · rw [if_neg h, Lib.trimSuffix, suffix_iff, if_neg (by simpa using h)]
/-- The head of a row that is not empty. -/
theorem row_head {T : Nat → Prop} {w : World} {A : Option Addr} {x : Bs} {l : List Bs} (h : Rd T w A ((x :: l).map bv)) : ∃ b o, A = some ⟨b, o, none⟩ ∧ T b ∧ w.cell? ⟨b, o, none⟩ = some (.string ⟨x.toArray⟩) := by
  obtain ⟨b, o, hA, hT, hc⟩ := h.flat (by simp)
  exact ⟨b, o, hA, hT, by have := hc 0 (bv x) rfl; rw [Nat.add_zero] at this; exact this⟩
/-- What is behind the head. -/
theorem row_tail {T : Nat → Prop} {w : World} {b o c : Nat} {x : Bs} {l : List Bs} (h : Rd T w (some ⟨b, o, none⟩) ((x :: l).map bv)) (hc : l.length + 1 ≤ c) : Rd T w (if c = 1 then some ⟨b, o, none⟩ else some ⟨b, o + 1, none⟩) (l.map bv) := by
  intro hn
  have hl : 0 < l.length := by
    cases l with
    | nil => exact absurd rfl hn
    | cons y l => simp
  rw [if_neg (by omega)]
  obtain ⟨ad, e, hT, hx⟩ := h (by simp)
  injection e with e
  subst e
  refine ⟨_, rfl, hT, fun j u hu => ?_⟩
  have := hx (j + 1) u (by rw [List.map_cons, List.getElem?_cons_succ]; exact hu)
  rw [add_flat] at this ⊢
  rw [show o + 1 + j = o + (j + 1) by omega]
  exact this
theorem words_fst {s : Bs} {s0 : Bs} {p0 : Nat} {rest : List (Bs × Nat)} (h : wordsL s = (s0, p0) :: rest) : wordsS s = s0 :: rest.map Prod.fst := by unfold wordsS; rw [h]; rfl
theorem read_nil (s : ByteArray) (w : World) (hl : Lay w) (hs : s.size ≤ 1000000000) (hw : wordsL s.data.toList = []) :
    Calls Tryd.prog 41 #[.string s] w fun e w' => e = .returned (rdV (readL s.data.toList)) ∧ Chg (fun _ => False) w w' := by
  have hx : readL s.data.toList = ⟨1, [], 0, ⟨0, 0, 0⟩⟩ := by unfold readL; rw [hw]; rfl
  rw [hx]
  have hc0 := (Chg.refl (fun _ => False) w).alloc (.cells zero3 42)
  have HW := hide (words_row s (w.alloc (.cells zero3 42)) (hl.chg hc0 (fun _ _ => id)) hs)
  rw [show wordsS s.data.toList = [] by unfold wordsS; rw [hw]; rfl] at HW
  have HC0 := hide hc0
  clear hl hc0
  go_enter Tryd.func41, Tryd.ntmps41
  go_wp2_with (go_at_call 47; (refine (unhide HW).mono ?_); rintro e w2 ⟨A, c, rfl, hcc, hr, hc2⟩; have HC2 := hide hc2; have HK := hide ((Blk.new w 42 zero3).chg hc2 id); (obtain ⟨⟨y0, y1, y2⟩, z0, z1, z2⟩ := (unhide HK).all3); clear hr hc2 hcc)
  exact bodyPost_ret (read_res (put3_blk (unhide HK) _ _ _) _ _ _ rfl rfl rfl) rfl ⟨rfl, put3_chg ((unhide HC0).trans' (unhide HC2)) (Nat.le_refl _) _ _ _⟩
theorem read_tells (s : ByteArray) (w : World) (hl : Lay w) (hs : s.size ≤ 1000000000) (s0 : Bs) (p0 : Nat) (rest : List (Bs × Nat)) (hw : wordsL s.data.toList = (s0, p0) :: rest) (hc : s0.getLast? = some 58) :
    Calls Tryd.prog 41 #[.string s] w fun e w' => e = .returned (rdV (readL s.data.toList)) ∧ Chg (fun _ => False) w w' := by
  have hx : readL s.data.toList = if rest = [] ∧ labelB s0.dropLast = true then ⟨2, s0.dropLast, p0, ⟨0, 0, 0⟩⟩ else wrongL := by unfold readL; rw [hw]; exact if_pos hc
  obtain ⟨hm1, hm2, hm3⟩ : s0 ≠ [] ∧ s0.length ≤ s.size ∧ p0 ≤ s.size := wordsL_mem (s := s.data.toList) (x := (s0, p0)) (by rw [hw]; simp)
  have hc0 := (Chg.refl (fun _ => False) w).alloc (.cells zero3 42)
  have HW := hide (words_row s (w.alloc (.cells zero3 42)) (hl.chg hc0 (fun _ _ => id)) hs)
  rw [words_fst hw] at HW
  have HC0 := hide hc0
  have hSX := fun W => suffix_bs s0 (by omega) W
  rw [if_pos hc, show decide (s0.getLast? = some 58) = true from decide_eq_true hc] at hSX
  have HSX := hide hSX
  have HLB := hide (fun W => label_bs s0.dropLast (by rw [List.length_dropLast]; omega) W)
  clear hl hc0 hSX hw hc hm1
  generalize readL s.data.toList = R at *
  generalize s0.dropLast = L0 at *
  cases rest with
  | cons y rest =>
    have hR : R = wrongL := by rw [hx, if_neg (by simp)]
    rw [hR]
    clear hx hR
    go_enter Tryd.func41, Tryd.ntmps41
    go_wp2_with (first
      | (go_at_call 47; (refine (unhide HW).mono ?_); rintro e w2 ⟨A, c, rfl, hcc, hr, hc2⟩; have HC2 := hide hc2; have HK := hide ((Blk.new w 42 zero3).chg hc2 id); (obtain ⟨⟨y0, y1, y2⟩, z0, z1, z2⟩ := (unhide HK).all3); (obtain ⟨b, o, rfl, hT, k0⟩ := row_head hr); have HR := hide hr; have HCC := hide hcc; have HC20 := hide ((unhide HC0).trans' (unhide HC2)); clear hr hc2 hcc hT)
      | (go_at_call 57; (with_reducible refine (unhide HSX _).mono ?_); rintro e w3 ⟨rfl, rfl⟩))
    exact bodyPost_ret (read_res (put3_blk (unhide HK) _ _ _) _ _ _ rfl rfl rfl) rfl ⟨rfl, put3_chg ((unhide HC0).trans' (unhide HC2)) (Nat.le_refl _) _ _ _⟩
  | nil =>
    cases hlb : labelB L0
    · have hR : R = wrongL := by rw [hx, hlb, if_neg (by simp)]
      rw [hlb] at HLB
      rw [hR]
      clear hx hR hlb
      go_enter Tryd.func41, Tryd.ntmps41
      go_wp2_with (first
        | (go_at_call 47; (refine (unhide HW).mono ?_); rintro e w2 ⟨A, c, rfl, hcc, hr, hc2⟩; have HC2 := hide hc2; have HK := hide ((Blk.new w 42 zero3).chg hc2 id); (obtain ⟨⟨y0, y1, y2⟩, z0, z1, z2⟩ := (unhide HK).all3); (obtain ⟨b, o, rfl, hT, k0⟩ := row_head hr); have HR := hide hr; have HCC := hide hcc; have HC20 := hide ((unhide HC0).trans' (unhide HC2)); clear hr hc2 hcc hT)
        | (go_at_call 57; (with_reducible refine (unhide HSX _).mono ?_); rintro e w3 ⟨rfl, rfl⟩)
        | (go_at_call 58; (with_reducible refine (unhide HLB _).mono ?_); rintro e w4 ⟨rfl, hc3⟩; have HN_ := hide ((unhide HC2).trans' hc3); clear HC2; have HC2 := HN_; clear HN_ HK; have HK := hide ((Blk.new w 42 zero3).chg (unhide HC2) id); clear y0 y1 y2 z0 z1 z2; (obtain ⟨⟨y0, y1, y2⟩, z0, z1, z2⟩ := (unhide HK).all3); have hk0_ := (hc3.cell (World.block_lt_of_cell? _ _ k0) id).trans k0; clear k0; have k0 := hk0_; clear hk0_ hc3))
      exact bodyPost_ret (read_res (put3_blk (unhide HK) _ _ _) _ _ _ rfl rfl rfl) rfl ⟨rfl, put3_chg ((unhide HC0).trans' (unhide HC2)) (Nat.le_refl _) _ _ _⟩
    · have hR : R = ⟨2, L0, p0, ⟨0, 0, 0⟩⟩ := by rw [hx, hlb, if_pos (by simp)]
      rw [hlb] at HLB
      rw [hR]
      clear hx hR hlb
      go_enter Tryd.func41, Tryd.ntmps41
      go_wp2_with (first
        | (go_at_call 47; (refine (unhide HW).mono ?_); rintro e w2 ⟨A, c, rfl, hcc, hr, hc2⟩; have HC2 := hide hc2; have HK := hide ((Blk.new w 42 zero3).chg hc2 id); (obtain ⟨⟨y0, y1, y2⟩, z0, z1, z2⟩ := (unhide HK).all3); (obtain ⟨b, o, rfl, hT, k0⟩ := row_head hr); have HR := hide hr; have HCC := hide hcc; have HC20 := hide ((unhide HC0).trans' (unhide HC2)); clear hr hc2 hcc hT)
        | (go_at_call 57; (with_reducible refine (unhide HSX _).mono ?_); rintro e w3 ⟨rfl, rfl⟩)
        | (go_at_call 58; (with_reducible refine (unhide HLB _).mono ?_); rintro e w4 ⟨rfl, hc3⟩; have HN_ := hide ((unhide HC2).trans' hc3); clear HC2; have HC2 := HN_; clear HN_ HK; have HK := hide ((Blk.new w 42 zero3).chg (unhide HC2) id); clear y0 y1 y2 z0 z1 z2; (obtain ⟨⟨y0, y1, y2⟩, z0, z1, z2⟩ := (unhide HK).all3); have hk0_ := (hc3.cell (World.block_lt_of_cell? _ _ k0) id).trans k0; clear k0; have k0 := hk0_; clear hk0_ hc3))
      exact bodyPost_ret (read_res (put3_blk (unhide HK) _ _ _) _ _ _ rfl rfl rfl) rfl ⟨rfl, put3_chg ((unhide HC0).trans' (unhide HC2)) (Nat.le_refl _) _ _ _⟩
end Go.Proofs.YtgonllogaiiicaaDoor
