/-
  The walk of the law's awake: the chapter's example.
-/
import Derived.Test.YtlgkgglecgdkgaaWshape
namespace Go.Proofs.Ytlgkgglecgdkgaa
open Go.RowKit
set_option maxHeartbeats 400000
set_option maxRecDepth 100000

def A1 : HM := (HM.new 16).put 196625 [numW (-5), numW 7]
def A2 : HM := A1.put 327692 (tws [104, 101, 108, 108, 111] 5)
def A3 : HM := A2.put 11 [0]
def A4 : HM := match A3.collect [10] 16 with | some (M, _) => M | none => A3
theorem coll3 : A3.collect [10] 16 = some (A4, [0]) := by kernel_rfl
def aRs : List (Bool × Int) := match A4.shape [0] 16 with | some (r, _, _) => r | none => []
def aCs : List CellM := match A4.shape [0] 16 with | some (_, c, _) => c | none => []
def aBs : List Nat := match A4.shape [0] 16 with | some (_, _, b) => b | none => []
theorem shape4 : A4.shape [0] 16 = some (aRs, aCs, aBs) := by kernel_rfl
theorem aFacts : aRs.length = 1 ∧ aCs.length = 2 ∧ aBs.length = 2 ∧ (aCs.getD 1 ⟨0, 0, [], []⟩).tag = 3 ∧ ((aCs.getD 1 ⟨0, 0, [], []⟩).parts.getD 1 (true, 0)) = (true, 7) ∧ (aCs.getD 1 ⟨0, 0, [], []⟩).parts.length = 2 := by decide +kernel
theorem aSizes : A1.now.length = 3 ∧ A2.now.length = 5 ∧ A3.now.length = 7 ∧ A4.now.length = 5 ∧ A1.size = 16 ∧ A2.size = 16 ∧ A3.size = 16 ∧ A4.size = 16 := by decide +kernel
theorem aText : textBytes A2.now 3 5 = [104, 101, 108, 108, 111] := by decide +kernel
theorem aBlock : A2.at 6 = some 3 ∧ A2.bk 6 = 4 ∧ A2.bt 6 = 5 ∧ A4.bk 0 = 3 ∧ A4.bt 0 = 0 ∧ A4.bn 0 = 1 ∧ A4.at 0 = some 0 ∧ [numW (-5), numW 7].all (HM.new 16).value = true ∧ [0].all A2.value = true := by decide +kernel
theorem aNum : isNumV (numW (-5)) = -5 ∧ numW (-5) % 2 = 1 ∧ numW (-5) < 18446744073709551616 ∧ numW 7 < 18446744073709551616 := by decide +kernel

/-- Wf, told by a bounded search. -/
def HM.wfB (M : HM) : Bool := (List.range M.now.length).all fun a => !(M.beg.getD a false) || (decide (a + 1 + M.bn (2 * a) ≤ M.now.length) && (!(M.bk (2 * a) == 4) || (decide (a + 1 + (M.bt (2 * a) + 7) / 8 ≤ M.now.length) && decide (M.bt (2 * a) ≤ 1048576))))
theorem HM.wf_of (M : HM) (h : M.wfB = true) : M.Wf := by
  intro x hx
  obtain ⟨h1, h2, h3, h4⟩ := HM.at_isSome hx
  have h5 := List.all_eq_true.1 h (x / 2) (List.mem_range.2 h3)
  have e : 2 * (x / 2) = x := by omega
  rw [e] at h5
  have h6 : M.beg.getD (x / 2) false = true := by rw [List.getD_eq_getElem?_getD, h4]; rfl
  simp only [h6, Bool.not_true, Bool.false_or, Bool.and_eq_true, decide_eq_true_eq, Bool.or_eq_true, Bool.not_eq_true', beq_eq_false_iff_ne] at h5
  exact ⟨h5.1, fun hk => by rcases h5.2 with h | h; exact absurd hk h; exact h⟩
theorem wf4 : A4.Wf := HM.wf_of A4 (by decide +kernel)

set_option maxHeartbeats 2000000 in
theorem awake_any (w : World) : Calls Try.prog 6 #[] w fun e w' => e = .returned (.bool true) ∧ Chg (fun _ => False) w w' := by
  go_enter Try.func6, Try.ntmps6
  go_wp2_with fail
  refine (new_yes 16 _ (by omega) (by omega)).mono ?_
  rintro e w1 ⟨g, bn, bo, bb, rfl, h1, c1, l1, l2, l3, l4⟩
  have Hh1 := hide h1
  have Hc1 := hide c1
  have hs1 := c1.size
  have hg := h1.st.lt
  have hbn := h1.rn.lt
  have hbo := h1.ro.lt
  have hbb := h1.rb.lt
  clear h1 c1
  go_wp2_with (go_at_call 8; refine (num_any _ _).mono ?_; rintro e w' ⟨rfl, rfl⟩)
  have Hr1 := hide (rd_new w1 w1.heap.size 26 ([numW (-5), numW 7].map wv) rfl)
  have hr1 := (unhide Hh1).chg ((Chg.refl (fun _ => False) w1).alloc (.cells ([numW (-5), numW 7].map wv).toArray 26)) id id id id
  have HC1 := hide ((unhide Hc1).alloc (.cells ([numW (-5), numW 7].map wv).toArray 26))
  refine (alloc_good (HM.new 16) g bn bo bb 2 1 3 _ [numW (-5), numW 7] (· = w1.heap.size) _ hr1 (by rintro b rfl; omega) (unhide Hr1) (by intro x hx; simp at hx; rcases hx with rfl | rfl; exact aNum.2.2.1; exact aNum.2.2.2) (by omega) (by omega) (by omega) (by simp) aBlock.2.2.2.2.2.2.2.1 (by simp [HM.new])).mono ?_
  rintro e w2 ⟨he, h2, c2⟩
  obtain rfl : e = .returned (.tuple #[.int .u64 0, .bool true]) := he
  have Hh2 := hide (show HRep w2 g bn bo bb A1 from h2)
  have HC2 := hide ((unhide HC1).trans c2 (fun i hi e => by omega))
  have hs2 := c2.size
  simp only [size_alloc] at hs2
  clear h2 c2 hr1 Hr1
  go_wp2_with fail
  refine (allocText_good A1 g bn bo bb _ w2 (unhide Hh2) (by decide) (by rw [aSizes.1, aSizes.2.2.2.2.1]; decide)).mono ?_
  rintro e w3 ⟨he, h3, c3⟩
  obtain rfl : e = .returned (.tuple #[.int .u64 6, .bool true]) := he
  have Hh3 := hide (show HRep w3 g bn bo bb A2 from h3)
  have HC3 := hide ((unhide HC2).trans c3 (fun i hi e => by omega))
  have hs3 := c3.size
  clear h3 c3
  go_wp2_with fail
  refine (left_any A2 g bn bo bb w3 (unhide Hh3)).mono ?_
  rintro e w' ⟨he, n3, rfl⟩
  obtain rfl : e = .returned (.int .i64 11) := he

  go_wp2_with fail
  refine (text_yes A2 g bn bo bb 6 5 _ ((unhide Hh3).chg (S := fun _ => False) ((Chg.refl _ w3).drewN n3) id id id id) (by omega) (by rw [aBlock.1]; rfl) aBlock.2.1 aBlock.2.2.1 (by omega) (by rw [aSizes.2.1]; omega)).mono ?_
  rintro e w4 ⟨he, c4⟩
  rw [aText] at he
  subst he
  have Hh4 := hide ((unhide Hh3).chg (S := fun _ => False) (((Chg.refl _ w3).drewN n3).trans' c4) id id id id)
  have HC4 := hide ((unhide HC3).trans' (((Chg.refl _ w3).drewN n3).trans' c4))
  have hs4 := c4.size
  simp only [size_drewN] at hs4
  clear c4
  go_wp2_with fail
  have Hr4 := hide (rd_new w4 w4.heap.size 26 ([0].map wv) rfl)
  have hr4 := (unhide Hh4).chg ((Chg.refl (fun _ => False) w4).alloc (.cells ([0].map wv).toArray 26)) id id id id
  have HC4' := hide ((unhide HC4).alloc (.cells ([0].map wv).toArray 26))
  refine (alloc_good A2 g bn bo bb 1 3 0 _ [0] (· = w4.heap.size) _ hr4 (by rintro b rfl; omega) (unhide Hr4) (by intro x hx; simp at hx; omega) (by omega) (by omega) (by omega) (by simp) aBlock.2.2.2.2.2.2.2.2 (by rw [aSizes.2.1, aSizes.2.2.2.2.2.1]; decide)).mono ?_
  rintro e w5 ⟨he, h5, c5⟩
  obtain rfl : e = .returned (.tuple #[.int .u64 10, .bool true]) := he
  have Hh5 := hide (show HRep w5 g bn bo bb A3 from h5)
  have HC5 := hide ((unhide HC4').trans c5 (fun i hi e => by omega))
  have hs5 := c5.size
  simp only [size_alloc] at hs5
  clear h5 c5 hr4 Hr4
  go_wp2_with fail
  have Hr5 := hide (rd_new w5 w5.heap.size 26 ([10].map wv) rfl)
  have hr5 := (unhide Hh5).chg ((Chg.refl (fun _ => False) w5).alloc (.cells ([10].map wv).toArray 26)) id id id id
  have HC5' := hide ((unhide HC5).alloc (.cells ([10].map wv).toArray 26))
  refine (collect_any A3 A4 g bn bo bb 1 16 _ [10] [0] (· = w5.heap.size) _ hr5 (by rw [aSizes.2.2.2.2.2.2.1]; omega) (unhide Hr5) (by intro x hx; simp at hx; omega) (by rintro b rfl; simp only [size_alloc]; omega) (by simp) coll3).mono ?_
  rintro e w6 ⟨d, ob, he, h6, hob, hd6, hob6, c6⟩
  obtain rfl : e = .returned (.slice (some ⟨ob, 0, none⟩) 1 1) := he
  have cob := hob.cell 0
  have hobl := hob.lt
  simp only [List.map_cons, List.map_nil, List.getElem?_toArray, List.getElem?_cons_zero, wv] at cob
  have Hh6 := hide h6
  have Hob := hide hob
  have HC6 := hide ((unhide HC5').trans c6 (fun i hi e => by omega))
  have hblk := block_any A4 g bo bn d 0 w6 h6 (by omega)
  rw [aBlock.2.2.2.1, aBlock.2.2.2.2.1, aBlock.2.2.2.2.2.1, aBlock.2.2.2.2.2.2.1] at hblk
  have Hblk := hide hblk
  clear h6 hob c6 hr5 Hr5 hblk
  go_wp2_with (go_at_call 29; refine (unhide Hblk).mono ?_; rintro e w' ⟨rfl, rfl⟩)
  refine (shape_any A4 g bo bn d 1 16 _ [0] (· = ob) aRs aCs aBs w6 (unhide Hh6) (Rd.blk (unhide Hob) (fun j u hj => by simpa using hj)) (by intro x hx; simp at hx; omega) (by rintro b rfl; exact hobl) (by simp) (by rw [aFacts.2.2.1]; omega) wf4 shape4).mono ?_
  rintro e w7 ⟨v1, v2, rfl, hrs, hcs, c7⟩
  have Hh7 := hide ((unhide Hh6).chg c7 id id id id)
  have HC7 := hide ((unhide HC6).trans' c7)
  obtain ⟨Ar, cr, hv1, _⟩ := hrs
  obtain ⟨Ac, cc, fin, hv2, hfin, hrd, hp⟩ := hcs
  rw [aFacts.1] at hv1
  rw [aFacts.2.1] at hv2
  subst hv1 hv2
  have hfl : fin.length = 2 := by have := congrArg List.length hfin; rw [aFacts.2.1] at this; simpa using this
  obtain ⟨p0, p1, rfl⟩ : ∃ p0 p1, fin = [p0, p1] := by
    match fin, hfl with
    | [a, b], _ => exact ⟨a, b, rfl⟩
  have hp1 : p1.2 = aCs.getD 1 ⟨0, 0, [], []⟩ := by rw [← hfin]; rfl
  obtain ⟨bc, oc, rfl, _, hcc⟩ := hrd.flat (by simp [cev])
  obtain ⟨Ap, cp, hpv, hprd⟩ := hp p1 (by simp)
  rw [hp1, aFacts.2.2.2.2.2] at hpv
  have hpl := aFacts.2.2.2.2.2
  have htag : w7.cell? ⟨bc, oc + 5, none⟩ = some (.int .i64 3) := by
    have := hcc 5 (.int .i64 (p1.2.tag : Int)) rfl
    rw [hp1, aFacts.2.2.2.1] at this
    exact this
  have hpart : w7.cell? ⟨bc, oc + 7, none⟩ = some (.slice Ap 2 cp) := by
    have := hcc 7 p1.1 rfl
    rw [hpv] at this
    exact this
  obtain ⟨bp, op, rfl, _, hpc⟩ := hprd.flat (by
    rw [hp1]
    intro e
    have := congrArg List.length e
    rw [rfv_len, aFacts.2.2.2.2.2] at this
    simp at this)
  have hseven : w7.cell? ⟨bp, op + 3, none⟩ = some (.int .i64 7) := by
    refine hpc 3 _ ?_
    rw [hp1]
    have h1 := aFacts.2.2.2.2.1
    have h2 := aFacts.2.2.2.2.2
    generalize (aCs.getD 1 ⟨0, 0, [], []⟩).parts = l at *
    match l, h2, h1 with
    | [a, b], _, h1 =>
      have : b = (true, 7) := h1
      subst this
      rfl
  have htag2 : w7.cell? ⟨bc, oc + 4 + 1, none⟩ = some (.int .i64 3) := htag
  have hpart2 : w7.cell? ⟨bc, oc + 4 + 3, none⟩ = some (.slice (some ⟨bp, op, none⟩) 2 cp) := hpart
  have hseven2 : w7.cell? ⟨bp, op + 2 + 1, none⟩ = some (.int .i64 7) := hseven
  have Hleft := hide (left_any A4 g bo bn d w7 (unhide Hh7))
  have Hnum := hide (isNum_any (numW (-5)) w7 aNum.2.2.1)
  clear hrd hcc hp hprd hpc hfin hp1 hpv c7 hfl hpl
  go_wp2_with (first
    | (go_at_call 8; refine (num_any _ _).mono ?_; rintro e w' ⟨rfl, rfl⟩)
    | (go_at_call 7; refine (unhide Hnum).mono ?_; rw [aNum.1, aNum.2.1]; rintro e w' ⟨rfl, rfl⟩)
    | (go_at_call 25; refine (unhide Hleft).mono ?_; rintro e w' ⟨he, n7, rfl⟩; obtain rfl : e = .returned (.int .i64 11) := he))
  go_ret
  exact ⟨rfl, (unhide HC7).drewN _⟩
end Go.Proofs.Ytlgkgglecgdkgaa
