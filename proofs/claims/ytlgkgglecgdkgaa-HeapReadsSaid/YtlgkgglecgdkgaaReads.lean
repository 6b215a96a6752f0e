/-
  The walk of HeapReads.
-/
import Derived.Test.YtlgkgglecgdkgaaReadsL
namespace Go.Proofs.Ytlgkgglecgdkgaa
open Go.RowKit
set_option maxHeartbeats 400000
set_option maxRecDepth 100000

theorem text_all (M : HM) (g bn bo bb x : Nat) (w : World) (h : HRep w g bn bo bb M) (hx : x < 18446744073709551616) (hs : (M.at x).isSome = true) (hwf : M.Wf) :
    Calls Try.prog 30 #[.pointer (some ⟨g, 0, none⟩), .int .u64 x] w fun e w' => e = .returned (.tuple #[.string ⟨(M.text x).toArray⟩, .bool (decide (M.bk x = 4))]) ∧ Chg (fun _ => False) w w' := by
  by_cases hk : M.bk x = 4
  · have e : M.text x = textBytes M.now (x / 2) (M.bt x) := by simp [HM.text, hs, hk]
    rw [e, decide_eq_true hk]
    have h2 := (hwf x hs).2 hk
    exact text_yes M g bn bo bb x _ w h hx hs hk rfl h2.2 h2.1
  · have e : M.text x = [] := by simp [HM.text, hk]
    rw [e, decide_eq_false hk]
    refine (text_none M g bn bo bb x w h hx (.inr hk)).mono ?_
    rintro e w' ⟨rfl, rfl⟩
    exact ⟨rfl, Chg.refl _ _⟩

/-- What one block's shape is, in memory. -/
structure ShapeAt (w : World) (K TG N : Nat) (TX : ByteArray) (rs : List (Bool × Int)) (b1 o1 b2 o2 : Nat) (Ap : Option Addr) (cp : Nat) : Prop where
  r0 : w.cell? ⟨b1, o1, none⟩ = some (.bool false)
  k : w.cell? ⟨b2, o2, none⟩ = some (.int .i64 (K : Int))
  t : w.cell? ⟨b2, o2 + 1, none⟩ = some (.int .i64 (TG : Int))
  x : w.cell? ⟨b2, o2 + 2, none⟩ = some (.string TX)
  p : w.cell? ⟨b2, o2 + 3, none⟩ = some (.slice Ap N cp)
  rd : Rd (fun _ => True) w Ap (rs.flatMap rfv)

theorem shapeOut_at {W w' : World} {v1 v2 : Value} {c0 : CellM} {cs : List CellM} (h : ShapeOut W v1 v2 [(false, 0)] (c0 :: cs) w') :
    ∃ b1 o1 c1 b2 o2 c2 Ap cp, v1 = .slice (some ⟨b1, o1, none⟩) 1 c1 ∧ v2 = .slice (some ⟨b2, o2, none⟩) (cs.length + 1) c2 ∧ ShapeAt w' c0.kind c0.tag c0.parts.length ⟨c0.text.toArray⟩ c0.parts b1 o1 b2 o2 Ap cp := by
  obtain ⟨⟨A1, c1, rfl, hr1⟩, ⟨A2, c2, fin, rfl, hfin, hrd, hp⟩, _⟩ := h
  obtain ⟨b1, o1, rfl, _, hc1⟩ := hr1.flat (by simp [rfv])
  obtain ⟨p, fin, rfl⟩ : ∃ p t, fin = p :: t := by
    cases fin with
    | nil => simp at hfin
    | cons p t => exact ⟨p, t, rfl⟩
  simp only [List.map_cons, List.cons.injEq] at hfin
  obtain ⟨b2, o2, rfl, _, hc2⟩ := hrd.flat (by simp [cev])
  obtain ⟨Ap, cp, hpv, hprd⟩ := hp p (by simp)
  obtain ⟨hp2, _⟩ := hfin
  subst hp2
  refine ⟨b1, o1, c1, b2, o2, c2, Ap, cp, rfl, rfl, ⟨hc1 0 _ rfl, hc2 0 _ rfl, hc2 1 _ rfl, hc2 2 _ rfl, ?_, hprd⟩⟩
  rw [← hpv]
  exact hc2 3 _ rfl
theorem cell_kept {w w' : World} {b o : Nat} {v : Value} (h : w.cell? ⟨b, o, none⟩ = some v) (hc : Chg (fun _ => False) w w') : w'.cell? ⟨b, o, none⟩ = some v := by
  rw [hc.cell (block_lt_of_cell h) id]; exact h
theorem ShapeAt.old {w w' : World} {K TG N : Nat} {TX : ByteArray} {rs : List (Bool × Int)} {b1 o1 b2 o2 : Nat} {Ap : Option Addr} {cp : Nat} (h : ShapeAt w K TG N TX rs b1 o1 b2 o2 Ap cp) (hc : Chg (fun _ => False) w w') : ShapeAt w' K TG N TX rs b1 o1 b2 o2 Ap cp :=
  ⟨cell_kept h.r0 hc, cell_kept h.k hc, cell_kept h.t hc, cell_kept h.x hc, cell_kept h.p hc, h.rd.old hc⟩
theorem ShapeAt.part {w : World} {K TG N : Nat} {TX : ByteArray} {rs : List (Bool × Int)} {b1 o1 b2 o2 : Nat} {Ap : Option Addr} {cp i : Nat} {r : Bool × Int} (h : ShapeAt w K TG N TX rs b1 o1 b2 o2 Ap cp) (hr : rs[i]? = some r) :
    ∃ b3 o3, Ap = some ⟨b3, o3, none⟩ ∧ w.cell? ⟨b3, o3 + i * 2, none⟩ = some (.bool r.1) ∧ w.cell? ⟨b3, o3 + i * 2 + 1, none⟩ = some (.int .i64 r.2) := by
  obtain ⟨b3, o3, rfl, _, hc⟩ := h.rd.flat (by
    intro e
    have := congrArg List.length e
    rw [rfv_len] at this
    have := (List.getElem?_eq_some_iff.1 hr).1
    simp at *
    omega)
  have h0 := flat_get rfv 2 (fun _ => rfl) rs i 0 r hr (by omega)
  have h1 := flat_get rfv 2 (fun _ => rfl) rs i 1 r hr (by omega)
  exact ⟨b3, o3, rfl, hc _ _ h0, by rw [Nat.add_assoc]; exact hc _ _ h1⟩

theorem reads_out (l : List ActM) (n at_ x : Int) (c : Nat) (A : Option Addr) (w : World) (h : RdActs w A l) (hl : l.length ≤ 9223372036854775807) (ho : fewL l = false ∨ n < 16 ∨ 500 < n) :
    Calls Try.prog 5 #[.int .i64 n, .slice A l.length c, .int .u64 x, .int .i64 at_] w fun e w' => e = .returned (.bool true) ∧ Chg (fun _ => False) w w' := by
  have Hh := hide h
  clear h
  by_cases hf : fewL l = false
  · clear ho
    go_enter Try.func5, Try.ntmps5
    go_wp2_with fail
    refine (awake_any _).mono ?_
    rintro e w1 ⟨rfl, c1⟩
    have C1 := hide c1
    have Hf := few_any l A c w1 ((unhide Hh).old c1) hl
    rw [hf] at Hf
    clear c1
    go_wp2_with fail
    refine Hf.mono ?_
    rintro e w' ⟨rfl, rfl⟩
    go_wp2_with fail
    refine (awake_any _).mono ?_
    rintro e w2 ⟨rfl, c2⟩
    have C2 := hide c2
    clear c2
    go_wp2_with fail
    go_ret
    exact ⟨rfl, (unhide C1).trans' (unhide C2)⟩
  · have hf2 : fewL l = true := by simpa using hf
    by_cases h1 : n < 16
    · clear ho
      go_enter Try.func5, Try.ntmps5
      go_wp2_with fail
      refine (awake_any _).mono ?_
      rintro e w1 ⟨rfl, c1⟩
      have C1 := hide c1
      have Hf := few_any l A c w1 ((unhide Hh).old c1) hl
      rw [hf2] at Hf
      clear c1
      go_wp2_with fail
      refine Hf.mono ?_
      rintro e w' ⟨rfl, rfl⟩
      go_wp2_with fail
      refine (awake_any _).mono ?_
      rintro e w2 ⟨rfl, c2⟩
      have C2 := hide c2
      clear c2
      go_wp2_with fail
      go_ret
      exact ⟨rfl, (unhide C1).trans' (unhide C2)⟩
    · have h2 : 500 < n := by
        rcases ho with h | h | h
        · exact absurd h hf
        · exact absurd h h1
        · exact h
      have h3 : ¬ n < 16 := h1
      clear ho
      go_enter Try.func5, Try.ntmps5
      go_wp2_with fail
      refine (awake_any _).mono ?_
      rintro e w1 ⟨rfl, c1⟩
      have C1 := hide c1
      have Hf := few_any l A c w1 ((unhide Hh).old c1) hl
      rw [hf2] at Hf
      clear c1
      go_wp2_with fail
      refine Hf.mono ?_
      rintro e w' ⟨rfl, rfl⟩
      go_wp2_with fail
      refine (awake_any _).mono ?_
      rintro e w2 ⟨rfl, c2⟩
      have C2 := hide c2
      clear c2
      go_wp2_with fail
      go_ret
      exact ⟨rfl, (unhide C1).trans' (unhide C2)⟩

/-- What is known of one of the words. -/
structure WordAt (M : HM) (x K TG N : Nat) (TX : ByteArray) (c0 : CellM) : Prop where
  s : (M.at x).isSome = true
  lt : x < 18446744073709551616
  k : M.bk x = K
  t : M.bt x = TG
  n : M.bn x = N
  tx : ByteArray.mk (M.text x).toArray = TX
  c : c0.kind = K ∧ c0.tag = TG ∧ c0.parts.length = N ∧ ByteArray.mk c0.text.toArray = TX
  sh : ∃ cs bs, M.shape [x] 61 = some ([(false, 0)], c0 :: cs, bs) ∧ bs.length ≤ 1048576
  p : ∀ p, p < N → ∃ r : Bool × Int, c0.parts[p]? = some r ∧ r.1 = (M.now.getD (x / 2 + 1 + p) 0 % 2 == 1) ∧ (M.now.getD (x / 2 + 1 + p) 0 % 2 = 1 → r.2 = isNumV (M.now.getD (x / 2 + 1 + p) 0))
  i : ∀ p, p < N → x / 2 + 1 + p < M.now.length
theorem HM.Bi.word {M : HM} {ws : List Nat} (h : M.Bi ws) (hl : ws.length ≤ 60) (hs : M.size ≤ 1048576) {x : Nat} (hx : x ∈ ws) : ∃ K TG N TX c0, WordAt M x K TG N TX c0 := by
  obtain ⟨cs, bs, e, hb⟩ := shape_one (U := ws) (fun y hy => h.mem hy) (h.at_ hx) 61 (by omega) (by omega)
  refine ⟨_, _, _, _, (M.cell [x] x).1, ⟨h.at_ hx, h.lt hx hs, rfl, rfl, rfl, rfl, ⟨rfl, rfl, ?_, rfl⟩, ⟨cs, bs, e, by omega⟩, fun p hp => cell_part h hx hp _, fun p hp => ?_⟩⟩
  · show (M.refs [x] (M.parts x)).1.length = _
    rw [HM.refs_count, HM.parts_len]
  · have := (h.wf x (h.at_ hx)).1
    omega

theorem take_mem (ws : List Nat) (j : Nat) (hlt : j < ws.length) (x : Nat) : decide (x ∈ ws.take (j + 1)) = (decide (x ∈ ws.take j) || decide (ws[j] = x)) := by
  have e : ws.take (j + 1) = ws.take j ++ [ws[j]] := by rw [List.take_add_one, List.getElem?_eq_getElem hlt]; rfl
  rw [e]
  generalize ws.take j = l
  generalize ws[j] = y
  by_cases h1 : x ∈ l
  · simp [h1]
  · by_cases h2 : y = x
    · simp [h2]
    · have h3 : ¬ x = y := fun h => h2 h.symm
      simp [h1, h2, h3]

set_option maxHeartbeats 2000000 in
theorem reads_in (l : List ActM) (n x c : Nat) (at_ : Int) (A : Option Addr) (w : World) (h : RdActs w A l) (hf : fewL l = true) (hx : x < 18446744073709551616) (h1 : 16 ≤ n) (h2 : n ≤ 500) :
    Calls Try.prog 5 #[.int .i64 (n : Int), .slice A l.length c, .int .u64 (x : Int), .int .i64 at_] w fun e w' => e = .returned (.bool true) ∧ Chg (fun _ => False) w w' := by
  have Hh := hide h
  have hl60 : l.length ≤ 60 := by unfold fewL at hf; rw [Bool.and_eq_true] at hf; simpa using hf.1
  have hsm : ∀ a ∈ l, a.small = true := by unfold fewL at hf; rw [Bool.and_eq_true] at hf; exact List.all_eq_true.1 hf.2
  have HS := hide hsm
  clear h hsm
  go_enter Try.func5, Try.ntmps5
  go_wp2_with fail
  refine (awake_any _).mono ?_
  rintro e w1 ⟨rfl, c1⟩
  have C1 := hide c1
  have Hf := few_any l A c w1 ((unhide Hh).old c1) (by omega)
  rw [hf] at Hf
  have HB := hide (build_any l n A c w1 ((unhide Hh).old c1) hl60 (unhide HS) h1 (by omega))
  clear c1
  go_wp2_with fail
  refine Hf.mono ?_
  rintro e w' ⟨rfl, rfl⟩
  go_wp2_with fail
  refine (unhide HB).mono ?_
  clear HB
  rintro e w2 ⟨g, bn, bo, bb, A', c', rfl, hrep, hrd, hc⟩
  obtain ⟨hbi, hsz, hwl⟩ := build_bi n l
  generalize (buildM n l).1 = M at *
  generalize (buildM n l).2 = ws at *
  have hms : M.size ≤ 1048576 := by omega
  have HWO := hide (fun y (hy : y ∈ ws) => hbi.word (by omega) hms hy)
  have HBI := hide hbi
  have HREP := hide hrep
  have HRD := hide hrd
  have HC := hide hc
  clear hbi hrep hrd hc hsz
  go_wp2_with fail
  go_loopw [11] (fun i wr => ∃ j : Nat, j ≤ ws.length ∧ i = .int .i64 j ∧ Chg (fun _ => False) w2 wr) (fun i _ => ws.length - (intOf i).toNat)
  case atStart => exact ⟨0, Nat.zero_le _, rfl, Chg.refl _ _⟩
  case round =>
    obtain ⟨wq, rfl⟩ : ∃ wq : World, wq = wr := ⟨_, rfl⟩
    obtain ⟨j, hj, rfl, hchg⟩ := hrel
    by_cases hlt : j < ws.length
    · obtain ⟨K, TG, N, TX, c0, hw⟩ := unhide HWO (ws[j]) (List.getElem_mem hlt)
      have hget : (ws.map wv)[j]? = some (wv ws[j]) := by rw [List.getElem?_map, List.getElem?_eq_getElem hlt]; rfl
      have hrep := (unhide HREP).chg hchg id id id id
      have hrd := (unhide HRD).old hchg
      obtain ⟨bw, ow, rfl, _, hcw⟩ := hrd.flat (by intro e; have := congrArg List.length e; rw [List.length_map, List.length_nil] at this; omega)
      have hc0 := hcw j _ hget
      generalize ws[j] = y at *
      unfold wv at hc0
      obtain ⟨cs, bs, hsh, hbs⟩ := hw.sh
      have HSH := hide (shape_any M g bn bo bb 1 61 (some ⟨wq.heap.size, 0, none⟩) [y] (· = wq.heap.size) _ _ bs (wq.alloc (.cells #[.int .u64 (y : Int)] 26)) (hrep.chg (S := fun _ => False) ((Chg.refl _ _).alloc _) id id id id)
        (rd_new wq wq.heap.size 26 [wv y] rfl) (by intro z hz; rw [List.mem_singleton] at hz; subst hz; exact hw.lt) (by rintro b rfl; simp) (by simp) hbs (unhide HBI).wf hsh)
      have HRE := hide hrep
      have HRW := hide hrd
      have HCH := hide hchg
      have HW := hide hw
      clear hrep hrd hchg hw hsh hcw hget
      go_wp2_with fail
      refine (unhide HSH).mono ?_
      clear HSH
      rintro e w3 ⟨v1, v2, rfl, hso⟩
      obtain ⟨b1, o1, c1, b2, o2, c2, Ap, cp, rfl, rfl, hat⟩ := shapeOut_at hso
      have hc3 : Chg (fun _ => False) wq w3 := ((Chg.refl _ wq).alloc _).trans' hso.2.2
      obtain ⟨q1, q2, q3, q4⟩ := (unhide HW).c
      have hw := unhide HW
      have hre3 := (unhide HRE).chg hc3 id id id id
      have hBlk := block_any M g bn bo bb y w3 hre3 hw.lt
      rw [hw.s, hw.k, hw.t, hw.n] at hBlk
      have hTxt := text_all M g bn bo bb y w3 hre3 hw.lt hw.s (unhide HBI).wf
      rw [hw.k, hw.tx] at hTxt
      have hB : ((K : Int) == 4) = decide (K = 4) := by
        by_cases h : K = 4
        · subst h; rfl
        · rw [decide_eq_false h, beq_eq_false_iff_ne]; omega
      rw [q1, q2, q3, q4] at hat
      have hc03 := cell_kept hc0 hc3
      have HAT := hide hat
      have HRE3 := hide hre3
      have HC3 := hide hc3
      have HTX := hide hTxt
      have HBK := hide hBlk
      generalize decide (K = 4) = B at *
      clear hso hat hre3 hTxt hBlk hw q1 q2 q3 q4 hc0 hc3
      go_wp2_with fail
      refine (unhide HBK).mono ?_
      rintro e w' ⟨rfl, rfl⟩
      go_wp2_with fail
      refine (unhide HTX).mono ?_
      rintro e w4 ⟨rfl, hc4⟩
      have hc04 := cell_kept hc03 hc4
      have hat4 := (unhide HAT).old hc4
      have hre4 := (unhide HRE3).chg hc4 id id id id
      have HC4 := hide hc4
      have hw := unhide HW
      obtain ⟨a1, a2, a3, a4, a5, _⟩ := id hat4
      clear HTX HBK hc4
      by_cases hin : 0 ≤ at_ ∧ at_ < (N : Int)
      · obtain ⟨hin1, hin2⟩ := hin
        obtain ⟨i, rfl⟩ := Int.eq_ofNat_of_zero_le hin1
        obtain ⟨r, hr0, hr1, hr2⟩ := hw.p i (by omega)
        obtain ⟨b3, o3, rfl, d1, d2⟩ := hat4.part hr0
        have HP := hide (part_yes M g bn bo bb y i w4 hre4 hw.lt hw.s (by rw [hw.n]; omega) (hw.i i (by omega)))
        have HI := hide (isNum_any (M.now.getD (y / 2 + 1 + i) 0) w4 (hre4.ok.getD _))
        generalize M.now.getD (y / 2 + 1 + i) 0 = z at *
        have hz : (z % 2 == 1) = true ∧ r.2 = isNumV z ∨ (z % 2 == 1) = false := by
          by_cases h : z % 2 = 1
          · exact .inl ⟨by simp [h], hr2 h⟩
          · exact .inr (by simp [h])
        rcases hz with ⟨hz1, hz2⟩ | hz1
        · rw [hr1, hz1] at d1
          rw [hz2] at d2
          rw [hz1] at HI
          have hN : ((i : Int) < (N : Int)) := hin2
          have hN2 : decide ((i : Int) < (N : Int)) = true := decide_eq_true hin2
          have hN3 : decide (0 ≤ (i : Int)) = true := decide_eq_true hin1
          generalize isNumV z = Y at *
          clear hat4 hre4 hw hr0 hr1 hr2 hz1 hz2
          go_wp2_with fail
          refine (unhide HP).mono ?_
          rintro e w' ⟨rfl, rfl⟩
          go_wp2_with fail
          refine (unhide HI).mono ?_
          rintro e w' ⟨rfl, rfl⟩
          go_wp2_with fail
          go_roundw
          case rel => exact ⟨j + 1, by omega, by go_num, ((unhide HCH).trans' (unhide HC3)).trans' (unhide HC4)⟩
          case measure => simp [intOf]; omega
        · rw [hr1, hz1] at d1
          rw [hz1] at HI
          have hN : ((i : Int) < (N : Int)) := hin2
          have hN2 : decide ((i : Int) < (N : Int)) = true := decide_eq_true hin2
          have hN3 : decide (0 ≤ (i : Int)) = true := decide_eq_true hin1
          generalize isNumV z = Y at *
          clear hat4 hre4 hw hr0 hr1 hr2 hz1
          go_wp2_with fail
          refine (unhide HP).mono ?_
          rintro e w' ⟨rfl, rfl⟩
          go_wp2_with fail
          refine (unhide HI).mono ?_
          rintro e w' ⟨rfl, rfl⟩
          go_wp2_with fail
          go_roundw
          case rel => exact ⟨j + 1, by omega, by go_num, ((unhide HCH).trans' (unhide HC3)).trans' (unhide HC4)⟩
          case measure => simp [intOf]; omega
      · have HP := hide (part_no M g bn bo bb y at_ w4 hre4 hw.lt (by
          unfold HM.has
          rw [hw.n, decide_eq_false hin, Bool.and_false]))
        have hcase : (at_ < 0 ∧ decide (0 ≤ at_) = false) ∨ (0 ≤ at_ ∧ decide (0 ≤ at_) = true ∧ ¬ at_ < (N : Int) ∧ decide (at_ < (N : Int)) = false) := by
          by_cases h0 : 0 ≤ at_
          · have h3 : ¬ at_ < (N : Int) := fun h => hin ⟨h0, h⟩
            exact .inr ⟨h0, decide_eq_true h0, h3, decide_eq_false h3⟩
          · exact .inl ⟨by omega, decide_eq_false h0⟩
        clear hat4 hre4 hw hin
        rcases hcase with ⟨g0, g1⟩ | ⟨g0, g1, g2, g3⟩
        · go_wp2_with fail
          refine (unhide HP).mono ?_
          rintro e w' ⟨rfl, rfl⟩
          go_wp2_with fail
          go_roundw
          case rel => exact ⟨j + 1, by omega, by go_num, ((unhide HCH).trans' (unhide HC3)).trans' (unhide HC4)⟩
          case measure => simp [intOf]; omega
        · go_wp2_with fail
          refine (unhide HP).mono ?_
          rintro e w' ⟨rfl, rfl⟩
          go_wp2_with fail
          go_roundw
          case rel => exact ⟨j + 1, by omega, by go_num, ((unhide HCH).trans' (unhide HC3)).trans' (unhide HC4)⟩
          case measure => simp [intOf]; omega
    · obtain rfl : j = ws.length := by omega
      go_wp2_with fail
      go_loop [24, 25] (fun kn i => ∃ j : Nat, j ≤ ws.length ∧ i = .int .i64 j ∧ kn = .bool (decide (x ∈ ws.take j))) (fun _ i => ws.length - (intOf i).toNat)
      case atStart => exact ⟨0, Nat.zero_le _, rfl, by simp⟩
      case round =>
        obtain ⟨j, hj2, rfl, rfl⟩ := hrel
        by_cases hlt : j < ws.length
        · have hget : (ws.map wv)[j]? = some (wv ws[j]) := by rw [List.getElem?_map, List.getElem?_eq_getElem hlt]; rfl
          have hrd := (unhide HRD).old hchg
          obtain ⟨bw, ow, rfl, _, hcw⟩ := hrd.flat (by intro e; have := congrArg List.length e; rw [List.length_map, List.length_nil] at this; omega)
          have hc0 := hcw j _ hget
          have hD := take_mem ws j hlt x
          have HD := hide hD
          generalize ws[j] = y at *
          unfold wv at hc0
          have hE : ((y : Int) == (x : Int)) = decide (y = x) := by
            by_cases h : y = x
            · subst h; simp
            · rw [decide_eq_false h, beq_eq_false_iff_ne]; omega
          have hE2 : decide ((y : Int) = (x : Int)) = decide (y = x) := by
            by_cases h : y = x
            · subst h; simp
            · rw [decide_eq_false h, decide_eq_false]; omega
          have HCH := hide hchg
          clear hD hcw hget hrd hchg
          generalize decide (y = x) = E at *
          generalize decide (x ∈ ws.take j) = D at *
          cases D
          · go_wp2_with fail
            go_round
            case rel => exact ⟨j + 1, by omega, by go_num, by rw [unhide HD]; rfl⟩
            case measure => simp [intOf]; omega
          · go_wp2_with fail
            go_round
            case rel => exact ⟨j + 1, by omega, by go_num, by rw [unhide HD]; rfl⟩
            case measure => simp [intOf]; omega
        · obtain rfl : j = ws.length := by omega
          rw [List.take_length]
          by_cases hk : x ∈ ws
          · rw [decide_eq_true hk]
            have HCH := hide hchg
            clear hchg
            go_wp2_with fail
            go_ret
            exact ⟨rfl, ((unhide C1).trans' (unhide HC)).trans' (unhide HCH)⟩
          · rw [decide_eq_false hk]
            have hat := (unhide HBI).none_ hk
            have hre := (unhide HREP).chg hchg id id id id
            have hBlk := block_any M g bn bo bb x wq hre hx
            have e1 : M.bk x = 0 ∧ M.bt x = 0 ∧ M.bn x = 0 := by simp [HM.bk, HM.bt, HM.bn, hat]
            have e2 : ∀ i, M.has x i = false := fun i => by simp [HM.has, hat]
            rw [e1.1, e1.2.1, e1.2.2, hat] at hBlk
            have HBK := hide hBlk
            have HTX := hide (text_none M g bn bo bb x wq hre hx (.inl (by rw [hat]; rfl)))
            have HPT := hide (part_no M g bn bo bb x at_ wq hre hx (e2 _))
            have HSP := hide (setPart_no M g bn bo bb x (numW 1) at_ wq hre hx (e2 _))
            have HNM := hide (num_any 1 wq)
            have HCH := hide hchg
            clear hchg hBlk hre hat e1 e2
            generalize numW 1 = V at *
            go_wp2_with fail
            refine (unhide HBK).mono ?_
            rintro e w' ⟨rfl, rfl⟩
            go_wp2_with fail
            refine (unhide HTX).mono ?_
            rintro e w' ⟨rfl, rfl⟩
            go_wp2_with fail
            refine (unhide HPT).mono ?_
            rintro e w' ⟨rfl, rfl⟩
            go_wp2_with fail
            refine (unhide HNM).mono ?_
            rintro e w' ⟨rfl, rfl⟩
            go_wp2_with fail
            refine (unhide HSP).mono ?_
            rintro e w' ⟨rfl, rfl⟩
            go_wp2_with fail
            go_ret
            exact ⟨rfl, ((unhide C1).trans' (unhide HC)).trans' (unhide HCH)⟩
end Go.Proofs.Ytlgkgglecgdkgaa
