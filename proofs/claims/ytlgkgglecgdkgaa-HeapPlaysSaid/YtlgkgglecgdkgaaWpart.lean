/-
  Walks of the heap's Block, Part, SetPart, Num, IsNum, NeedText.
-/
import Derived.Test.YtlgkgglecgdkgaaWput
namespace Go.Proofs.Ytlgkgglecgdkgaa
open Go.RowKit
set_option maxHeartbeats 400000
set_option maxRecDepth 100000

theorem results_tmp4 {fn : Func} {t u v x : Tmp} (h : fn.results = #[.tmp t, .tmp u, .tmp v, .tmp x]) (tmps : Array Value) (P : Program) (w : World) :
    (results fn tmps).run P w = .ok (.tuple #[tmps.getD t undef, tmps.getD u undef, tmps.getD v undef, tmps.getD x undef]) w := by simp [results, h]

theorem block_any (M : HM) (g bn bo bb x : Nat) (w : World) (h : HRep w g bn bo bb M) (hx : x < 18446744073709551616) :
    Calls Try.prog 29 #[.pointer (some ⟨g, 0, none⟩), .int .u64 x] w fun e w' =>
      e = .returned (.tuple #[.int .i64 (M.bk x : Nat), .int .i64 (M.bt x : Nat), .int .i64 (M.bn x : Nat), .bool (M.at x).isSome]) ∧ w = w' := by
  have Hh := hide h
  cases h1 : (M.at x).isSome
  · have H := hide h1
    have E := hide (show M.bk x = 0 ∧ M.bt x = 0 ∧ M.bn x = 0 by simp [HM.bk, HM.bt, HM.bn, h1])
    clear h h1
    go_enter Try.func29, Try.ntmps29
    go_wp2_with (go_at_call 43; refine (at_any M g bn bo bb x _ (unhide Hh) hx).mono ?_; rintro e w' ⟨rfl, rfl⟩; rw [unhide H])
    refine bodyPost_ret (results_tmp4 rfl _ _ _) rfl ?_
    rw [(unhide E).1, (unhide E).2.1, (unhide E).2.2]
    exact ⟨rfl, rfl⟩
  · obtain ⟨h2, h3, h4, h5⟩ := HM.at_isSome h1
    have H := hide h1
    have H2 := hide h2
    have c0 := h.c0
    have hl := h.len
    have hs := h.ok.s
    have cn := h.cn h4
    have hd := h.ok.getD (x / 2)
    have E : M.bk x = M.now.getD (x / 2) 0 % 8 ∧ M.bt x = M.now.getD (x / 2) 0 / 65536 ∧ M.bn x = (if M.now.getD (x / 2) 0 % 8 = 4 then 0 else M.now.getD (x / 2) 0 / 8 % 8192) := by
      simp [HM.bk, HM.bt, HM.bn, h1]
    generalize M.now.getD (x / 2) 0 = hd0 at cn hd E
    by_cases h6 : hd0 % 8 = 4
    · rw [if_pos h6] at E
      have b6 : ((((hd0 % 8 : Nat) : Int)) == 4) = true := by rw [h6]; rfl
      have E' := hide E
      clear h h1 h2 h3 h5 E h6
      go_enter Try.func29, Try.ntmps29
      go_wp2_with (first
        | (go_at_call 43; refine (at_any M g bn bo bb x _ (unhide Hh) hx).mono ?_; rintro e w' ⟨rfl, rfl⟩; rw [unhide H2]; dsimp only [Option.getD, Option.isSome])
        | (go_at_call 39; refine (told_any hd0 _ hd).mono ?_; rintro e w' ⟨rfl, rfl⟩))
      refine bodyPost_ret (results_tmp4 rfl _ _ _) rfl ?_
      rw [(unhide E').1, (unhide E').2.1, (unhide E').2.2]
      exact ⟨rfl, rfl⟩
    · rw [if_neg h6] at E
      have b6 : ((((hd0 % 8 : Nat) : Int)) == 4) = false := by rw [beq_eq_false_iff_ne]; omega
      have E' := hide E
      clear h h1 h2 h3 h5 E h6
      go_enter Try.func29, Try.ntmps29
      go_wp2_with (first
        | (go_at_call 43; refine (at_any M g bn bo bb x _ (unhide Hh) hx).mono ?_; rintro e w' ⟨rfl, rfl⟩; rw [unhide H2]; dsimp only [Option.getD, Option.isSome])
        | (go_at_call 39; refine (told_any hd0 _ hd).mono ?_; rintro e w' ⟨rfl, rfl⟩))
      refine bodyPost_ret (results_tmp4 rfl _ _ _) rfl ?_
      rw [(unhide E').1, (unhide E').2.1, (unhide E').2.2]
      exact ⟨rfl, rfl⟩

theorem bn_lt (M : HM) (x : Nat) : M.bn x < 8192 := by
  unfold HM.bn
  split
  · split <;> omega
  · omega

/-- There is such a part. -/
def HM.has (M : HM) (x : Nat) (i : Int) : Bool := (M.at x).isSome && decide (0 ≤ i ∧ i < (M.bn x : Int))

theorem part_no (M : HM) (g bn bo bb x : Nat) (i : Int) (w : World) (h : HRep w g bn bo bb M) (hx : x < 18446744073709551616) (hi : M.has x i = false) :
    Calls Try.prog 31 #[.pointer (some ⟨g, 0, none⟩), .int .u64 x, .int .i64 i] w fun e w' => e = .returned (.tuple #[.int .u64 0, .bool false]) ∧ w = w' := by
  have Hc := hide (block_any M g bn bo bb x w h hx)
  clear h
  have hb := bn_lt M x
  unfold HM.has at hi
  generalize M.bk x = K at Hc
  generalize M.bt x = T at Hc
  generalize M.bn x = N at *
  generalize (M.at x).isSome = B at *
  cases B
  · clear hi
    go_enter Try.func31, Try.ntmps31
    go_wp2_with (go_at_call 29; refine (unhide Hc).mono ?_; rintro e w' ⟨rfl, rfl⟩)
    go_ret2
    exact ⟨rfl, rfl⟩
  · simp only [Bool.true_and, decide_eq_false_iff_not] at hi
    by_cases h0 : i < 0
    · clear hi
      go_enter Try.func31, Try.ntmps31
      go_wp2_with (go_at_call 29; refine (unhide Hc).mono ?_; rintro e w' ⟨rfl, rfl⟩)
      go_ret2
      exact ⟨rfl, rfl⟩
    · have h1 : (N : Int) ≤ i := by omega
      clear hi
      go_enter Try.func31, Try.ntmps31
      go_wp2_with (go_at_call 29; refine (unhide Hc).mono ?_; rintro e w' ⟨rfl, rfl⟩)
      go_ret2
      exact ⟨rfl, rfl⟩

theorem part_yes (M : HM) (g bn bo bb x i : Nat) (w : World) (h : HRep w g bn bo bb M) (hx : x < 18446744073709551616) (hs : (M.at x).isSome = true) (hi : i < M.bn x) (hin : x / 2 + 1 + i < M.now.length) :
    Calls Try.prog 31 #[.pointer (some ⟨g, 0, none⟩), .int .u64 x, .int .i64 (i : Int)] w fun e w' => e = .returned (.tuple #[.int .u64 ((M.now.getD (x / 2 + 1 + i) 0 : Nat) : Int), .bool true]) ∧ w = w' := by
  have hc := block_any M g bn bo bb x w h hx
  rw [hs] at hc
  have Hc := hide hc
  have c0 := h.c0
  have hl := h.len
  have hsz := h.ok.s
  have cn := h.cn hin
  clear h hs hc
  generalize M.bk x = K at Hc
  generalize M.bt x = T at Hc
  generalize M.bn x = N at *
  generalize M.now.getD (x / 2 + 1 + i) 0 = V at *
  go_enter Try.func31, Try.ntmps31
  go_wp2_with (go_at_call 29; refine (unhide Hc).mono ?_; rintro e w' ⟨rfl, rfl⟩)
  go_ret2
  exact ⟨rfl, rfl⟩

theorem setPart_no (M : HM) (g bn bo bb x y : Nat) (i : Int) (w : World) (h : HRep w g bn bo bb M) (hx : x < 18446744073709551616) (hi : M.has x i = false) :
    Calls Try.prog 19 #[.pointer (some ⟨g, 0, none⟩), .int .u64 x, .int .i64 i, .int .u64 y] w fun e w' => e = .returned (.bool false) ∧ w = w' := by
  have Hc := hide (part_no M g bn bo bb x i w h hx hi)
  clear h hi
  go_enter Try.func19, Try.ntmps19
  go_wp2_with (go_at_call 31; refine (unhide Hc).mono ?_; rintro e w' ⟨rfl, rfl⟩)
  go_ret
  exact ⟨rfl, rfl⟩

theorem setPart_yes (M : HM) (g bn bo bb x i y : Nat) (w : World) (h : HRep w g bn bo bb M) (hx : x < 18446744073709551616) (hy : y < 18446744073709551616) (hs : (M.at x).isSome = true) (hi : i < M.bn x) (hin : x / 2 + 1 + i < M.now.length)
    (hv : M.value y = true) :
    Calls Try.prog 19 #[.pointer (some ⟨g, 0, none⟩), .int .u64 x, .int .i64 (i : Int), .int .u64 y] w fun e w' =>
      e = .returned (.bool true) ∧ HRep w' g bn bo bb (M.set (x / 2 + 1 + i) y) ∧ Chg (fun k => k = bn) w w' := by
  have Hc := hide (part_yes M g bn bo bb x i w h hx hs hi hin)
  have hcv := value_any M g bn bo bb y w h hy
  rw [hv] at hcv
  have Hv := hide hcv
  have c0 := h.c0
  have hl := h.len
  have hsz := h.ok.s
  have cn := h.cn hin
  have fn := h.rn.frozen (x / 2 + 1 + i)
  have hb := bn_lt M x
  have Hh := hide h
  clear h hs hv hcv
  generalize M.now.getD (x / 2 + 1 + i) 0 = V at *
  generalize M.bn x = N at *
  go_enter Try.func19, Try.ntmps19
  go_wp2_with (first
    | (go_at_call 31; refine (unhide Hc).mono ?_; rintro e w' ⟨rfl, rfl⟩)
    | (go_at_call 35; refine (unhide Hv).mono ?_; rintro e w' ⟨rfl, rfl⟩))
  go_ret
  have h := unhide Hh
  have n1 : g ≠ bn := h.st.ne_ h.rn (by decide)
  have n4 : bn ≠ bb := h.rn.ne_ h.rb (by decide)
  refine ⟨rfl, ⟨?_, ?_, h.ro.far (Ne.symm h.ne) _, h.rb.far (Ne.symm n4) _, h.ne, HM.set_ok h.ok _ _ hy⟩, (Chg.refl (fun k => k = bn) w).setCell (p := ⟨bn, x / 2 + 1 + i, none⟩) (fun _ => rfl) _⟩
  · have := h.st.far (p := ⟨bn, x / 2 + 1 + i, none⟩) n1 (.int .u64 (y : Int))
    simpa [HM.set] using this
  · have := h.rn.set_ (x / 2 + 1 + i) (.int .u64 (y : Int))
    rw [wvs_set _ _ _ _ hin] at this
    exact this
end Go.Proofs.Ytlgkgglecgdkgaa
