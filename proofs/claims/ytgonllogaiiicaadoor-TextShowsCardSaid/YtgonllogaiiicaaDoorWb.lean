/-
  Layer 17: whether instructions may be, together.
-/
import Derived.Test.YtgonllogaiiicaaDoorWa
namespace Go.Proofs.YtgonllogaiiicaaDoor
open Go.RowKit
set_option maxHeartbeats 1000000
set_option maxRecDepth 100000
theorem flat_get {α : Type} (f : α → List Value) (n : Nat) (hf : ∀ x, (f x).length = n) : ∀ (l : List α) (k j : Nat) (x : α), l[k]? = some x → j < n → (l.flatMap f)[k * n + j]? = (f x)[j]? := by
  intro l
  induction l with
  | nil => intro k j x h; simp at h
  | cons y l ih =>
    intro k j x h hj
    rw [List.flatMap_cons]
    cases k with
    | zero =>
      simp at h
      subst h
      rw [Nat.zero_mul, Nat.zero_add, List.getElem?_append_left (by rw [hf]; exact hj)]
    | succ k =>
      rw [List.getElem?_append_right (by rw [hf, Nat.succ_mul]; omega), hf]
      rw [show (k + 1) * n + j - n = k * n + j by rw [Nat.succ_mul]; omega]
      exact ih k j x (by simpa using h) hj
def insv (i : Ins) : List Value := [.int .i64 i.op, .int .i64 i.a, .int .i64 i.b]
section
variable {T : Nat → Prop} {w : World} {A : Option Addr}
theorem code_at {l : List Ins} (h : Rd T w A (l.flatMap insv)) (hn : l ≠ []) : ∃ b o, A = some ⟨b, o, none⟩ ∧ T b ∧ ∀ k i, l[k]? = some i → w.cell? ⟨b, o + k * 3, none⟩ = some (.int .i64 i.op) ∧ w.cell? ⟨b, o + k * 3 + 1, none⟩ = some (.int .i64 i.a) ∧ w.cell? ⟨b, o + k * 3 + 2, none⟩ = some (.int .i64 i.b) := by
  obtain ⟨b, o, hA, hT, hc⟩ := h.flat (by
    intro e
    rcases l with _ | ⟨x, l⟩
    · exact hn rfl
    · simp [insv] at e)
  refine ⟨b, o, hA, hT, fun k i hi => ?_⟩
  have hg := fun j (hj : j < 3) => flat_get insv 3 (fun _ => rfl) l k j i hi hj
  exact ⟨hc _ _ (hg 0 (by omega)), by rw [Nat.add_assoc]; exact hc _ _ (hg 1 (by omega)), by rw [Nat.add_assoc]; exact hc _ _ (hg 2 (by omega))⟩
end
theorem any_take_succ {α : Type} (p : α → Bool) (l : List α) (k : Nat) (h : k < l.length) : (l.take (k + 1)).any p = ((l.take k).any p || p l[k]) := by
  rw [List.take_succ_eq_append_getElem h, List.any_append]
  simp
def farI (n : Nat) (i : Ins) : Bool := goesB i.op && decide ((n : Int) ≤ i.a)
def badI (i : Ins) : Bool := !insOkB i
/-- Whether instructions may be, together. -/
def codeE (l : List Ins) : Int := if 20000 < l.length ∨ l.any badI = true then 150 else if l.any (farI l.length) = true then 160 else 0
theorem bad_any (i : Ins) (w : World) (hl : Lay w) : Calls Tryd.prog 50 #[.agg #[.int .i64 i.op, .int .i64 i.a, .int .i64 i.b]] w fun e w' => e = .returned (.bool (badI i)) ∧ Chg (fun _ => False) w w' := by
  have hc := opCheck_any i (w.alloc (.cells #[.int .i64 i.op, .int .i64 i.a, .int .i64 i.b] 42)) (hl.chg ((Chg.refl (fun _ => False) w).alloc _) (fun _ _ => id))
  have hE : insE i = if insOkB i then 0 else 150 := rfl
  have hB : badI i = !insOkB i := rfl
  generalize badI i = B at *
  generalize insE i = E at *
  cases hk : insOkB i
  all_goals
    rw [hk] at hE hB
    obtain rfl := hB
    obtain rfl := hE
    have HC := hide hc
    clear hc hk hl
    go_enter Tryd.func50, Tryd.ntmps50
    go_wp2_with (go_at_call 51; refine (unhide HC).mono ?_; rintro e w' ⟨rfl, hc2⟩)
    go_ret
    exact ⟨rfl, ((Chg.refl _ _).alloc _).trans' hc2⟩
theorem far_any (i : Ins) (g n c : Nat) (A : Option Addr) (w : World) (_hn : n ≤ 1000000) (hg : Blk w g 22 #[.slice A n c]) : Calls Tryd.prog 52 #[.agg #[.int .i64 i.op, .int .i64 i.a, .int .i64 i.b], .pointer (some ⟨g, 0, none⟩)] w fun e w' => e = .returned (.bool (farI n i)) ∧ Chg (fun _ => False) w w' := by
  have hc := goes_any i.op (w.alloc (.cells #[.int .i64 i.op, .int .i64 i.a, .int .i64 i.b] 42))
  have x0 := (hg.alloc (.cells #[.int .i64 i.op, .int .i64 i.a, .int .i64 i.b] 42)).cell 0
  have hlt := hg.lt
  simp only [List.getElem?_toArray, List.getElem?_cons_zero] at x0
  have hE : farI n i = (goesB i.op && decide ((n : Int) ≤ i.a)) := rfl
  generalize farI n i = E at *
  cases hk : goesB i.op
  all_goals
    rw [hk] at hE hc
    have HE := hide hE
    have HC := hide hc
    clear hc hk hE
    go_enter Tryd.func52, Tryd.ntmps52
    go_wp2_with (go_at_call 26; refine (unhide HC).mono ?_; rintro e w' ⟨rfl, rfl⟩)
    go_ret
    exact ⟨retv (boolv (by rw [unhide HE]; simp)), (Chg.refl _ _).alloc _⟩
theorem idxBad (l : List Ins) (c : Nat) (A : Option Addr) (T : Nat → Prop) (w : World) (hr : Rd T w A (l.flatMap insv)) (hn : l.length ≤ 1000000) (hl : Lay w) :
    Calls Tryd.prog 65 #[.slice A l.length c, .func (.func 50) #[] #[]] w fun e w' => ∃ k : Int, e = .returned (.int .i64 k) ∧ (decide (0 ≤ k)) = l.any (badI) ∧ Chg (fun _ => False) w w' := by
  have HR := hide hr
  have HN := hide hn
  have HL := hide hl
  clear hr
  go_enter Tryd.func65, Tryd.ntmps65
  go_wp2_with fail
  go_loopw [8] (fun i wr => ∃ k : Nat, i = .int .i64 k ∧ k ≤ l.length ∧ (l.take k).any (badI) = false ∧ Chg (fun _ => False) w wr) (fun i _ => l.length - (intOf i).toNat)
  case atStart => exact ⟨0, rfl, Nat.zero_le _, rfl, Chg.refl _ _⟩
  case round =>
    obtain ⟨wq, rfl⟩ : ∃ wq : World, wq = wr := ⟨_, rfl⟩
    obtain ⟨k, rfl, hk, hany, hch⟩ := hrel
    by_cases hlt : k < l.length
    · have hs := any_take_succ (badI) l k hlt
      obtain ⟨b, o, rfl, _, hat⟩ := code_at ((unhide HR).chg hch (fun _ _ _ => id)) (by rintro rfl; simp at hlt)
      obtain ⟨q0, q1, q2⟩ := hat k _ (List.getElem?_eq_getElem hlt)
      have hmem : l.any (badI) = true ∨ (badI) l[k] = false := by
        cases hp : (badI) l[k]
        · exact .inr rfl
        · exact .inl (List.any_eq_true.2 ⟨_, List.getElem_mem hlt, hp⟩)
      generalize l[k] = x at *
      have HC := hide (bad_any x wq ((unhide HL).chg hch (fun _ _ => id)))
      have HS := hide hs
      have HCH := hide hch
      have HANY := hide hany
      have HM := hide hmem
      cases hp : (badI) x
      all_goals
        rw [hp] at HC
        have HP := hide hp
        clear hat hs hch hany hmem hp
        go_wp2_with (go_at_call 50; refine (unhide HC).mono ?_; rintro e w2 ⟨rfl, hc2⟩; have HC2 := hide hc2; clear hc2)
      · go_roundw
        case rel => exact ⟨k + 1, by go_num, by omega, by rw [unhide HS, unhide HANY, unhide HP]; rfl, (unhide HCH).trans' (unhide HC2)⟩
        case measure => simp [intOf]; omega
      · go_ret
        refine ⟨k, rfl, ?_, (unhide HCH).trans' (unhide HC2)⟩
        rcases unhide HM with h | h
        · rw [h]; exact decide_eq_true (by omega)
        · rw [unhide HP] at h; cases h
    · obtain rfl : k = l.length := by omega
      rw [List.take_length] at hany
      have HCH := hide hch
      have HANY := hide hany
      clear hch hany
      go_wp2_with fail
      go_ret
      exact ⟨-1, rfl, by rw [unhide HANY]; rfl, unhide HCH⟩
theorem hasBad (l : List Ins) (c : Nat) (A : Option Addr) (T : Nat → Prop) (w : World) (hr : Rd T w A (l.flatMap insv)) (hn : l.length ≤ 1000000) (hl : Lay w) :
    Calls Tryd.prog 49 #[.slice A l.length c, .func (.func 50) #[] #[]] w fun e w' => e = .returned (.bool (l.any (badI))) ∧ Chg (fun _ => False) w w' := by
  have HI := hide (idxBad l c A T w hr hn hl)
  clear hr
  go_enter Tryd.func49, Tryd.ntmps49
  go_wp2_with (go_at_call 65; refine (unhide HI).mono ?_; rintro e w2 ⟨k, rfl, hk, hc2⟩; have HK := hide hk; have HC2 := hide hc2; clear hk hc2)
  go_ret
  exact ⟨retv (boolv (unhide HK)), unhide HC2⟩
theorem idxFar (l : List Ins) (c : Nat) (A : Option Addr) (g : Nat) (A2 : Option Addr) (n2 c2 : Nat) (T : Nat → Prop) (w : World) (hr : Rd T w A (l.flatMap insv)) (hn : l.length ≤ 1000000) (hn2 : n2 ≤ 1000000) (hg : Blk w g 22 #[.slice A2 n2 c2]) :
    Calls Tryd.prog 65 #[.slice A l.length c, .func (.func 52) #[] #[.pointer (some ⟨g, 0, none⟩)]] w fun e w' => ∃ k : Int, e = .returned (.int .i64 k) ∧ (decide (0 ≤ k)) = l.any (farI n2) ∧ Chg (fun _ => False) w w' := by
  have HR := hide hr
  have HN := hide hn
  have HG := hide hg
  clear hr
  go_enter Tryd.func65, Tryd.ntmps65
  go_wp2_with fail
  go_loopw [8] (fun i wr => ∃ k : Nat, i = .int .i64 k ∧ k ≤ l.length ∧ (l.take k).any (farI n2) = false ∧ Chg (fun _ => False) w wr) (fun i _ => l.length - (intOf i).toNat)
  case atStart => exact ⟨0, rfl, Nat.zero_le _, rfl, Chg.refl _ _⟩
  case round =>
    obtain ⟨wq, rfl⟩ : ∃ wq : World, wq = wr := ⟨_, rfl⟩
    obtain ⟨k, rfl, hk, hany, hch⟩ := hrel
    by_cases hlt : k < l.length
    · have hs := any_take_succ (farI n2) l k hlt
      obtain ⟨b, o, rfl, _, hat⟩ := code_at ((unhide HR).chg hch (fun _ _ _ => id)) (by rintro rfl; simp at hlt)
      obtain ⟨q0, q1, q2⟩ := hat k _ (List.getElem?_eq_getElem hlt)
      have hmem : l.any (farI n2) = true ∨ (farI n2) l[k] = false := by
        cases hp : (farI n2) l[k]
        · exact .inr rfl
        · exact .inl (List.any_eq_true.2 ⟨_, List.getElem_mem hlt, hp⟩)
      generalize l[k] = x at *
      have HC := hide (far_any x g n2 c2 A2 wq hn2 ((unhide HG).chg hch id))
      have HS := hide hs
      have HCH := hide hch
      have HANY := hide hany
      have HM := hide hmem
      cases hp : (farI n2) x
      all_goals
        rw [hp] at HC
        have HP := hide hp
        clear hat hs hch hany hmem hp
        go_wp2_with (go_at_call 52; refine (unhide HC).mono ?_; rintro e w2 ⟨rfl, hc2⟩; have HC2 := hide hc2; clear hc2)
      · go_roundw
        case rel => exact ⟨k + 1, by go_num, by omega, by rw [unhide HS, unhide HANY, unhide HP]; rfl, (unhide HCH).trans' (unhide HC2)⟩
        case measure => simp [intOf]; omega
      · go_ret
        refine ⟨k, rfl, ?_, (unhide HCH).trans' (unhide HC2)⟩
        rcases unhide HM with h | h
        · rw [h]; exact decide_eq_true (by omega)
        · rw [unhide HP] at h; cases h
    · obtain rfl : k = l.length := by omega
      rw [List.take_length] at hany
      have HCH := hide hch
      have HANY := hide hany
      clear hch hany
      go_wp2_with fail
      go_ret
      exact ⟨-1, rfl, by rw [unhide HANY]; rfl, unhide HCH⟩
theorem hasFar (l : List Ins) (c : Nat) (A : Option Addr) (g : Nat) (A2 : Option Addr) (n2 c2 : Nat) (T : Nat → Prop) (w : World) (hr : Rd T w A (l.flatMap insv)) (hn : l.length ≤ 1000000) (hn2 : n2 ≤ 1000000) (hg : Blk w g 22 #[.slice A2 n2 c2]) :
    Calls Tryd.prog 49 #[.slice A l.length c, .func (.func 52) #[] #[.pointer (some ⟨g, 0, none⟩)]] w fun e w' => e = .returned (.bool (l.any (farI n2))) ∧ Chg (fun _ => False) w w' := by
  have HI := hide (idxFar l c A g A2 n2 c2 T w hr hn hn2 hg)
  clear hr
  go_enter Tryd.func49, Tryd.ntmps49
  go_wp2_with (go_at_call 65; refine (unhide HI).mono ?_; rintro e w2 ⟨k, rfl, hk, hc2⟩; have HK := hide hk; have HC2 := hide hc2; clear hk hc2)
  go_ret
  exact ⟨retv (boolv (unhide HK)), unhide HC2⟩
theorem asmCheck_any (l : List Ins) (c : Nat) (A : Option Addr) (T : Nat → Prop) (w : World) (hr : Rd T w A (l.flatMap insv)) (hn : l.length ≤ 1000000) (hl : Lay w) :
    Calls Tryd.prog 25 #[.slice A l.length c] w fun e w' => e = .returned (.int .i64 (codeE l)) ∧ Chg (fun _ => False) w w' := by
  have h0 := (Chg.refl (fun _ => False) w).alloc (.cells #[.slice A l.length c] 22)
  have HB := hide (hasBad l c A T _ (hr.chg h0 (fun _ _ _ => id)) hn (hl.chg h0 (fun _ _ => id)))
  have HF := hide (fun W (hc : Chg (fun _ => False) (w.alloc (.cells #[.slice A l.length c] 22)) W) => hasFar l c A w.heap.size A l.length c T W ((hr.chg h0 (fun _ _ _ => id)).chg hc (fun _ _ _ => id)) hn hn ((Blk.new w 22 #[.slice A l.length c]).chg hc id))
  have HX := hide (fun W (hc : Chg (fun _ => False) (w.alloc (.cells #[.slice A l.length c] 22)) W) => ((Blk.new w 22 #[.slice A l.length c]).chg hc id).cell 0)
  have hE : codeE l = if 20000 < l.length ∨ l.any badI = true then 150 else if l.any (farI l.length) = true then 160 else 0 := rfl
  generalize codeE l = E at *
  clear h0 hr hl
  by_cases hg : 20000 < l.length
  · obtain rfl : E = 150 := by rw [hE, if_pos (.inl hg)]
    have h2 : decide ((20000 : Int) < (l.length : Int)) = true := decide_eq_true (by omega)
    clear hE
    go_enter Tryd.func25, Tryd.ntmps25
    go_wp2_with fail
    go_ret
    exact ⟨rfl, (Chg.refl _ _).alloc _⟩
  · have h2 : decide ((20000 : Int) < (l.length : Int)) = false := decide_eq_false (by omega)
    generalize l.any badI = b1 at *
    generalize l.any (farI l.length) = b2 at *
    cases b1
    case true =>
      obtain rfl : E = 150 := by rw [hE, if_pos (.inr rfl)]
      clear hE
      go_enter Tryd.func25, Tryd.ntmps25
      go_wp2_with (go_at_call 49; refine (unhide HB).mono ?_; rintro e w2 ⟨rfl, hc2⟩; have HC2 := hide hc2; clear hc2)
      go_ret
      exact ⟨rfl, ((Chg.refl _ _).alloc _).trans' (unhide HC2)⟩
    case false =>
      have hE2 : E = if b2 = true then 160 else 0 := by rw [hE, if_neg (by simp [hg])]
      clear hE
      cases b2
      all_goals
        obtain rfl := hE2
        go_enter Tryd.func25, Tryd.ntmps25
        go_wp2_with fail
        refine (unhide HB).mono ?_
        rintro e w2 ⟨rfl, hc2⟩
        have x0 := (unhide HX) _ hc2
        simp only [List.getElem?_toArray, List.getElem?_cons_zero] at x0
        have HC2 := hide hc2
        clear hc2
        go_wp2_with fail
        refine ((unhide HF) _ (unhide HC2)).mono ?_
        rintro e w3 ⟨rfl, hc3⟩
        have HC3 := hide hc3
        clear hc3 x0
        go_wp2_with fail
        go_ret
        exact ⟨rfl, (((Chg.refl _ _).alloc _).trans' (unhide HC2)).trans' (unhide HC3)⟩
theorem rq {k : Nat} {args : Array Value} {W : World} {v : Value} (h : Calls Tryd.prog k args W fun e w' => e = .returned v ∧ Chg (fun _ => False) W w') : Calls Tryd.prog k args W fun e w' => e = .returned v ∧ Below W.heap.size W w' :=
  h.mono (fun _ _ h => ⟨h.1, h.2.below (Nat.le_refl _) (fun _ _ h => h.elim)⟩)
theorem chg_regrown (w : World) (d : Nat) (os : Array Obj) : Chg (fun _ => False) w (Go.Sort.grow (redrawn w d) os) := Chg.of_below (below_regrown w d os) _
theorem refCode_any (l : List Ins) (c : Nat) (A : Option Addr) (T : Nat → Prop) (w : World) (hr : Rd T w A (l.flatMap insv)) (hn : l.length ≤ 1000000) :
    Calls Tryd.prog 12 #[.slice A l.length c] w fun e w' => e = .returned (.int .i64 (codeE l)) ∧ Chg (fun _ => False) w w' := by
  have hE : codeE l = if 20000 < l.length ∨ l.any badI = true then 150 else if l.any (farI l.length) = true then 160 else 0 := rfl
  generalize codeE l = E at *
  by_cases hg : 20000 < l.length
  · obtain rfl : E = 150 := by rw [hE, if_pos (.inl hg)]
    have h2 : decide ((20000 : Int) < (l.length : Int)) = true := decide_eq_true (by omega)
    clear hE hr
    go_enter Tryd.func12, Tryd.ntmps12
    go_wp2_with fail
    go_ret
    exact ⟨rfl, Chg.refl _ _⟩
  · have h2 : decide ((20000 : Int) < (l.length : Int)) = false := decide_eq_false (by omega)
    have HR := hide hr
    have HE := hide hE
    clear hr hE
    go_enter Tryd.func12, Tryd.ntmps12
    go_wp2_with fail
    go_loopw [3] (fun i wr => ∃ k : Nat, i = .int .i64 k ∧ k ≤ l.length ∧ (l.take k).any badI = false ∧ Chg (fun _ => False) w wr) (fun i _ => l.length - (intOf i).toNat)
    case atStart => exact ⟨0, rfl, Nat.zero_le _, rfl, Chg.refl _ _⟩
    case round =>
      obtain ⟨wq, rfl⟩ : ∃ wq : World, wq = wr := ⟨_, rfl⟩
      obtain ⟨k, rfl, hk, hany, hch⟩ := hrel
      by_cases hlt : k < l.length
      · have hs := any_take_succ badI l k hlt
        obtain ⟨b, o, rfl, _, hat⟩ := code_at ((unhide HR).chg hch (fun _ _ _ => id)) (by rintro rfl; simp at hlt)
        obtain ⟨q0, q1, q2⟩ := hat k _ (List.getElem?_eq_getElem hlt)
        have hmem : badI l[k] = true → l.any badI = true := fun h => List.any_eq_true.2 ⟨_, List.getElem_mem hlt, h⟩
        generalize l[k] = x at *
        have hc := refCheck_any x wq
        have hb : badI x = !insOkB x := rfl
        have HS := hide hs
        have HCH := hide hch
        have HANY := hide hany
        have HM := hide hmem
        cases hp : insOkB x
        all_goals
          rw [hp] at hc hb
          have HB := hide hb
          have HC := hide hc
          clear hat hs hch hany hmem hp hc hb
          go_wp2_with (go_at_call 33; refine (unhide HC).mono ?_; rintro e w2 ⟨rfl, hc2⟩; have HC2 := hide hc2; clear hc2)
        · go_ret
          exact ⟨retv (intv (by rw [unhide HE, if_pos (.inr ((unhide HM) (unhide HB)))])), (unhide HCH).trans' (unhide HC2)⟩
        · go_roundw
          case rel => exact ⟨k + 1, by go_num, by omega, by rw [unhide HS, unhide HANY, unhide HB]; rfl, (unhide HCH).trans' (unhide HC2)⟩
          case measure => simp [intOf]; omega
      · obtain rfl : k = l.length := by omega
        rw [List.take_length] at hany
        have HCH := hide hch
        have HE2 := hide (show E = if l.any (farI l.length) = true then 160 else 0 by rw [unhide HE, if_neg (by rw [hany]; simp [hg])])
        clear hch hany
        go_wp2_with fail
        go_loop [4] (fun i => ∃ k : Nat, i = .int .i64 k ∧ k ≤ l.length ∧ (l.take k).any (farI l.length) = false) (fun i => l.length - (intOf i).toNat)
        case atStart => exact ⟨0, rfl, Nat.zero_le _, rfl⟩
        case round =>
          obtain ⟨k, rfl, hk, hany⟩ := hrel
          by_cases hlt : k < l.length
          · have hs := any_take_succ (farI l.length) l k hlt
            obtain ⟨b, o, rfl, _, hat⟩ := code_at ((unhide HR).chg (unhide HCH) (fun _ _ _ => id)) (by rintro rfl; simp at hlt)
            obtain ⟨q0, q1, q2⟩ := hat k _ (List.getElem?_eq_getElem hlt)
            have hmem : farI l.length l[k] = true → l.any (farI l.length) = true := fun h => List.any_eq_true.2 ⟨_, List.getElem_mem hlt, h⟩
            generalize l[k] = x at *
            have hc := refGoes_any x.op wq
            have hb : farI l.length x = (goesB x.op && decide ((l.length : Int) ≤ x.a)) := rfl
            have HS := hide hs
            have HANY := hide hany
            have HM := hide hmem
            cases hp : goesB x.op
            case false =>
              rw [hp] at hc hb
              have HB := hide hb
              have HC := hide hc
              clear hat hs hany hmem hp hc hb
              go_wp2_with (go_at_call 34; refine (unhide HC).mono ?_; rintro e w2 ⟨rfl, rfl⟩)
              go_round
              case rel => exact ⟨k + 1, by go_num, by omega, by rw [unhide HS, unhide HANY, unhide HB]; rfl⟩
              case measure => simp [intOf]; omega
            case true =>
              cases hd : decide ((l.length : Int) ≤ x.a)
              all_goals
                rw [hp, hd] at hb
                rw [hp] at hc
                have HB := hide hb
                have HC := hide hc
                clear hat hs hany hmem hp hc hb
                go_wp2_with (go_at_call 34; refine (unhide HC).mono ?_; rintro e w2 ⟨rfl, rfl⟩)
              · go_round
                case rel => exact ⟨k + 1, by go_num, by omega, by rw [unhide HS, unhide HANY, unhide HB]; rfl⟩
                case measure => simp [intOf]; omega
              · go_ret
                exact ⟨retv (intv (by rw [unhide HE2, if_pos ((unhide HM) (unhide HB))])), unhide HCH⟩
          · obtain rfl : k = l.length := by omega
            rw [List.take_length] at hany
            have HE3 := hide (show E = 0 by rw [unhide HE2, if_neg (by rw [hany]; simp)])
            clear hany
            go_wp2_with fail
            go_ret
            exact ⟨retv (intv (unhide HE3).symm), unhide HCH⟩
theorem range_any_succ (f : Nat → Bool) (k : Nat) : (List.range (k + 1)).any f = ((List.range k).any f || f k) := by
  rw [List.range_succ, List.any_append]
  simp
theorem cell_alloc {w : World} {a : Addr} {v : Value} (h : w.cell? a = some v) (o : Obj) : (w.alloc o).cell? a = some v := by
  rw [World.cell?_alloc_lt _ _ _ (World.block_lt_of_cell? w a h)]
  exact h
theorem hat_lt {w : World} {b o : Nat} {v : Value} (h : w.cell? ⟨b, o, none⟩ = some v) : b < w.heap.size := World.block_lt_of_cell? w ⟨b, o, none⟩ h
end Go.Proofs.YtgonllogaiiicaaDoor
