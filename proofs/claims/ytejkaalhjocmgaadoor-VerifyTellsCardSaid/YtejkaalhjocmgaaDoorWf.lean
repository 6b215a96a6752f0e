/-
  Layer 19: whether an image may be.
-/
import Derived.Test.YtejkaalhjocmgaaDoorWe
import Derived.Lib.QuietBelow
namespace Go.Proofs.YtejkaalhjocmgaaDoor
open Go.RowKit
set_option maxHeartbeats 1000000
set_option maxRecDepth 100000
theorem rq {k : Nat} {args : Array Value} {W : World} {v : Value} (h : Calls Tryd.prog k args W fun e w' => e = .returned v ∧ Chg (fun _ => False) W w') : Calls Tryd.prog k args W fun e w' => e = .returned v ∧ Below W.heap.size W w' :=
  h.mono (fun _ _ h => ⟨h.1, h.2.below (Nat.le_refl _) (fun _ _ h => h.elim)⟩)
theorem chg_regrown (w : World) (d : Nat) (os : Array Obj) : Chg (fun _ => False) w (Go.Sort.grow (redrawn w d) os) := Chg.of_below (below_regrown w d os) _
theorem refCode_any (l : List Ins) (c : Nat) (A : Option Addr) (T : Nat → Prop) (w : World) (hr : Rd T w A (l.flatMap insv)) (hn : l.length ≤ 1000000) :
    Calls Tryd.prog 28 #[.slice A l.length c] w fun e w' => e = .returned (.int .i64 (codeE l)) ∧ Chg (fun _ => False) w w' := by
  have hE : codeE l = if 20000 < l.length ∨ l.any badI = true then 150 else if l.any (farI l.length) = true then 160 else 0 := rfl
  generalize codeE l = E at *
  by_cases hg : 20000 < l.length
  · obtain rfl : E = 150 := by rw [hE, if_pos (.inl hg)]
    have h2 : decide ((20000 : Int) < (l.length : Int)) = true := decide_eq_true (by omega)
    clear hE hr
    go_enter Tryd.func28, Tryd.ntmps28
    go_wp2_with fail
    go_ret
    exact ⟨rfl, Chg.refl _ _⟩
  · have h2 : decide ((20000 : Int) < (l.length : Int)) = false := decide_eq_false (by omega)
    have HR := hide hr
    have HE := hide hE
    clear hr hE
    go_enter Tryd.func28, Tryd.ntmps28
    go_wp2_with fail
    go_loopw [3] (fun i wr => ∃ k : Nat, i = .int .i64 k ∧ k ≤ l.length ∧ (l.take k).any badI = false ∧ Chg (fun _ => False) w wr) (fun i _ => l.length - (intOf i).toNat)
    case atStart => exact ⟨0, rfl, Nat.zero_le _, rfl, Chg.refl _ _⟩
    case round =>
      obtain ⟨wq, rfl⟩ : ∃ wq : World, wq = wr := ⟨_, rfl⟩
      obtain ⟨k, rfl, hk, hany, hch⟩ := hrel
      by_cases hlt : k < l.length
      · have hs := any_take_succ badI l k hlt
        obtain ⟨b, o, rfl, _, hat⟩ := code_at ((unhide HR).chg hch (fun _ _ _ => id)) (by rintro rfl; simp at hlt)
        obtain ⟨q0, q1, q2⟩ := hat k _ (List.getElem?_eq_getElem hlt)
        have hmem : badI l[k] = true → l.any badI = true := fun h => List.any_eq_true.2 ⟨_, List.getElem_mem hlt, h⟩
        generalize l[k] = x at *
        have hc := refCheck_any x wq
        have hb : badI x = !insOkB x := rfl
        have HS := hide hs
        have HCH := hide hch
        have HANY := hide hany
        have HM := hide hmem
        cases hp : insOkB x
        all_goals
          rw [hp] at hc hb
          have HB := hide hb
          have HC := hide hc
          clear hat hs hch hany hmem hp hc hb
          go_wp2_with (go_at_call 37; refine (unhide HC).mono ?_; rintro e w2 ⟨rfl, hc2⟩; have HC2 := hide hc2; clear hc2)
        · go_ret
          exact ⟨retv (intv (by rw [unhide HE, if_pos (.inr ((unhide HM) (unhide HB)))])), (unhide HCH).trans' (unhide HC2)⟩
        · go_roundw
          case rel => exact ⟨k + 1, by go_num, by omega, by rw [unhide HS, unhide HANY, unhide HB]; rfl, (unhide HCH).trans' (unhide HC2)⟩
          case measure => simp [intOf]; omega
      · obtain rfl : k = l.length := by omega
        rw [List.take_length] at hany
        have HCH := hide hch
        have HE2 := hide (show E = if l.any (farI l.length) = true then 160 else 0 by rw [unhide HE, if_neg (by rw [hany]; simp [hg])])
        clear hch hany
        go_wp2_with fail
        go_loop [4] (fun i => ∃ k : Nat, i = .int .i64 k ∧ k ≤ l.length ∧ (l.take k).any (farI l.length) = false) (fun i => l.length - (intOf i).toNat)
        case atStart => exact ⟨0, rfl, Nat.zero_le _, rfl⟩
        case round =>
          obtain ⟨k, rfl, hk, hany⟩ := hrel
          by_cases hlt : k < l.length
          · have hs := any_take_succ (farI l.length) l k hlt
            obtain ⟨b, o, rfl, _, hat⟩ := code_at ((unhide HR).chg (unhide HCH) (fun _ _ _ => id)) (by rintro rfl; simp at hlt)
            obtain ⟨q0, q1, q2⟩ := hat k _ (List.getElem?_eq_getElem hlt)
            have hmem : farI l.length l[k] = true → l.any (farI l.length) = true := fun h => List.any_eq_true.2 ⟨_, List.getElem_mem hlt, h⟩
            generalize l[k] = x at *
            have hc := refGoes_any x.op wq
            have hb : farI l.length x = (goesB x.op && decide ((l.length : Int) ≤ x.a)) := rfl
            have HS := hide hs
            have HANY := hide hany
            have HM := hide hmem
            cases hp : goesB x.op
            case false =>
              rw [hp] at hc hb
              have HB := hide hb
              have HC := hide hc
              clear hat hs hany hmem hp hc hb
              go_wp2_with (go_at_call 17; refine (unhide HC).mono ?_; rintro e w2 ⟨rfl, rfl⟩)
              go_round
              case rel => exact ⟨k + 1, by go_num, by omega, by rw [unhide HS, unhide HANY, unhide HB]; rfl⟩
              case measure => simp [intOf]; omega
            case true =>
              cases hd : decide ((l.length : Int) ≤ x.a)
              all_goals
                rw [hp, hd] at hb
                rw [hp] at hc
                have HB := hide hb
                have HC := hide hc
                clear hat hs hany hmem hp hc hb
                go_wp2_with (go_at_call 17; refine (unhide HC).mono ?_; rintro e w2 ⟨rfl, rfl⟩)
              · go_round
                case rel => exact ⟨k + 1, by go_num, by omega, by rw [unhide HS, unhide HANY, unhide HB]; rfl⟩
                case measure => simp [intOf]; omega
              · go_ret
                exact ⟨retv (intv (by rw [unhide HE2, if_pos ((unhide HM) (unhide HB))])), unhide HCH⟩
          · obtain rfl : k = l.length := by omega
            rw [List.take_length] at hany
            have HE3 := hide (show E = 0 by rw [unhide HE2, if_neg (by rw [hany]; simp)])
            clear hany
            go_wp2_with fail
            go_ret
            exact ⟨retv (intv (unhide HE3).symm), unhide HCH⟩
/-- Does a pool go wrong at a place? -/
def wrongAt (l : List Cst) (k : Nat) : Bool := match l[k]? with
  | some x => !cstOkB x || (decide (0 < k) && match l[k - 1]? with | some y => !lessC y x | none => false)
  | none => false
def poolBad (l : List Cst) : Bool := (List.range l.length).any (wrongAt l)
/-- Whether an image may be. -/
def imgE (m : Im) : Int := if 4000 < m.pool.length ∨ poolBad m.pool = true then 180 else codeE m.code
theorem range_any_succ (f : Nat → Bool) (k : Nat) : (List.range (k + 1)).any f = ((List.range k).any f || f k) := by
  rw [List.range_succ, List.any_append]
  simp
theorem cell_alloc {w : World} {a : Addr} {v : Value} (h : w.cell? a = some v) (o : Obj) : (w.alloc o).cell? a = some v := by
  rw [World.cell?_alloc_lt _ _ _ (World.block_lt_of_cell? w a h)]
  exact h
theorem hat_lt {w : World} {b o : Nat} {v : Value} (h : w.cell? ⟨b, o, none⟩ = some v) : b < w.heap.size := World.block_lt_of_cell? w ⟨b, o, none⟩ h
theorem refImg_any (m : Im) (c d : Nat) (A B : Option Addr) (T T2 : Nat → Prop) (w : World) (hp : Rd T w A (m.pool.flatMap cstv)) (hc : Rd T2 w B (m.code.flatMap insv)) (hpn : m.pool.length ≤ 1000000) (hcn : m.code.length ≤ 1000000) (hx : ∀ x ∈ m.pool, x.text.size ≤ 9223372036854775807) :
    Calls Tryd.prog 18 #[.agg #[.slice A m.pool.length c, .slice B m.code.length d]] w fun e w' => e = .returned (.int .i64 (imgE m)) ∧ Chg (fun _ => False) w w' := by
  obtain ⟨p, q⟩ := m
  dsimp only at hp hc hpn hcn hx ⊢
  have hE : imgE ⟨p, q⟩ = if 4000 < p.length ∨ poolBad p = true then 180 else codeE q := rfl
  generalize imgE ⟨p, q⟩ = E at *
  have h0 := (Chg.refl (fun _ => False) w).alloc (.cells #[.slice A p.length c, .slice B q.length d] 25)
  have hb := Blk.new w 25 #[.slice A p.length c, .slice B q.length d]
  have HP := hide hp
  have HC := hide hc
  have HX := hide hx
  have HE := hide hE
  have H0 := hide h0
  have HBX := hide hb
  clear hp hc hx hE h0 hb
  by_cases hg : 4000 < p.length
  · have h2 : decide ((4000 : Int) < (p.length : Int)) = true := decide_eq_true (by omega)
    go_enter Tryd.func18, Tryd.ntmps18
    go_wp2_with fail
    go_ret
    exact ⟨retv (intv (by rw [unhide HE, if_pos (.inl hg)])), unhide H0⟩
  · have h2 : decide ((4000 : Int) < (p.length : Int)) = false := decide_eq_false (by omega)
    go_enter Tryd.func18, Tryd.ntmps18
    go_wp2_with fail
    go_loopw [3] (fun i wr => ∃ k : Nat, i = .int .i64 k ∧ k ≤ p.length ∧ (List.range k).any (wrongAt p) = false ∧ Chg (fun _ => False) (w.alloc (.cells #[.slice A p.length c, .slice B q.length d] 25)) wr) (fun i _ => p.length - (intOf i).toNat)
    case atStart => exact ⟨0, rfl, Nat.zero_le _, rfl, Chg.refl _ _⟩
    case round =>
      obtain ⟨wq, rfl⟩ : ∃ wq : World, wq = wr := ⟨_, rfl⟩
      obtain ⟨k, rfl, hk, hany, hch⟩ := hrel
      have hbw := (unhide HBX).chg hch id
      have x0 := hbw.cell 0
      have x1 := hbw.cell 1
      simp only [List.getElem?_toArray, List.getElem?_cons_zero, List.getElem?_cons_succ] at x0 x1
      have hwch := (unhide H0).trans' hch
      by_cases hlt : k < p.length
      · obtain ⟨b, o, rfl, _, hat⟩ := pool_at ((unhide HP).chg hwch (fun _ _ _ => id)) (by rintro rfl; simp at hlt)
        obtain ⟨q0, q1, q2⟩ := hat k _ (List.getElem?_eq_getElem hlt)
        have hsz := (unhide HX) _ (List.getElem_mem hlt)
        have hwr : wrongAt p k = (!cstOkB p[k] || (decide (0 < k) && match p[k - 1]? with | some y => !lessC y p[k] | none => false)) := by
          unfold wrongAt
          rw [List.getElem?_eq_getElem hlt]
        have hpb : wrongAt p k = true → poolBad p = true := fun h => List.any_eq_true.2 ⟨k, List.mem_range.2 hlt, h⟩
        have hprev : 0 < k → ∃ y, p[k - 1]? = some y := fun h => ⟨_, List.getElem?_eq_getElem (show k - 1 < p.length by omega)⟩
        generalize p[k] = x at *
        have HRT := hide (fun W => refRight_any x W hsz)
        have HRN := hide (range_any_succ (wrongAt p) k)
        have HANY := hide hany
        have HPB := hide hpb
        have HWR := hide hwr
        have HAT := hide hat
        have HPV := hide hprev
        have HCH := hide hwch
        have HCB := hide hch
        have HBW := hide hbw
        clear hany hpb hwr hat hprev hwch hch hbw
        have r0 := fun d os => cell_regrown q0 d os
        have r1 := fun d os => cell_regrown q1 d os
        have r2 := fun d os => cell_regrown q2 d os
        have r3 := fun d os => cell_regrown x0 d os
        have HCA := hide (unhide HCH)
        have HCB2 := hide (unhide HCB)
        cases hok : cstOkB x
        case false =>
          have HBAD := hide ((unhide HPB) (by rw [unhide HWR, hok]; rfl))
          have HRT2 := hide (fun W => unhide HRT W)
          rw [hok] at HRT
          clear hok
          go_upto_region 6 with fail
          refine wp_region_quiet_below (by kernel_rfl) (by kernel_rfl) ?_
          repeat (any_goals (first | go_big_quiet_step ((exact Calls.regrown_of (rq (unhide HRT _)))) | quiet_step ((exact Calls.regrown_of (rq (unhide HRT _))))))
          refine wpQuiet_nil ?_
          intro _ hw'
          obtain ⟨⟨dq, osq⟩, hw''⟩ := hw'
          subst hw''
          have HQ := hide (chg_regrown wq dq osq)
          generalize Go.Sort.grow (redrawn wq dq) osq = w2 at *
          clear r0 r1 r2 r3
          try dsimp only
          go_wp2_with fail
          go_ret
          exact ⟨retv (intv (by rw [unhide HE, if_pos (.inr (unhide HBAD))])), (unhide HCA).trans' (unhide HQ)⟩
        case true =>
          rw [hok] at HRT HWR
          clear hok
          by_cases hk0 : k = 0
          · subst hk0
            have HGO := hide (show wrongAt p 0 = false by rw [unhide HWR]; rfl)
            simp only [Nat.zero_mul, Nat.add_zero] at r0 r1 r2
            go_upto_region 6 with fail
            refine wp_region_quiet_below (by kernel_rfl) (by kernel_rfl) ?_
            repeat (any_goals (first | go_big_quiet_step ((exact Calls.regrown_of (rq (unhide HRT _)))) | quiet_step ((exact Calls.regrown_of (rq (unhide HRT _))))))
            refine wpQuiet_nil ?_
            intro _ hw'
            obtain ⟨⟨dq, osq⟩, hw''⟩ := hw'
            subst hw''
            have HQ := hide (chg_regrown wq dq osq)
            generalize Go.Sort.grow (redrawn wq dq) osq = w2 at *
            clear r0 r1 r2 r3
            try dsimp only
            go_wp2_with fail
            go_roundw
            case rel => exact ⟨1, by go_num, by omega, by rw [unhide HRN, unhide HANY, unhide HGO]; rfl, (unhide HCB2).trans' (unhide HQ)⟩
            case measure => simp [intOf]; omega
          · obtain ⟨j, rfl⟩ : ∃ j, k = j + 1 := ⟨k - 1, by omega⟩
            obtain ⟨y, hy⟩ := (unhide HPV) (by omega)
            rw [Nat.add_sub_cancel] at hy
            obtain ⟨p0, p1, p2⟩ := (unhide HAT) j y hy
            have HWR2 := hide (show wrongAt p (j + 1) = !lessC y x by rw [unhide HWR]; simp [hy])
            have HLE := hide (fun W => refLess_any y x W)
            have s0 := fun d os => cell_regrown p0 d os
            have s1 := fun d os => cell_regrown p1 d os
            have s2 := fun d os => cell_regrown p2 d os
            clear p0 p1 p2 hy
            have e1 : IntKind.i64.wrap (((j + 1 : Nat) : Int) - 1) = (j : Int) := by rw [IntWalk.i64_in _ (by omega)]; omega
            have e2 : (0 : Int) ≤ (j : Int) := by omega
            cases hls : lessC y x
            all_goals
              rw [hls] at HLE HWR2
              have HWR3 := hide (unhide HWR2)
              clear hls HWR2
              go_upto_region 6 with fail
              refine wp_region_quiet_below (by kernel_rfl) (by kernel_rfl) ?_
              repeat (any_goals (first | go_big_quiet_step ((first | exact Calls.regrown_of (rq (unhide HRT _)) | exact Calls.regrown_of (rq (unhide HLE _)))) | quiet_step ((first | exact Calls.regrown_of (rq (unhide HRT _)) | exact Calls.regrown_of (rq (unhide HLE _))))))
              refine wpQuiet_nil ?_
              intro _ hw'
              obtain ⟨⟨dq, osq⟩, hw''⟩ := hw'
              subst hw''
              have HQ := hide (chg_regrown wq dq osq)
              generalize Go.Sort.grow (redrawn wq dq) osq = w2 at *
              clear r0 r1 r2 r3
              try dsimp only
              go_wp2_with fail
            · go_ret
              exact ⟨retv (intv (by rw [unhide HE, if_pos (.inr ((unhide HPB) (unhide HWR3)))])), (unhide HCA).trans' (unhide HQ)⟩
            · go_roundw
              case rel => exact ⟨j + 1 + 1, by go_num, by omega, by rw [unhide HRN, unhide HANY, unhide HWR3]; rfl, (unhide HCB2).trans' (unhide HQ)⟩
              case measure => simp [intOf]; omega
      · obtain rfl : k = p.length := by omega
        have HCH := hide hwch
        have hnb : poolBad p = false := hany
        have HE2 := hide (show E = codeE q by rw [unhide HE, if_neg (by rw [hnb]; simp [hg])])
        have HCC := hide (refCode_any q d B T2 wq ((unhide HC).chg hwch (fun _ _ _ => id)) hcn)
        clear hany hwch hch hnb hbw
        go_wp2_with (go_at_call 28; refine (unhide HCC).mono ?_; rintro e w2 ⟨rfl, hc2⟩; have HC2 := hide hc2; clear hc2)
        go_ret
        exact ⟨retv (intv (unhide HE2).symm), (unhide HCH).trans' (unhide HC2)⟩
theorem img_any (m : Im) (c d : Nat) (A B : Option Addr) (T T2 : Nat → Prop) (w : World) (hp : Rd T w A (m.pool.flatMap cstv)) (hc : Rd T2 w B (m.code.flatMap insv)) (hpn : m.pool.length ≤ 1000000) (hcn : m.code.length ≤ 1000000) (hx : ∀ x ∈ m.pool, x.text.size ≤ 9223372036854775807) (hl : Lay w) :
    Calls Tryd.prog 22 #[.agg #[.slice A m.pool.length c, .slice B m.code.length d]] w fun e w' => e = .returned (.int .i64 (imgE m)) ∧ Chg (fun _ => False) w w' := by
  obtain ⟨p, q⟩ := m
  dsimp only at hp hc hpn hcn hx ⊢
  have hE : imgE ⟨p, q⟩ = if 4000 < p.length ∨ poolBad p = true then 180 else codeE q := rfl
  generalize imgE ⟨p, q⟩ = E at *
  have h0 := (Chg.refl (fun _ => False) w).alloc (.cells #[.slice A p.length c, .slice B q.length d] 25)
  have hb := Blk.new w 25 #[.slice A p.length c, .slice B q.length d]
  have HP := hide hp
  have HC := hide hc
  have HX := hide hx
  have HE := hide hE
  have H0 := hide h0
  have HBX := hide hb
  have HL := hide hl
  clear hl
  clear hp hc hx hE h0 hb
  by_cases hg : 4000 < p.length
  · have h2 : decide ((4000 : Int) < (p.length : Int)) = true := decide_eq_true (by omega)
    go_enter Tryd.func22, Tryd.ntmps22
    go_wp2_with fail
    go_ret
    exact ⟨retv (intv (by rw [unhide HE, if_pos (.inl hg)])), unhide H0⟩
  · have h2 : decide ((4000 : Int) < (p.length : Int)) = false := decide_eq_false (by omega)
    go_enter Tryd.func22, Tryd.ntmps22
    go_wp2_with fail
    go_loopw [12] (fun i wr => ∃ k : Nat, i = .int .i64 k ∧ k ≤ p.length ∧ (List.range k).any (wrongAt p) = false ∧ Chg (fun _ => False) (w.alloc (.cells #[.slice A p.length c, .slice B q.length d] 25)) wr) (fun i _ => p.length - (intOf i).toNat)
    case atStart => exact ⟨0, rfl, Nat.zero_le _, rfl, Chg.refl _ _⟩
    case round =>
      obtain ⟨wq, rfl⟩ : ∃ wq : World, wq = wr := ⟨_, rfl⟩
      obtain ⟨k, rfl, hk, hany, hch⟩ := hrel
      have hbw := (unhide HBX).chg hch id
      have x0 := hbw.cell 0
      have x1 := hbw.cell 1
      simp only [List.getElem?_toArray, List.getElem?_cons_zero, List.getElem?_cons_succ] at x0 x1
      have hwch := (unhide H0).trans' hch
      by_cases hlt : k < p.length
      · obtain ⟨b, o, rfl, _, hat⟩ := pool_at ((unhide HP).chg hwch (fun _ _ _ => id)) (by rintro rfl; simp at hlt)
        obtain ⟨q0, q1, q2⟩ := hat k _ (List.getElem?_eq_getElem hlt)
        have hsz := (unhide HX) _ (List.getElem_mem hlt)
        have hwr : wrongAt p k = (!cstOkB p[k] || (decide (0 < k) && match p[k - 1]? with | some y => !lessC y p[k] | none => false)) := by
          unfold wrongAt
          rw [List.getElem?_eq_getElem hlt]
        have hpb : wrongAt p k = true → poolBad p = true := fun h => List.any_eq_true.2 ⟨k, List.mem_range.2 hlt, h⟩
        have hprev : 0 < k → ∃ y, p[k - 1]? = some y := fun h => ⟨_, List.getElem?_eq_getElem (show k - 1 < p.length by omega)⟩
        generalize p[k] = x at *
        have HRT := hide (fun W => right_any x W hsz)
        have HRN := hide (range_any_succ (wrongAt p) k)
        have HANY := hide hany
        have HPB := hide hpb
        have HWR := hide hwr
        have HAT := hide hat
        have HPV := hide hprev
        have HCH := hide hwch
        have HCB := hide hch
        have HBW := hide hbw
        clear hany hpb hwr hat hprev hwch hch hbw
        have hxb := Blk.new wq 46 #[.bool x.isText, .int .i64 x.num, .string x.text]
        have hbw2 := (unhide HBW).alloc (.cells #[.bool x.isText, .int .i64 x.num, .string x.text] 46)
        have HCA := hide (((unhide HCH)).alloc (.cells #[.bool x.isText, .int .i64 x.num, .string x.text] 46))
        have HCB2 := hide (((unhide HCB)).alloc (.cells #[.bool x.isText, .int .i64 x.num, .string x.text] 46))
        have y0 := hxb.cell 0
        have y1 := hxb.cell 1
        have y2 := hxb.cell 2
        have z0 := hbw2.cell 0
        simp only [List.getElem?_toArray, List.getElem?_cons_zero, List.getElem?_cons_succ] at y0 y1 y2 z0
        have r0 := fun d os => cell_regrown y0 d os
        have r1 := fun d os => cell_regrown y1 d os
        have r2 := fun d os => cell_regrown y2 d os
        have r3 := fun d os => cell_regrown z0 d os
        have HY := hide (show True from trivial)
        clear y0 y1 y2 z0 hxb hbw2
        cases hok : cstOkB x
        case false =>
          have HBAD := hide ((unhide HPB) (by rw [unhide HWR, hok]; rfl))
          have HRT2 := hide (fun W => unhide HRT W)
          rw [hok] at HRT
          clear hok
          go_upto_region 6 with fail
          refine wp_region_quiet_below (by kernel_rfl) (by kernel_rfl) ?_
          repeat (any_goals (first | go_big_quiet_step ((exact Calls.regrown_of (rq (unhide HRT _)))) | quiet_step ((exact Calls.regrown_of (rq (unhide HRT _))))))
          refine wpQuiet_nil ?_
          intro _ hw'
          obtain ⟨⟨dq, osq⟩, hw''⟩ := hw'
          subst hw''
          have HQ := hide (chg_regrown (wq.alloc (.cells #[.bool x.isText, .int .i64 x.num, .string x.text] 46)) dq osq)
          generalize Go.Sort.grow (redrawn (wq.alloc (.cells #[.bool x.isText, .int .i64 x.num, .string x.text] 46)) dq) osq = w2 at *
          clear r0 r1 r2 r3
          try dsimp only
          go_wp2_with fail
          go_ret
          exact ⟨retv (intv (by rw [unhide HE, if_pos (.inr (unhide HBAD))])), (unhide HCA).trans' (unhide HQ)⟩
        case true =>
          rw [hok] at HRT HWR
          clear hok
          by_cases hk0 : k = 0
          · subst hk0
            have HGO := hide (show wrongAt p 0 = false by rw [unhide HWR]; rfl)
            simp only [Nat.zero_mul, Nat.add_zero] at q0 q1 q2
            go_upto_region 6 with fail
            refine wp_region_quiet_below (by kernel_rfl) (by kernel_rfl) ?_
            repeat (any_goals (first | go_big_quiet_step ((exact Calls.regrown_of (rq (unhide HRT _)))) | quiet_step ((exact Calls.regrown_of (rq (unhide HRT _))))))
            refine wpQuiet_nil ?_
            intro _ hw'
            obtain ⟨⟨dq, osq⟩, hw''⟩ := hw'
            subst hw''
            have HQ := hide (chg_regrown (wq.alloc (.cells #[.bool x.isText, .int .i64 x.num, .string x.text] 46)) dq osq)
            generalize Go.Sort.grow (redrawn (wq.alloc (.cells #[.bool x.isText, .int .i64 x.num, .string x.text] 46)) dq) osq = w2 at *
            clear r0 r1 r2 r3
            try dsimp only
            go_wp2_with fail
            go_roundw
            case rel => exact ⟨1, by go_num, by omega, by rw [unhide HRN, unhide HANY, unhide HGO]; rfl, (unhide HCB2).trans' (unhide HQ)⟩
            case measure => simp [intOf]; omega
          · obtain ⟨j, rfl⟩ : ∃ j, k = j + 1 := ⟨k - 1, by omega⟩
            obtain ⟨y, hy⟩ := (unhide HPV) (by omega)
            rw [Nat.add_sub_cancel] at hy
            obtain ⟨p0, p1, p2⟩ := (unhide HAT) j y hy
            have HWR2 := hide (show wrongAt p (j + 1) = !lessC y x by rw [unhide HWR]; simp [hy])
            have HLE := hide (fun W => less_any y x W)
            have hsz2 := hat_lt p0
            have s0 := fun d os => cell_regrown (w := (wq.alloc (.cells #[.bool x.isText, .int .i64 x.num, .string x.text] 46))) (cell_alloc p0 _) d os
            have s1 := fun d os => cell_regrown (w := (wq.alloc (.cells #[.bool x.isText, .int .i64 x.num, .string x.text] 46))) (cell_alloc p1 _) d os
            have s2 := fun d os => cell_regrown (w := (wq.alloc (.cells #[.bool x.isText, .int .i64 x.num, .string x.text] 46))) (cell_alloc p2 _) d os
            clear p0 p1 p2 hy
            have e1 : IntKind.i64.wrap (((j + 1 : Nat) : Int) - 1) = (j : Int) := by rw [IntWalk.i64_in _ (by omega)]; omega
            have e2 : (0 : Int) ≤ (j : Int) := by omega
            cases hls : lessC y x
            all_goals
              rw [hls] at HLE HWR2
              have HWR3 := hide (unhide HWR2)
              clear hls HWR2
              go_upto_region 6 with fail
              refine wp_region_quiet_below (by kernel_rfl) (by kernel_rfl) ?_
              repeat (any_goals (first | go_big_quiet_step ((first | exact Calls.regrown_of (rq (unhide HRT _)) | exact Calls.regrown_of (rq (unhide HLE _)))) | quiet_step ((first | exact Calls.regrown_of (rq (unhide HRT _)) | exact Calls.regrown_of (rq (unhide HLE _))))))
              refine wpQuiet_nil ?_
              intro _ hw'
              obtain ⟨⟨dq, osq⟩, hw''⟩ := hw'
              subst hw''
              have HQ := hide (chg_regrown (wq.alloc (.cells #[.bool x.isText, .int .i64 x.num, .string x.text] 46)) dq osq)
              generalize Go.Sort.grow (redrawn (wq.alloc (.cells #[.bool x.isText, .int .i64 x.num, .string x.text] 46)) dq) osq = w2 at *
              clear r0 r1 r2 r3
              try dsimp only
              go_wp2_with fail
            · go_ret
              exact ⟨retv (intv (by rw [unhide HE, if_pos (.inr ((unhide HPB) (unhide HWR3)))])), (unhide HCA).trans' (unhide HQ)⟩
            · go_roundw
              case rel => exact ⟨j + 1 + 1, by go_num, by omega, by rw [unhide HRN, unhide HANY, unhide HWR3]; rfl, (unhide HCB2).trans' (unhide HQ)⟩
              case measure => simp [intOf]; omega
      · obtain rfl : k = p.length := by omega
        have HCH := hide hwch
        have hnb : poolBad p = false := hany
        have HE2 := hide (show E = codeE q by rw [unhide HE, if_neg (by rw [hnb]; simp [hg])])
        have HCC := hide (asmCheck_any q d B T2 wq ((unhide HC).chg hwch (fun _ _ _ => id)) hcn ((unhide HL).chg hwch (fun _ _ => id)))
        clear hany hwch hch hnb hbw
        go_wp2_with (go_at_call 31; refine (unhide HCC).mono ?_; rintro e w2 ⟨rfl, hc2⟩; have HC2 := hide hc2; clear hc2)
        go_ret
        exact ⟨retv (intv (unhide HE2).symm), (unhide HCH).trans' (unhide HC2)⟩
end Go.Proofs.YtejkaalhjocmgaaDoor
