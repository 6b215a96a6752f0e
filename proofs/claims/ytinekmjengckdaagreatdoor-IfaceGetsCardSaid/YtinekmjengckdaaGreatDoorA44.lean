/-
  Layer 23, the document's side: operators, names, modules' names; a fixity. Layer 23, the document's side: may a fixity be; may fixities be, together? Layer 23, the document's side: may fixities be, together?
-/
import Derived.Test.YtinekmjengckdaaGreatDoorA06
import Derived.Test.YtinekmjengckdaaGreatDoorA03
import Derived.Test.YtinekmjengckdaaGreatDoorA04
import Derived.Test.YtinekmjengckdaaGreatDoorA14
import Derived.Deep.RegionHeld3
import Derived.Deep.QuietTactic
import Derived.BigQuiet
import Derived.Test.YtinekmjengckdaaGreatDoorA11
namespace Go.Proofs.YtinekmjengckdaaGreatDoor
open Go.RowKit
set_option maxHeartbeats 4000000
set_option maxRecDepth 100000
theorem refRight_op (s : ByteArray) (w : World) (hs : s.size ≤ 9223372036854775807) : Calls Tryz.prog 92 #[.agg #[.int .i64 5, .string s, .int .i64 0, .int .i64 0]] w fun e w' => e = .returned (.bool (opB s)) ∧ Chg (fun _ => False) w w' := by
  have hE : opB s = (!s.toList.isEmpty && allSign s && !keyB s) := rfl
  have hem := empty_iff s
  have hw := fun W => while_any 5 5 s W hs
  have hk := fun W => refKey_any s W
  have ha : ((spanN 5 5 s : Int) == (s.size : Int)) = allSign s := by
    have := span_all (fun b : UInt8 => signB b.toNat) s.data.toList
    simpa [spanN, allSign, signB] using this
  have hb := Blk.new w 138 #[.int .i64 5, .string s, .int .i64 0, .int .i64 0]
  have hc0 := (Chg.refl (fun _ => False) w).alloc (.cells #[.int .i64 5, .string s, .int .i64 0, .int .i64 0] 138)
  have HC0 := hH hc0
  have x0 := hb.cell 0
  have x1 := hb.cell 1
  have x2 := hb.cell 2
  have x3 := hb.cell 3
  simp only [List.getElem?_toArray, List.getElem?_cons_zero, List.getElem?_cons_succ] at x0 x1 x2 x3
  generalize opB s = E at *
  generalize spanN 5 5 s = N at *
  generalize allSign s = al at *
  generalize keyB s = kb at *
  have HW := hH hw
  have HK := hH hk
  cases hemp : s.toList.isEmpty <;> cases al <;> cases kb
  all_goals
    have HE := hH hE
    rw [hemp] at HE
    have hne : (!s.toList.isEmpty) = !(s.toList.isEmpty) := rfl
    rw [hemp] at hne
    clear hE hem hw hk hb hc0
    go_enter Tryz.func92, Tryz.ntmps92
    go_wp2_with (first
      | (go_at_call 134; (with_reducible refine (uH HW _).mono ?_); rintro e w2 ⟨rfl, rfl⟩)
      | (go_at_call 135; (with_reducible refine (uH HK _).mono ?_); rintro e w2 ⟨rfl, hc2⟩; have HC2 := hH ((uH HC0).trans' hc2); clear hc2))
    go_ret
    first
      | exact ⟨retv (boolv (by rw [uH HE]; rfl)), (uH HC2)⟩
      | exact ⟨retv (boolv (by rw [uH HE]; rfl)), (uH HC0)⟩
theorem refName_any (s : ByteArray) (w : World) (hs : s.size ≤ 9223372036854775807) : Calls Tryz.prog 42 #[.string s] w fun e w' => e = .returned (.bool (nameB 1 s || opB s)) ∧ Chg (fun _ => False) w w' := by
  have HN := hH (refRight_name s w hs)
  have HO := hH (fun W => refRight_op s W hs)
  generalize opB s = ob at *
  cases hn : nameB 1 s
  · rw [hn] at HN
    go_enter Tryz.func42, Tryz.ntmps42
    go_wp2_with (first
      | (go_at_call 92; (with_reducible refine (uH HN).mono ?_); rintro e w2 ⟨rfl, hc2⟩; have HC2 := hH hc2; clear hc2)
      | (go_at_call 92; (with_reducible refine (uH HO _).mono ?_); rintro e w3 ⟨rfl, hc3⟩; have HC3 := hH ((uH HC2).trans' hc3); clear hc3))
    go_ret
    exact ⟨rfl, uH HC3⟩
  · rw [hn] at HN
    go_enter Tryz.func42, Tryz.ntmps42
    go_wp2_with (go_at_call 92; (with_reducible refine (uH HN).mono ?_); rintro e w2 ⟨rfl, hc2⟩; have HC2 := hH hc2; clear hc2)
    go_ret
    exact ⟨rfl, uH HC2⟩
theorem refMod_any (s : ByteArray) (w : World) (hs : s.size ≤ 9223372036854775807) : Calls Tryz.prog 38 #[.string s] w fun e w' => e = .returned (.bool (modB s)) ∧ Chg (fun _ => False) w w' := by
  have HN := hH (refCon_any s w hs)
  have HE := hH (show modB s = (nameB 2 s && decide (s.size ≤ 60)) from rfl)
  generalize modB s = E at *
  cases hn : nameB 2 s
  · rw [hn] at HN HE
    go_enter Tryz.func38, Tryz.ntmps38
    go_wp2_with (go_at_call 84; (with_reducible refine (uH HN).mono ?_); rintro e w2 ⟨rfl, hc2⟩; have HC2 := hH hc2; clear hc2)
    go_ret
    exact ⟨retv (boolv (uH HE).symm), uH HC2⟩
  · rw [hn] at HN HE
    by_cases h60 : s.size ≤ 60
    · have h60' : (s.size : Int) ≤ 60 := by omega
      rw [decide_eq_true h60] at HE
      go_enter Tryz.func38, Tryz.ntmps38
      go_wp2_with (go_at_call 84; (with_reducible refine (uH HN).mono ?_); rintro e w2 ⟨rfl, hc2⟩; have HC2 := hH hc2; clear hc2)
      go_ret
      exact ⟨retv (boolv (uH HE).symm), uH HC2⟩
    · have h60' : ¬ (s.size : Int) ≤ 60 := by omega
      rw [decide_eq_false h60] at HE
      go_enter Tryz.func38, Tryz.ntmps38
      go_wp2_with (go_at_call 84; (with_reducible refine (uH HN).mono ?_); rintro e w2 ⟨rfl, hc2⟩; have HC2 := hH hc2; clear hc2)
      go_ret
      exact ⟨retv (boolv (by rw [uH HE]; first | rfl | (simp; omega))), uH HC2⟩
end Go.Proofs.YtinekmjengckdaaGreatDoor

namespace Go.Proofs.YtinekmjengckdaaGreatDoor
open Go.RowKit
set_option maxHeartbeats 4000000
set_option maxRecDepth 100000
theorem refFx_any (x : Fx) (w : World) (hs : x.op.size ≤ 9223372036854775807) : Calls Tryz.prog 85 #[.agg #[.string x.op, .int .i64 x.level, .int .i64 x.side]] w fun e w' => e = .returned (.bool (fxB x)) ∧ Chg (fun _ => False) w w' := by
  obtain ⟨op, lv, sd⟩ := x
  have hE : fxB ⟨op, lv, sd⟩ = (opB op && decide (0 ≤ lv) && decide (lv ≤ 9) && decide (-1 ≤ sd) && decide (sd ≤ 1)) := rfl
  have hb := Blk.new w 53 #[.string op, .int .i64 lv, .int .i64 sd]
  have hc0 := (Chg.refl (fun _ => False) w).alloc (.cells #[.string op, .int .i64 lv, .int .i64 sd] 53)
  have HC0 := hH hc0
  have HO := hH (fun W => refRight_op op W hs)
  have KSW := hH (fun W (hW : Chg (fun _ => False) (w.alloc (.cells #[.string op, .int .i64 lv, .int .i64 sd] 53)) W) => show W.cell? ⟨w.heap.size, 0, none⟩ = some (.string op) ∧ W.cell? ⟨w.heap.size, 1, none⟩ = some (.int .i64 lv) ∧ W.cell? ⟨w.heap.size, 2, none⟩ = some (.int .i64 sd) from ⟨(hb.chg hW id).cell 0, (hb.chg hW id).cell 1, (hb.chg hW id).cell 2⟩)
  obtain ⟨x0, x1, x2⟩ := uH KSW _ (Chg.refl _ _)
  generalize fxB ⟨op, lv, sd⟩ = E at *
  dsimp only
  generalize opB op = ob at *
  cases g1 : decide (0 ≤ lv) <;> cases g2 : decide (lv ≤ 9) <;> cases g3 : decide (-1 ≤ sd) <;> cases g4 : decide (sd ≤ 1) <;> cases ob
  all_goals
    rw [g1, g2, g3, g4] at hE
    have HE := hH hE
    clear hE hb hc0
    go_enter Tryz.func85, Tryz.ntmps85
    go_wp2_with (go_at_call 92; (with_reducible refine (uH HO _).mono ?_); rintro e w2 ⟨rfl, hc2⟩; have HC2 := hH ((uH HC0).trans' hc2); clear x0 x1 x2; (obtain ⟨x0, x1, x2⟩ := uH KSW _ hc2); clear hc2)
    go_ret
    exact ⟨retv (boolv (by rw [uH HE]; rfl)), uH HC2⟩
end Go.Proofs.YtinekmjengckdaaGreatDoor

namespace Go.Proofs.YtinekmjengckdaaGreatDoor
open Go.RowKit
set_option maxHeartbeats 4000000
set_option maxRecDepth 100000
def opIn (l : List Fx) (x : Fx) : Bool := l.any fun y => y.op.toList == x.op.toList
def opDup (l : List Fx) : Bool := !decide (l.map Fx.op).Nodup
theorem opIn_next {l : List Fx} {k : Nat} {y : Fx} (x : Fx) (hy : l[k]? = some y) : opIn (l.take (k + 1)) x = (opIn (l.take k) x || (y.op.toList == x.op.toList)) := by
  obtain ⟨hk, rfl⟩ := List.getElem?_eq_some_iff.1 hy
  unfold opIn
  rw [List.take_succ_eq_append_getElem hk, List.any_append]
  simp
theorem opDup_next {l : List Fx} {k : Nat} {x : Fx} (hx : l[k]? = some x) : opDup (l.take (k + 1)) = (opDup (l.take k) || opIn (l.take k) x) := by
  obtain ⟨hk, rfl⟩ := List.getElem?_eq_some_iff.1 hx
  unfold opDup opIn
  rw [List.take_succ_eq_append_getElem hk, List.map_append]
  generalize l.take k = m
  generalize l[k] = x
  rw [Bool.eq_iff_iff]
  simp only [List.map_cons, List.map_nil, Bool.not_eq_true', decide_eq_false_iff_not, List.nodup_append, Bool.or_eq_true, List.any_eq_true, name_same]
  constructor
  · intro h
    by_cases hn : (m.map Fx.op).Nodup
    · right
      refine Classical.byContradiction fun hno => h ⟨hn, by simp, fun a ha b hb e => hno ?_⟩
      obtain ⟨y, hy, rfl⟩ := List.mem_map.1 ha
      rw [List.mem_singleton] at hb
      exact ⟨y, hy, by rw [e, hb]⟩
    · exact .inl hn
  · rintro (h | ⟨y, hy, he⟩) ⟨h1, _, h3⟩
    · exact h h1
    · exact h3 _ (List.mem_map_of_mem hy) _ (List.mem_singleton.2 rfl) he
theorem fixE_long {l : List Fx} (h : 400 < l.length) : fixE l = 40 := by unfold fixE; rw [if_pos (.inl h)]
theorem fixE_bad {l : List Fx} {k : Nat} {x : Fx} (hx : l[k]? = some x) (h : fxB x = false) : fixE l = 40 := by
  unfold fixE
  rw [if_pos (.inr (List.all_eq_false.2 ⟨x, List.mem_of_getElem? hx, by rw [h]; simp⟩))]
theorem fixE_end {l : List Fx} (h4 : ¬ 400 < l.length) (h : ∀ (j : Nat) (x : Fx), j < l.length → l[j]? = some x → fxB x = true) : fixE l = if opDup l then 41 else 0 := by
  have ha : l.all fxB = true := by
    rw [List.all_eq_true]
    intro x hx
    obtain ⟨j, hj⟩ := List.mem_iff_getElem?.1 hx
    exact h j x (List.getElem?_eq_some_iff.1 hj).1 hj
  unfold fixE opDup
  rw [if_neg (by rw [ha]; simp [h4])]
  by_cases hn : (l.map Fx.op).Nodup <;> simp [hn]
theorem refFix_any (l : List Fx) (v : Value) (T : Nat → Prop) (w : World) (hr : RdF T w v l) (hn : l.length ≤ 1000000) :
    Calls Tryz.prog 39 #[v] w fun e w' => e = .returned (.int .i64 (fixE l)) ∧ Chg (fun _ => False) w w' := by
  obtain ⟨A, c, rfl⟩ := RdR.val hr
  by_cases h4 : 400 < l.length
  · have h4' : (400 : Int) < (l.length : Int) := by omega
    have HE := hH (fixE_long h4)
    clear hr
    go_enter Tryz.func39, Tryz.ntmps39
    go_wp2_with fail
    go_ret
    exact ⟨retv (intv (uH HE).symm), Chg.refl _ _⟩
  have h4' : ¬ (400 : Int) < (l.length : Int) := by omega
  have HR := hH hr
  have HB := hH (fun k x (hx : l[k]? = some x) (h : fxB x = false) => fixE_bad hx h)
  have HX := hH (fun h => fixE_end h4 h)
  have HD0 := hH (show (false : Bool) = opDup (l.take 0) by simp [opDup])
  have HT := hH (show l.take l.length = l from List.take_length)
  generalize fixE l = E at *
  clear hr
  go_enter Tryz.func39, Tryz.ntmps39
  go_wp2_with fail
  go_loopw [3, 4, 5] (fun tw i _ wr => ∃ k : Nat, i = .int .i64 (k : Int) ∧ k ≤ l.length ∧ tw = .bool (opDup (l.take k)) ∧ (∀ (j : Nat) (x : Fx), j < k → l[j]? = some x → fxB x = true) ∧ Chg (fun _ => False) w wr) (fun _ i _ _ => l.length - (intOf i).toNat)
  case atStart => exact ⟨0, rfl, Nat.zero_le _, by rw [← uH HD0], fun j x h => absurd h (Nat.not_lt_zero _), Chg.refl _ _⟩
  case round =>
    obtain ⟨wq, rfl⟩ : ∃ wq : World, wq = wr := ⟨_, rfl⟩
    obtain ⟨k, rfl, hk, rfl, hall, hch⟩ := hrel
    by_cases hlt : k < l.length
    · have hki : (k : Int) < (l.length : Int) := by omega
      have hx : l[k]? = some l[k] := List.getElem?_eq_getElem hlt
      generalize l[k] = x at *
      obtain ⟨b, o, c3, hv, _, hok, d0, d1, d2⟩ := RdF.at_ (RdF.chg (uH HR) hch (fun _ _ _ => id)) hx
      injection hv with hv1 hv2 hv3
      subst hv1 hv3
      clear hv2
      have HC := hH (refFx_any x wq hok)
      have HALL := hH hall
      have HCH := hH hch
      have HBX := hH (uH HB k x hx)
      have HDN := hH (opDup_next hx)
      have HX0 := hH hx
      clear hall hch hx
      cases hq : fxB x
      · have HE := hH (uH HBX hq)
        rw [hq] at HC
        clear hq HDN HBX
        go_wp2_with (go_at_call 85; (with_reducible refine (uH HC).mono ?_); rintro e w2 ⟨rfl, hc2⟩; have HC2 := hH ((uH HCH).trans' hc2); clear hc2)
        go_ret
        exact ⟨retv (intv (uH HE).symm), uH HC2⟩
      · rw [hq] at HC
        have HQ := hH hq
        clear hq HBX
        generalize opDup (l.take k) = D at *
        have HI0 := hH (show D = (D || opIn ((l.take k).take 0) x) by simp [opIn])
        go_wp2_with (go_at_call 85; (with_reducible refine (uH HC).mono ?_); rintro e w2 ⟨rfl, hc2⟩; have HC2 := hH ((uH HCH).trans' hc2); clear hc2)
        go_loopw [3, 5] (fun tw j wr => ∃ n : Nat, j = .int .i64 (n : Int) ∧ n ≤ k ∧ tw = .bool (D || opIn ((l.take k).take n) x) ∧ Chg (fun _ => False) w wr) (fun _ j _ => k - (intOf j).toNat)
        case atStart => exact ⟨0, rfl, Nat.zero_le _, by rw [← uH HI0], uH HC2⟩
        case round =>
          clear HC2 HI0 HC HCH
          obtain ⟨wy, rfl⟩ : ∃ wy : World, wy = wr := ⟨_, rfl⟩
          obtain ⟨n, rfl, hn2, rfl, hch⟩ := hrel
          by_cases hln : n < k
          · have hnk : (n : Int) < (k : Int) := by omega
            have hnl : (n : Int) < (l.length : Int) := by omega
            have hn3 : n < l.length := by omega
            have hy : l[n]? = some l[n] := List.getElem?_eq_getElem hn3
            have hy2 : (l.take k)[n]? = some l[n] := by rw [List.getElem?_take_of_lt hln]; exact hy
            generalize l[n] = y at *
            have HIN := hH (opIn_next x hy2)
            obtain ⟨b', o', c4, hv, _, _, e0, _⟩ := RdF.at_ (RdF.chg (uH HR) hch (fun _ _ _ => id)) hy
            obtain ⟨b5, o5, c5, hv', _, _, f0, _⟩ := RdF.at_ (RdF.chg (uH HR) hch (fun _ _ _ => id)) (uH HX0)
            injection hv with hv1 hv2 hv3
            injection hv1 with hv1
            injection hv1 with hv1a hv1b
            injection hv' with hv1' hv2' hv3'
            injection hv1' with hv1'
            injection hv1' with hv1a' hv1b'
            subst hv1a hv1b hv1a' hv1b'
            have HCH := hH hch
            clear hy hy2 hch hv2 hv3 hv2' hv3' d0 d1 d2
            generalize opIn ((l.take k).take n) x = I at *
            cases hdi : (D || I)
            · have HDI := hH hdi
              clear hdi
              generalize hnm : (y.op.toList == x.op.toList) = nm at *
              go_wp2_with fail
              go_quiet (fail)
              go_wp2_with fail
              go_roundw
              case rel => exact ⟨n + 1, by go_num, by omega, by rw [uH HIN, ← Bool.or_assoc, uH HDI, Bool.false_or], (uH HCH).drewN _⟩
              case measure => simp [intOf]; omega
            · have HDI := hH hdi
              clear hdi
              go_wp2_with fail
              go_quiet (fail)
              go_wp2_with fail
              go_roundw
              case rel => exact ⟨n + 1, by go_num, by omega, by rw [uH HIN, ← Bool.or_assoc, uH HDI, Bool.true_or], (uH HCH).drewN _⟩
              case measure => simp [intOf]; omega
          · obtain rfl : n = k := by omega
            have hnk : ¬ (n : Int) < (n : Int) := by omega
            have HCH := hH hch
            have HE2 := hH (show (D || opIn ((l.take n).take n) x) = opDup (l.take (n + 1)) by rw [uH HDN, List.take_take, Nat.min_self])
            clear hch
            rw [uH HE2]
            go_wp2_with fail
            go_roundw
            case rel =>
              refine ⟨n + 1, by go_num, by omega, rfl, fun j z hj hz => ?_, uH HCH⟩
              rcases Nat.lt_or_ge j n with h | h
              · exact uH HALL j z h hz
              · obtain rfl : j = n := by omega
                rw [uH HX0] at hz
                injection hz with hz
                rw [← hz]
                exact uH HQ
            case measure => simp [intOf]; omega
    · obtain rfl : k = l.length := by omega
      have hki : ¬ (l.length : Int) < (l.length : Int) := by omega
      have HE := hH (uH HX hall)
      have HCH := hH hch
      rw [uH HT]
      clear hall hch
      cases hd : opDup l
      · rw [hd] at HE
        clear hd
        go_wp2_with fail
        go_ret
        exact ⟨retv (intv (by rw [uH HE]; rfl)), uH HCH⟩
      · rw [hd] at HE
        clear hd
        go_wp2_with fail
        go_ret
        exact ⟨retv (intv (by rw [uH HE]; rfl)), uH HCH⟩
end Go.Proofs.YtinekmjengckdaaGreatDoor
