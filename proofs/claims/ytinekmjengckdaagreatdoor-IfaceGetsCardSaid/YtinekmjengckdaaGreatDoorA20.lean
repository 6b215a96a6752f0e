/-
  Layer 23: whether an interface may be.
-/
import Derived.Test.YtinekmjengckdaaGreatDoorA18
import Derived.Test.YtinekmjengckdaaGreatDoorA19
namespace Go.Proofs.YtinekmjengckdaaGreatDoor
open Go.RowKit
set_option maxHeartbeats 4000000
set_option maxRecDepth 100000
def ltS (a b : ByteArray) : Bool := Op.bytesLess a.toList b.toList
theorem ord_iff {lt : ByteArray → ByteArray → Bool} : ∀ {l : List Opn}, ordB lt l = true ↔ ∀ (k : Nat) (a b : Opn), l[k]? = some a → l[k + 1]? = some b → lt a.name b.name = true
  | [] => by simp [ordB]
  | [_] => by simp [ordB]
  | a :: b :: l => by
    rw [ordB, Bool.and_eq_true, ord_iff]
    constructor
    · rintro ⟨h1, h2⟩ k x y hx hy
      cases k with
      | zero =>
        rw [List.getElem?_cons_zero] at hx
        rw [List.getElem?_cons_succ, List.getElem?_cons_zero] at hy
        injection hx with hx
        injection hy with hy
        subst hx hy
        exact h1
      | succ k =>
        rw [List.getElem?_cons_succ] at hx hy
        exact h2 k x y hx hy
    · intro h
      exact ⟨h 0 a b rfl rfl, fun k x y hx hy => h (k + 1) x y (by rw [List.getElem?_cons_succ]; exact hx) (by rw [List.getElem?_cons_succ]; exact hy)⟩
def opGood (nm : ByteArray) (l : List Opn) (k : Nat) (x : Opn) : Prop := modB x.name = true ∧ x.name ≠ nm ∧ ∀ p, k ≠ 0 → l[k - 1]? = some p → ltS p.name x.name = true
theorem opens_bad {nm : ByteArray} {l : List Opn} {k : Nat} {x : Opn} (hx : l[k]? = some x) (h : ¬ opGood nm l k x) : opensB ltS nm l = false := by
  rw [← Bool.not_eq_true]
  intro he
  unfold opensB at he
  rw [Bool.and_eq_true] at he
  have h1 := List.all_eq_true.1 he.1 x (List.mem_of_getElem? hx)
  rw [Bool.and_eq_true] at h1
  refine h ⟨h1.1, by simpa using h1.2, fun p hk hp => ord_iff.1 he.2 (k - 1) p x hp (by rw [show k - 1 + 1 = k by omega]; exact hx)⟩
theorem opens_good {nm : ByteArray} {l : List Opn} (h : ∀ k x, l[k]? = some x → opGood nm l k x) : opensB ltS nm l = true := by
  unfold opensB
  rw [Bool.and_eq_true]
  refine ⟨List.all_eq_true.2 fun x hx => ?_, ord_iff.2 fun k a b ha hb => (h (k + 1) b hb).2.2 a (by omega) (by simpa using ha)⟩
  obtain ⟨k, hk⟩ := List.mem_iff_getElem?.1 hx
  have := h k x hk
  simp [this.1, this.2.1]
def ifE (i : Ifc) : Int := if ifcB ltS i then 0 else 230
theorem env_typ {l : List Sg} (h : envB l = true) : ∀ x ∈ l, typB x.type = true := fun x hx => by
  unfold envB at h
  rw [Bool.and_eq_true] at h
  have := List.all_eq_true.1 h.1 x hx
  unfold sgB at this
  simp only [Bool.and_eq_true] at this
  exact this.1.2
theorem ifCheck_any (i : Ifc) (vo vd vf vs : Value) (T : Nat → Prop) (w : World) (hr : RdIf T w i vo vd vf vs) (hfx : i.fixes.length ≤ 1000000) (lay : Lay w) :
    Calls Tryz.prog 16 #[.agg #[.string i.name, vo, vd, vf, vs]] w fun e w' => e = .returned (.int .i64 (ifE i)) ∧ Chg (fun _ => False) w w' := by
  obtain ⟨A1, c1, rfl⟩ := RdR.val hr.opens
  obtain ⟨A2, c2, rfl⟩ := RdR.val hr.datas
  obtain ⟨A3, c3, rfl⟩ := RdR.val hr.fixes
  obtain ⟨A4, c4, rfl⟩ := RdR.val hr.sigs
  have h0 := (Chg.refl (fun _ => False) w).alloc (.cells #[.string i.name, .slice A1 i.opens.length c1, .slice A2 i.datas.length c2, .slice A3 i.fixes.length c3, .slice A4 i.sigs.length c4] 27)
  have hbx := Blk.new w 27 #[.string i.name, .slice A1 i.opens.length c1, .slice A2 i.datas.length c2, .slice A3 i.fixes.length c3, .slice A4 i.sigs.length c4]
  have KSW := hH (fun W' (hW : Chg (fun _ => False) (w.alloc (.cells #[.string i.name, .slice A1 i.opens.length c1, .slice A2 i.datas.length c2, .slice A3 i.fixes.length c3, .slice A4 i.sigs.length c4] 27)) W') => show W'.cell? ⟨w.heap.size, 0, none⟩ = some (.string i.name) ∧ W'.cell? ⟨w.heap.size, 1, none⟩ = some (.slice A1 i.opens.length c1) ∧ W'.cell? ⟨w.heap.size, 2, none⟩ = some (.slice A2 i.datas.length c2) ∧ W'.cell? ⟨w.heap.size, 3, none⟩ = some (.slice A3 i.fixes.length c3) ∧ W'.cell? ⟨w.heap.size, 4, none⟩ = some (.slice A4 i.sigs.length c4) from ⟨(hbx.chg hW id).cell 0, (hbx.chg hW id).cell 1, (hbx.chg hW id).cell 2, (hbx.chg hW id).cell 3, (hbx.chg hW id).cell 4⟩)
  have hly : ∀ W, Chg (fun _ => False) (w.alloc (.cells #[.string i.name, .slice A1 i.opens.length c1, .slice A2 i.datas.length c2, .slice A3 i.fixes.length c3, .slice A4 i.sigs.length c4] 27)) W → Lay W := fun W hW => lay.chg (h0.trans' hW) (fun _ _ => id)
  have HMN := hH (fun W (hW : Chg (fun _ => False) (w.alloc (.cells #[.string i.name, .slice A1 i.opens.length c1, .slice A2 i.datas.length c2, .slice A3 i.fixes.length c3, .slice A4 i.sigs.length c4] 27)) W) => modNamed_any i.name W hr.name (hly W hW))
  have HRI := hH (fun W (hW : Chg (fun _ => False) (w.alloc (.cells #[.string i.name, .slice A1 i.opens.length c1, .slice A2 i.datas.length c2, .slice A3 i.fixes.length c3, .slice A4 i.sigs.length c4] 27)) W) => hr.chg (h0.trans' hW) (fun _ _ _ => id))
  have HDC := hH (fun W (hW : Chg (fun _ => False) (w.alloc (.cells #[.string i.name, .slice A1 i.opens.length c1, .slice A2 i.datas.length c2, .slice A3 i.fixes.length c3, .slice A4 i.sigs.length c4] 27)) W) => check_data i.datas _ T W ((uH HRI) W hW).datas (hly W hW))
  have HFC := hH (fun W (hW : Chg (fun _ => False) (w.alloc (.cells #[.string i.name, .slice A1 i.opens.length c1, .slice A2 i.datas.length c2, .slice A3 i.fixes.length c3, .slice A4 i.sigs.length c4] 27)) W) => fixCheck_any i.fixes _ T W ((uH HRI) W hW).fixes ((uH HRI) W hW).fcap hfx (hly W hW))
  have HIC := hH (fun (hn : i.sigs.length ≤ 200) W (hW : Chg (fun _ => False) (w.alloc (.cells #[.string i.name, .slice A1 i.opens.length c1, .slice A2 i.datas.length c2, .slice A3 i.fixes.length c3, .slice A4 i.sigs.length c4] 27)) W) => env_any i.sigs _ T W ((uH HRI) W hW).sigs ((uH HRI) W hW).scap (by omega) (hly W hW))
  have HOD := hH (fun (hn : i.sigs.length ≤ 200) (ht : ∀ x ∈ i.sigs, typB x.type = true) W (hW : Chg (fun _ => False) (w.alloc (.cells #[.string i.name, .slice A1 i.opens.length c1, .slice A2 i.datas.length c2, .slice A3 i.fixes.length c3, .slice A4 i.sigs.length c4] 27)) W) => has_so i.sigs _ T W (fun x => !sigB x) ((uH HRI) W hW).sigs (by omega) (fun W2 hW2 x hx u hu hs => sigOdd_any x u T W2 hu hs (ht x hx) (hly W2 (hW.trans' hW2))))
  have HLY := hH hly
  have H0 := hH h0
  have HBX := hH hbx
  have HD := hH (Chg.refl (fun _ => False) (w.alloc (.cells #[.string i.name, .slice A1 i.opens.length c1, .slice A2 i.datas.length c2, .slice A3 i.fixes.length c3, .slice A4 i.sigs.length c4] 27)))
  (obtain ⟨q0, q1, q2, q3, q4⟩ := uH KSW _ (uH HD))
  have hE : ifE i = if (modB i.name && decide (i.opens.length ≤ 60) && decide (i.sigs.length ≤ 200) && opensB ltS i.name i.opens && (datasE i.datas == 0 || datasE i.datas == 102) && fixE i.fixes == 0 && envB i.sigs && i.sigs.all sigB) then 0 else 230 := rfl
  generalize ifE i = E at *
  clear hr hbx h0 lay hly hfx
  cases hm : modB i.name
  · have HB := hH (show E = 230 by rw [hE, hm]; simp)
    rw [hm] at HMN
    clear hE hm
    go_enter Tryz.func16, Tryz.ntmps16
    go_wp2_with (go_at_call 45; (with_reducible refine (uH HMN _ (uH HD)).mono ?_); rintro e w2 ⟨rfl, hc2⟩; replace HD := hH ((uH HD).trans' hc2); clear hc2; (obtain ⟨q0, q1, q2, q3, q4⟩ := uH KSW _ (uH HD)))
    go_ret
    exact ⟨retv (intv (uH HB).symm), (uH H0).trans' (uH HD)⟩
  rw [hm] at HMN hE
  clear hm
  by_cases ho : i.opens.length ≤ 60
  rotate_left
  · have HB := hH (show E = 230 by rw [hE]; simp [ho])
    have ho' : (60 : Int) < (i.opens.length : Int) := by omega
    clear hE
    go_enter Tryz.func16, Tryz.ntmps16
    go_wp2_with (go_at_call 45; (with_reducible refine (uH HMN _ (uH HD)).mono ?_); rintro e w2 ⟨rfl, hc2⟩; replace HD := hH ((uH HD).trans' hc2); clear hc2; (obtain ⟨q0, q1, q2, q3, q4⟩ := uH KSW _ (uH HD)))
    go_ret
    exact ⟨retv (intv (uH HB).symm), (uH H0).trans' (uH HD)⟩
  by_cases hs : i.sigs.length ≤ 200
  rotate_left
  · have HB := hH (show E = 230 by rw [hE]; simp [hs])
    have ho' : ¬ (60 : Int) < (i.opens.length : Int) := by omega
    have hs' : (200 : Int) < (i.sigs.length : Int) := by omega
    clear hE
    go_enter Tryz.func16, Tryz.ntmps16
    go_wp2_with (go_at_call 45; (with_reducible refine (uH HMN _ (uH HD)).mono ?_); rintro e w2 ⟨rfl, hc2⟩; replace HD := hH ((uH HD).trans' hc2); clear hc2; (obtain ⟨q0, q1, q2, q3, q4⟩ := uH KSW _ (uH HD)))
    go_ret
    exact ⟨retv (intv (uH HB).symm), (uH H0).trans' (uH HD)⟩
  have ho' : ¬ (60 : Int) < (i.opens.length : Int) := by omega
  have hs' : ¬ (200 : Int) < (i.sigs.length : Int) := by omega
  rw [decide_eq_true ho, decide_eq_true hs] at hE
  have HE := hH hE
  clear hE
  go_enter Tryz.func16, Tryz.ntmps16
  go_wp2_with (go_at_call 45; (with_reducible refine (uH HMN _ (uH HD)).mono ?_); rintro e w2 ⟨rfl, hc2⟩; replace HD := hH ((uH HD).trans' hc2); clear hc2; (obtain ⟨q0, q1, q2, q3, q4⟩ := uH KSW _ (uH HD)))
  clear q0 q1 q2 q3 q4
  go_loopw [26] (fun t wr => ∃ k : Nat, t = .int .i64 (k : Int) ∧ k ≤ i.opens.length ∧ (∀ j y, j < k → i.opens[j]? = some y → opGood i.name i.opens j y) ∧ Chg (fun _ => False) (w.alloc (.cells #[.string i.name, .slice A1 i.opens.length c1, .slice A2 i.datas.length c2, .slice A3 i.fixes.length c3, .slice A4 i.sigs.length c4] 27)) wr) (fun t _ => i.opens.length - (intOf t).toNat)
  case atStart => exact ⟨0, rfl, Nat.zero_le _, fun j y h => absurd h (Nat.not_lt_zero _), uH HD⟩
  case round =>
    clear HD
    obtain ⟨wq, rfl⟩ : ∃ wq : World, wq = wr := ⟨_, rfl⟩
    obtain ⟨k, rfl, hk, hall, hch⟩ := hrel
    by_cases hlt : k < i.opens.length
    · have hki : (k : Int) < (i.opens.length : Int) := by omega
      have hx : i.opens[k]? = some i.opens[k] := List.getElem?_eq_getElem hlt
      generalize i.opens[k] = x at *
      obtain ⟨b, o, cc, hv, _, hok, d0, d1⟩ := ((uH HRI) wq hch).opens.at_ hx
      injection hv with hv1 hv2 hv3
      subst hv1 hv3
      have hb0 := opens_bad (nm := i.name) hx
      have hB0 : ¬ opGood i.name i.opens k x → E = 230 := fun h => by rw [uH HE, hb0 h]; simp
      have cq := (Chg.refl (fun _ => False) wq).alloc (.cells #[.string x.name, .int .u32 x.digest] 51)
      have HMO := hH (fun W (hW : Chg (fun _ => False) (wq.alloc (.cells #[.string x.name, .int .u32 x.digest] 51)) W) => modNamed_any x.name W hok.1 ((uH HLY) W (hch.trans' (cq.trans' hW))))
      have HE2 := hH ((Chg.refl (fun _ => False) (wq.alloc (.cells #[.string x.name, .int .u32 x.digest] 51))).drew)
      have KSY := hH (show ∀ W', Chg (fun _ => False) (wq.alloc (.cells #[.string x.name, .int .u32 x.digest] 51)) W' → W'.cell? ⟨w.heap.size, 0, none⟩ = some (.string i.name) ∧ W'.cell? ⟨w.heap.size, 1, none⟩ = some (.slice (some ⟨b, o, none⟩) i.opens.length c1) ∧ W'.cell? ⟨wq.heap.size, 0, none⟩ = some (.string x.name) from fun W' hW => ⟨(uH KSW _ (hch.trans' (cq.trans' hW))).1, (uH KSW _ (hch.trans' (cq.trans' hW))).2.1, ((Blk.new wq 51 #[.string x.name, .int .u32 x.digest]).chg hW id).cell 0⟩)
      have HCQ := hH hch
      have HALL := hH hall
      have HX := hH hx
      have HEQ := hH (show (x.name.toList == i.name.toList) = decide (x.name = i.name) from by
        rw [Bool.eq_iff_iff, decide_eq_true_eq, beq_iff_eq]
        exact ⟨bytes_eq, fun h => by rw [h]⟩)
      clear hall hx hv2 hb0
      by_cases hmo : modB x.name = true
      rotate_left
      · -- no name
        have KSX := KSY
        have HK := hH (uH KSX _ (uH HE2))
        have hB := hB0
        have hG := hB0
        rw [show modB x.name = false by simpa using hmo] at HMO
        clear hch hok cq hB0 KSY
        have HB := hH (hB (fun h => hmo h.1))
        clear hB hG
        go_upto_region 6 with fail
        refine wp_region_ab (fun W' => W'.cell? ⟨w.heap.size, 0, none⟩ = some (.string i.name) ∧ W'.cell? ⟨w.heap.size, 1, none⟩ = some (.slice (some ⟨b, o, none⟩) i.opens.length c1) ∧ W'.cell? ⟨wq.heap.size, 0, none⟩ = some (.string x.name)) 99 27 (by kernel_rfl) (by kernel_rfl) ?_
        refine AB.tk (i := 0) (v := ?_) rfl (by kernel_rfl) (by kernel_rfl) (fun _ _ _ h => h) ?_ (uH HK) ?_
        rotate_left
        · intro W' hS'; (try dsimp only at hS'); go_simp; try with_reducible rfl
        try simp only [Act.put, List.setIfInBounds_toArray]
        refine AB.tk (i := 1) (v := ?_) rfl (by kernel_rfl) (by kernel_rfl) (fun _ _ _ h => h) ?_ (uH HK) ?_
        rotate_left
        · intro W' hS'; (try dsimp only at hS'); go_simp; try with_reducible rfl
        try simp only [Act.put]
        refine AB.step (i := 2) (by kernel_rfl) rfl (fun K hK => ?_)
        go_simp
        go_at_call 45
        refine (uH HMO _ (uH HE2)).mono ?_
        rintro e w2 ⟨rfl, hc2⟩
        have HN_ := hH ((uH HE2).trans' hc2)
        clear HE2
        have HE2 := HN_
        clear HN_ HK hc2
        have HK := hH (uH KSX _ (uH HE2))
        go_wp2_with fail
        refine hK.out _ _ (fun _ => uH HK) ?_
        clear hK K
        try simp only [Act.put, List.setIfInBounds_toArray, List.set_cons_zero, List.set_cons_succ]
        refine AB.tk (i := 3) (v := ?_) rfl (by kernel_rfl) (by kernel_rfl) (fun _ _ _ h => h) ?_ (uH HK) ?_
        rotate_left
        · intro W' hS'; (try dsimp only at hS'); go_simp; try with_reducible rfl
        try simp only [Act.put, List.setIfInBounds_toArray]
        refine AB.tk (i := 4) (v := ?_) rfl (by kernel_rfl) (by kernel_rfl) (fun _ _ _ h => h) ?_ (uH HK) ?_
        rotate_left
        · intro W' hS'; (try dsimp only at hS'); go_simp; try with_reducible rfl
        try simp only [Act.put]
        refine AB.ot (i := 5) rfl (by kernel_rfl) (by kernel_rfl) (fun _ _ _ h => h) (uH HK) ?_
        try simp only [Act.put]
        refine AB.ot (i := 6) rfl (by kernel_rfl) (by kernel_rfl) (fun _ _ _ h => h) (uH HK) ?_
        try simp only [Act.put]
        refine AB.ot (i := 7) rfl (by kernel_rfl) (by kernel_rfl) (fun _ _ _ h => h) (uH HK) ?_
        try simp only [Act.put]
        refine AB.ot (i := 8) rfl (by kernel_rfl) (by kernel_rfl) (fun _ _ _ h => h) (uH HK) ?_
        try simp only [Act.put]
        refine AB.ot (i := 9) rfl (by kernel_rfl) (by kernel_rfl) (fun _ _ _ h => h) (uH HK) ?_
        try simp only [Act.put]
        refine AB.tk (i := 10) (v := ?_) rfl (by kernel_rfl) (by kernel_rfl) (fun _ _ _ h => h) ?_ (uH HK) ?_
        rotate_left
        · intro W' hS'; (try dsimp only at hS'); go_simp; try with_reducible rfl
        try simp only [Act.put]
        refine AB.tk (i := 11) (v := ?_) rfl (by kernel_rfl) (by kernel_rfl) (fun _ _ _ h => h) ?_ (uH HK) ?_
        rotate_left
        · intro W' hS'; (try dsimp only at hS'); go_simp; try with_reducible rfl
        try simp only [Act.put]
        refine AB.ot (i := 12) rfl (by kernel_rfl) (by kernel_rfl) (fun _ _ _ h => h) (uH HK) ?_
        try simp only [Act.put]
        refine AB.ot (i := 13) rfl (by kernel_rfl) (by kernel_rfl) (fun _ _ _ h => h) (uH HK) ?_
        try simp only [Act.put]
        refine AB.ot (i := 14) rfl (by kernel_rfl) (by kernel_rfl) (fun _ _ _ h => h) (uH HK) ?_
        try simp only [Act.put]
        refine AB.ot (i := 15) rfl (by kernel_rfl) (by kernel_rfl) (fun _ _ _ h => h) (uH HK) ?_
        try simp only [Act.put]
        refine AB.ot (i := 16) rfl (by kernel_rfl) (by kernel_rfl) (fun _ _ _ h => h) (uH HK) ?_
        try simp only [Act.put]
        refine AB.ot (i := 17) rfl (by kernel_rfl) (by kernel_rfl) (fun _ _ _ h => h) (uH HK) ?_
        try simp only [Act.put]
        refine AB.ot (i := 18) rfl (by kernel_rfl) (by kernel_rfl) (fun _ _ _ h => h) (uH HK) ?_
        try simp only [Act.put]
        refine AB.ot (i := 19) rfl (by kernel_rfl) (by kernel_rfl) (fun _ _ _ h => h) (uH HK) ?_
        try simp only [Act.put]
        refine AB.ot (i := 20) rfl (by kernel_rfl) (by kernel_rfl) (fun _ _ _ h => h) (uH HK) ?_
        try simp only [Act.put]
        refine AB.ot (i := 21) rfl (by kernel_rfl) (by kernel_rfl) (fun _ _ _ h => h) (uH HK) ?_
        try simp only [Act.put]
        refine AB.ot (i := 22) rfl (by kernel_rfl) (by kernel_rfl) (fun _ _ _ h => h) (uH HK) ?_
        try simp only [Act.put]
        refine AB.ot (i := 23) rfl (by kernel_rfl) (by kernel_rfl) (fun _ _ _ h => h) (uH HK) ?_
        try simp only [Act.put]
        refine AB.ot (i := 24) rfl (by kernel_rfl) (by kernel_rfl) (fun _ _ _ h => h) (uH HK) ?_
        try simp only [Act.put]
        refine AB.ot (i := 25) rfl (by kernel_rfl) (by kernel_rfl) (fun _ _ _ h => h) (uH HK) ?_
        try simp only [Act.put]
        refine AB.step (i := 26) (by kernel_rfl) rfl (fun K hK => ?_)
        go_simp
        refine hK.out _ _ (fun _ => uH HK) ?_
        clear hK K
        try simp only [Act.put, List.setIfInBounds_toArray, List.set_cons_zero, List.set_cons_succ]
        refine AB.done (by kernel_rfl) ?_ _
        go_wp2_with fail
        go_ret
        exact ⟨retv (intv (uH HB).symm), (uH H0).trans' (((uH HCQ).trans' ((Chg.refl (fun _ => False) wq).alloc _)).trans' (uH HE2))⟩
      rw [hmo] at HMO
      by_cases hne : x.name = i.name
      · have KSX := KSY
        have HK := hH (uH KSX _ (uH HE2))
        have hB := hB0
        have hG := hB0
        have hnb : (x.name.toList == i.name.toList) = true := by rw [uH HEQ, decide_eq_true hne]
        have HNE := hH hne
        clear hch hok cq hB0 KSY hne
        have HB := hH (hB (fun h => h.2.1 (uH HNE)))
        clear hB hG
        go_upto_region 6 with fail
        refine wp_region_ab (fun W' => W'.cell? ⟨w.heap.size, 0, none⟩ = some (.string i.name) ∧ W'.cell? ⟨w.heap.size, 1, none⟩ = some (.slice (some ⟨b, o, none⟩) i.opens.length c1) ∧ W'.cell? ⟨wq.heap.size, 0, none⟩ = some (.string x.name)) 99 27 (by kernel_rfl) (by kernel_rfl) ?_
        refine AB.tk (i := 0) (v := ?_) rfl (by kernel_rfl) (by kernel_rfl) (fun _ _ _ h => h) ?_ (uH HK) ?_
        rotate_left
        · intro W' hS'; (try dsimp only at hS'); go_simp; try with_reducible rfl
        try simp only [Act.put, List.setIfInBounds_toArray]
        refine AB.tk (i := 1) (v := ?_) rfl (by kernel_rfl) (by kernel_rfl) (fun _ _ _ h => h) ?_ (uH HK) ?_
        rotate_left
        · intro W' hS'; (try dsimp only at hS'); go_simp; try with_reducible rfl
        try simp only [Act.put]
        refine AB.step (i := 2) (by kernel_rfl) rfl (fun K hK => ?_)
        go_simp
        go_at_call 45
        refine (uH HMO _ (uH HE2)).mono ?_
        rintro e w2 ⟨rfl, hc2⟩
        have HN_ := hH ((uH HE2).trans' hc2)
        clear HE2
        have HE2 := HN_
        clear HN_ HK hc2
        have HK := hH (uH KSX _ (uH HE2))
        go_wp2_with fail
        refine hK.out _ _ (fun _ => uH HK) ?_
        clear hK K
        try simp only [Act.put, List.setIfInBounds_toArray, List.set_cons_zero, List.set_cons_succ]
        refine AB.tk (i := 3) (v := ?_) rfl (by kernel_rfl) (by kernel_rfl) (fun _ _ _ h => h) ?_ (uH HK) ?_
        rotate_left
        · intro W' hS'; (try dsimp only at hS'); go_simp; try with_reducible rfl
        try simp only [Act.put, List.setIfInBounds_toArray]
        refine AB.tk (i := 4) (v := ?_) rfl (by kernel_rfl) (by kernel_rfl) (fun _ _ _ h => h) ?_ (uH HK) ?_
        rotate_left
        · intro W' hS'; (try dsimp only at hS'); go_simp; try with_reducible rfl
        try simp only [Act.put]
        refine AB.tk (i := 5) (v := ?_) rfl (by kernel_rfl) (by kernel_rfl) (fun _ _ _ h => h) ?_ (uH HK) ?_
        rotate_left
        · intro W' hS'; (try dsimp only at hS'); go_simp; try with_reducible rfl
        try simp only [Act.put]
        refine AB.tk (i := 6) (v := ?_) rfl (by kernel_rfl) (by kernel_rfl) (fun _ _ _ h => h) ?_ (uH HK) ?_
        rotate_left
        · intro W' hS'; (try dsimp only at hS'); go_simp; try with_reducible rfl
        try simp only [Act.put]
        refine AB.tk (i := 7) (v := ?_) rfl (by kernel_rfl) (by kernel_rfl) (fun _ _ _ h => h) ?_ (uH HK) ?_
        rotate_left
        · intro W' hS'; (try dsimp only at hS'); go_simp; try with_reducible rfl
        try simp only [Act.put]
        refine AB.tk (i := 8) (v := ?_) rfl (by kernel_rfl) (by kernel_rfl) (fun _ _ _ h => h) ?_ (uH HK) ?_
        rotate_left
        · intro W' hS'; (try dsimp only at hS'); go_simp; try with_reducible rfl
        try simp only [Act.put]
        refine AB.tk (i := 9) (v := ?_) rfl (by kernel_rfl) (by kernel_rfl) (fun _ _ _ h => h) ?_ (uH HK) ?_
        rotate_left
        · intro W' hS'; (try dsimp only at hS'); go_simp; try with_reducible rfl
        try simp only [Act.put]
        refine AB.tk (i := 10) (v := ?_) rfl (by kernel_rfl) (by kernel_rfl) (fun _ _ _ h => h) ?_ (uH HK) ?_
        rotate_left
        · intro W' hS'; (try dsimp only at hS'); go_simp; try with_reducible rfl
        try simp only [Act.put]
        refine AB.tk (i := 11) (v := ?_) rfl (by kernel_rfl) (by kernel_rfl) (fun _ _ _ h => h) ?_ (uH HK) ?_
        rotate_left
        · intro W' hS'; (try dsimp only at hS'); go_simp; try with_reducible rfl
        try simp only [Act.put]
        refine AB.ot (i := 12) rfl (by kernel_rfl) (by kernel_rfl) (fun _ _ _ h => h) (uH HK) ?_
        try simp only [Act.put]
        refine AB.ot (i := 13) rfl (by kernel_rfl) (by kernel_rfl) (fun _ _ _ h => h) (uH HK) ?_
        try simp only [Act.put]
        refine AB.ot (i := 14) rfl (by kernel_rfl) (by kernel_rfl) (fun _ _ _ h => h) (uH HK) ?_
        try simp only [Act.put]
        refine AB.ot (i := 15) rfl (by kernel_rfl) (by kernel_rfl) (fun _ _ _ h => h) (uH HK) ?_
        try simp only [Act.put]
        refine AB.ot (i := 16) rfl (by kernel_rfl) (by kernel_rfl) (fun _ _ _ h => h) (uH HK) ?_
        try simp only [Act.put]
        refine AB.ot (i := 17) rfl (by kernel_rfl) (by kernel_rfl) (fun _ _ _ h => h) (uH HK) ?_
        try simp only [Act.put]
        refine AB.ot (i := 18) rfl (by kernel_rfl) (by kernel_rfl) (fun _ _ _ h => h) (uH HK) ?_
        try simp only [Act.put]
        refine AB.ot (i := 19) rfl (by kernel_rfl) (by kernel_rfl) (fun _ _ _ h => h) (uH HK) ?_
        try simp only [Act.put]
        refine AB.ot (i := 20) rfl (by kernel_rfl) (by kernel_rfl) (fun _ _ _ h => h) (uH HK) ?_
        try simp only [Act.put]
        refine AB.ot (i := 21) rfl (by kernel_rfl) (by kernel_rfl) (fun _ _ _ h => h) (uH HK) ?_
        try simp only [Act.put]
        refine AB.ot (i := 22) rfl (by kernel_rfl) (by kernel_rfl) (fun _ _ _ h => h) (uH HK) ?_
        try simp only [Act.put]
        refine AB.ot (i := 23) rfl (by kernel_rfl) (by kernel_rfl) (fun _ _ _ h => h) (uH HK) ?_
        try simp only [Act.put]
        refine AB.ot (i := 24) rfl (by kernel_rfl) (by kernel_rfl) (fun _ _ _ h => h) (uH HK) ?_
        try simp only [Act.put]
        refine AB.ot (i := 25) rfl (by kernel_rfl) (by kernel_rfl) (fun _ _ _ h => h) (uH HK) ?_
        try simp only [Act.put]
        refine AB.step (i := 26) (by kernel_rfl) rfl (fun K hK => ?_)
        go_simp
        refine hK.out _ _ (fun _ => uH HK) ?_
        clear hK K
        try simp only [Act.put, List.setIfInBounds_toArray, List.set_cons_zero, List.set_cons_succ]
        refine AB.done (by kernel_rfl) ?_ _
        go_wp2_with fail
        go_ret
        exact ⟨retv (intv (uH HB).symm), (uH H0).trans' (((uH HCQ).trans' ((Chg.refl (fun _ => False) wq).alloc _)).trans' (uH HE2))⟩
      have hnb : (x.name.toList == i.name.toList) = false := by rw [uH HEQ, decide_eq_false hne]
      have HNE := hH hne
      clear hne
      by_cases hk0 : k = 0
      · have KSX := KSY
        have HK := hH (uH KSX _ (uH HE2))
        have hB := hB0
        have hG : opGood i.name i.opens k x → opGood i.name i.opens k x := id
        have hkd : decide ((0 : Int) < (k : Int)) = false := decide_eq_false (by omega)
        have hkd2 : decide (0 < k) = false := decide_eq_false (by omega)
        have HK0 := hH hk0
        clear hch hok cq hB0 KSY hk0
        have HG := hH (hG (⟨hmo, uH HNE, fun p h _ => absurd (uH HK0) h⟩))
        clear hB hG
        go_upto_region 6 with fail
        refine wp_region_ab (fun W' => W'.cell? ⟨w.heap.size, 0, none⟩ = some (.string i.name) ∧ W'.cell? ⟨w.heap.size, 1, none⟩ = some (.slice (some ⟨b, o, none⟩) i.opens.length c1) ∧ W'.cell? ⟨wq.heap.size, 0, none⟩ = some (.string x.name)) 99 27 (by kernel_rfl) (by kernel_rfl) ?_
        refine AB.tk (i := 0) (v := ?_) rfl (by kernel_rfl) (by kernel_rfl) (fun _ _ _ h => h) ?_ (uH HK) ?_
        rotate_left
        · intro W' hS'; (try dsimp only at hS'); go_simp; try with_reducible rfl
        try simp only [Act.put, List.setIfInBounds_toArray]
        refine AB.tk (i := 1) (v := ?_) rfl (by kernel_rfl) (by kernel_rfl) (fun _ _ _ h => h) ?_ (uH HK) ?_
        rotate_left
        · intro W' hS'; (try dsimp only at hS'); go_simp; try with_reducible rfl
        try simp only [Act.put]
        refine AB.step (i := 2) (by kernel_rfl) rfl (fun K hK => ?_)
        go_simp
        go_at_call 45
        refine (uH HMO _ (uH HE2)).mono ?_
        rintro e w2 ⟨rfl, hc2⟩
        have HN_ := hH ((uH HE2).trans' hc2)
        clear HE2
        have HE2 := HN_
        clear HN_ HK hc2
        have HK := hH (uH KSX _ (uH HE2))
        go_wp2_with fail
        refine hK.out _ _ (fun _ => uH HK) ?_
        clear hK K
        try simp only [Act.put, List.setIfInBounds_toArray, List.set_cons_zero, List.set_cons_succ]
        refine AB.tk (i := 3) (v := ?_) rfl (by kernel_rfl) (by kernel_rfl) (fun _ _ _ h => h) ?_ (uH HK) ?_
        rotate_left
        · intro W' hS'; (try dsimp only at hS'); go_simp; try with_reducible rfl
        try simp only [Act.put, List.setIfInBounds_toArray]
        refine AB.tk (i := 4) (v := ?_) rfl (by kernel_rfl) (by kernel_rfl) (fun _ _ _ h => h) ?_ (uH HK) ?_
        rotate_left
        · intro W' hS'; (try dsimp only at hS'); go_simp; try with_reducible rfl
        try simp only [Act.put]
        refine AB.tk (i := 5) (v := ?_) rfl (by kernel_rfl) (by kernel_rfl) (fun _ _ _ h => h) ?_ (uH HK) ?_
        rotate_left
        · intro W' hS'; (try dsimp only at hS'); go_simp; try with_reducible rfl
        try simp only [Act.put]
        refine AB.tk (i := 6) (v := ?_) rfl (by kernel_rfl) (by kernel_rfl) (fun _ _ _ h => h) ?_ (uH HK) ?_
        rotate_left
        · intro W' hS'; (try dsimp only at hS'); go_simp; try with_reducible rfl
        try simp only [Act.put]
        refine AB.tk (i := 7) (v := ?_) rfl (by kernel_rfl) (by kernel_rfl) (fun _ _ _ h => h) ?_ (uH HK) ?_
        rotate_left
        · intro W' hS'; (try dsimp only at hS'); go_simp; try with_reducible rfl
        try simp only [Act.put]
        refine AB.tk (i := 8) (v := ?_) rfl (by kernel_rfl) (by kernel_rfl) (fun _ _ _ h => h) ?_ (uH HK) ?_
        rotate_left
        · intro W' hS'; (try dsimp only at hS'); go_simp; try with_reducible rfl
        try simp only [Act.put]
        refine AB.tk (i := 9) (v := ?_) rfl (by kernel_rfl) (by kernel_rfl) (fun _ _ _ h => h) ?_ (uH HK) ?_
        rotate_left
        · intro W' hS'; (try dsimp only at hS'); go_simp; try with_reducible rfl
        try simp only [Act.put]
        refine AB.tk (i := 10) (v := ?_) rfl (by kernel_rfl) (by kernel_rfl) (fun _ _ _ h => h) ?_ (uH HK) ?_
        rotate_left
        · intro W' hS'; (try dsimp only at hS'); go_simp; try with_reducible rfl
        try simp only [Act.put]
        refine AB.tk (i := 11) (v := ?_) rfl (by kernel_rfl) (by kernel_rfl) (fun _ _ _ h => h) ?_ (uH HK) ?_
        rotate_left
        · intro W' hS'; (try dsimp only at hS'); go_simp; try with_reducible rfl
        try simp only [Act.put]
        refine AB.tk (i := 12) (v := ?_) rfl (by kernel_rfl) (by kernel_rfl) (fun _ _ _ h => h) ?_ (uH HK) ?_
        rotate_left
        · intro W' hS'; (try dsimp only at hS'); go_simp; try with_reducible rfl
        try simp only [Act.put]
        refine AB.tk (i := 13) (v := ?_) rfl (by kernel_rfl) (by kernel_rfl) (fun _ _ _ h => h) ?_ (uH HK) ?_
        rotate_left
        · intro W' hS'; (try dsimp only at hS'); go_simp; try with_reducible rfl
        try simp only [Act.put]
        refine AB.tk (i := 14) (v := ?_) rfl (by kernel_rfl) (by kernel_rfl) (fun _ _ _ h => h) ?_ (uH HK) ?_
        rotate_left
        · intro W' hS'; (try dsimp only at hS'); go_simp; try with_reducible rfl
        try simp only [Act.put]
        refine AB.ot (i := 15) rfl (by kernel_rfl) (by kernel_rfl) (fun _ _ _ h => h) (uH HK) ?_
        try simp only [Act.put]
        refine AB.ot (i := 16) rfl (by kernel_rfl) (by kernel_rfl) (fun _ _ _ h => h) (uH HK) ?_
        try simp only [Act.put]
        refine AB.ot (i := 17) rfl (by kernel_rfl) (by kernel_rfl) (fun _ _ _ h => h) (uH HK) ?_
        try simp only [Act.put]
        refine AB.ot (i := 18) rfl (by kernel_rfl) (by kernel_rfl) (fun _ _ _ h => h) (uH HK) ?_
        try simp only [Act.put]
        refine AB.ot (i := 19) rfl (by kernel_rfl) (by kernel_rfl) (fun _ _ _ h => h) (uH HK) ?_
        try simp only [Act.put]
        refine AB.ot (i := 20) rfl (by kernel_rfl) (by kernel_rfl) (fun _ _ _ h => h) (uH HK) ?_
        try simp only [Act.put]
        refine AB.ot (i := 21) rfl (by kernel_rfl) (by kernel_rfl) (fun _ _ _ h => h) (uH HK) ?_
        try simp only [Act.put]
        refine AB.ot (i := 22) rfl (by kernel_rfl) (by kernel_rfl) (fun _ _ _ h => h) (uH HK) ?_
        try simp only [Act.put]
        refine AB.ot (i := 23) rfl (by kernel_rfl) (by kernel_rfl) (fun _ _ _ h => h) (uH HK) ?_
        try simp only [Act.put]
        refine AB.ot (i := 24) rfl (by kernel_rfl) (by kernel_rfl) (fun _ _ _ h => h) (uH HK) ?_
        try simp only [Act.put]
        refine AB.tk (i := 25) (v := ?_) rfl (by kernel_rfl) (by kernel_rfl) (fun _ _ _ h => h) ?_ (uH HK) ?_
        rotate_left
        · intro W' hS'; (try dsimp only at hS'); go_simp; try with_reducible rfl
        try simp only [Act.put]
        refine AB.step (i := 26) (by kernel_rfl) rfl (fun K hK => ?_)
        go_simp
        refine hK.out _ _ (fun _ => uH HK) ?_
        clear hK K
        try simp only [Act.put, List.setIfInBounds_toArray, List.set_cons_zero, List.set_cons_succ]
        refine AB.done (by kernel_rfl) ?_ _
        go_wp2_with fail
        go_roundw
        case rel =>
          exact ⟨k + 1, by go_num, by omega, fun j y hj hy => by
            rcases Nat.lt_or_ge j k with h | h
            · exact (uH HALL) j y h hy
            · obtain rfl : j = k := by omega
              have := (uH HX).symm.trans hy
              injection this with this
              rw [← this]
              exact uH HG, ((uH HCQ).trans' ((Chg.refl (fun _ => False) wq).alloc _)).trans' (uH HE2)⟩
        case measure => simp [intOf]; omega
      have hp : i.opens[k - 1]? = some i.opens[k - 1] := List.getElem?_eq_getElem (by omega)
      generalize i.opens[k - 1] = p at *
      have hkz : (0 : Int) < (k : Int) := by omega
      have hkn : 0 < k := by omega
      obtain ⟨b', o', cc', hv, _, _, e0, _⟩ := ((uH HRI) wq hch).opens.at_ hp
      injection hv with hv1 hv2 hv3
      injection hv1 with hv1
      injection hv1 with hb1 ho1
      subst hb1 ho1
      have KSX := hH (show ∀ W', Chg (fun _ => False) (wq.alloc (.cells #[.string x.name, .int .u32 x.digest] 51)) W' → W'.cell? ⟨w.heap.size, 0, none⟩ = some (.string i.name) ∧ W'.cell? ⟨w.heap.size, 1, none⟩ = some (.slice (some ⟨b, o, none⟩) i.opens.length c1) ∧ W'.cell? ⟨wq.heap.size, 0, none⟩ = some (.string x.name) ∧ W'.cell? ⟨b, o + (k - 1) * 2, none⟩ = some (.string p.name) from fun W' hW => ⟨(uH KSY W' hW).1, (uH KSY W' hW).2.1, (uH KSY W' hW).2.2, ((cq.trans' hW).cell (World.block_lt_of_cell? wq _ e0) id).trans e0⟩)
      have HK := hH (uH KSX _ (uH HE2))
      have hw1 : wrap64 ((k : Int) - 1) = ((k - 1 : Nat) : Int) := by rw [w64 _ (by omega)]; omega
      have hw2 : IntKind.i64.wrap ((k : Int) - 1) = ((k - 1 : Nat) : Int) := by simp only [IntKind.wrap, IntKind.bits, IntKind.signed]; simp; omega
      have hkl1 : ((k - 1 : Nat) : Int) < (i.opens.length : Int) := by omega
      have hk0' : (0 : Int) ≤ ((k - 1 : Nat) : Int) := by omega
      cases hlts : ltS p.name x.name
      · have hB := hB0
        have hG := hB0
        have hbl : Op.bytesLess p.name.toList x.name.toList = false := hlts
        clear hch hok cq hB0 KSY hv2 hv3 e0
        have HB := hH (hB (fun h => by have := h.2.2 p hk0 hp; rw [hlts] at this; cases this))
        clear hB hG
        go_upto_region 6 with fail
        refine wp_region_ab (fun W' => W'.cell? ⟨w.heap.size, 0, none⟩ = some (.string i.name) ∧ W'.cell? ⟨w.heap.size, 1, none⟩ = some (.slice (some ⟨b, o, none⟩) i.opens.length c1) ∧ W'.cell? ⟨wq.heap.size, 0, none⟩ = some (.string x.name) ∧ W'.cell? ⟨b, o + (k - 1) * 2, none⟩ = some (.string p.name)) 99 27 (by kernel_rfl) (by kernel_rfl) ?_
        refine AB.tk (i := 0) (v := ?_) rfl (by kernel_rfl) (by kernel_rfl) (fun _ _ _ h => h) ?_ (uH HK) ?_
        rotate_left
        · intro W' hS'; (try dsimp only at hS'); go_simp; try with_reducible rfl
        try simp only [Act.put, List.setIfInBounds_toArray]
        refine AB.tk (i := 1) (v := ?_) rfl (by kernel_rfl) (by kernel_rfl) (fun _ _ _ h => h) ?_ (uH HK) ?_
        rotate_left
        · intro W' hS'; (try dsimp only at hS'); go_simp; try with_reducible rfl
        try simp only [Act.put]
        refine AB.step (i := 2) (by kernel_rfl) rfl (fun K hK => ?_)
        go_simp
        go_at_call 45
        refine (uH HMO _ (uH HE2)).mono ?_
        rintro e w2 ⟨rfl, hc2⟩
        have HN_ := hH ((uH HE2).trans' hc2)
        clear HE2
        have HE2 := HN_
        clear HN_ HK hc2
        have HK := hH (uH KSX _ (uH HE2))
        go_wp2_with fail
        refine hK.out _ _ (fun _ => uH HK) ?_
        clear hK K
        try simp only [Act.put, List.setIfInBounds_toArray, List.set_cons_zero, List.set_cons_succ]
        refine AB.tk (i := 3) (v := ?_) rfl (by kernel_rfl) (by kernel_rfl) (fun _ _ _ h => h) ?_ (uH HK) ?_
        rotate_left
        · intro W' hS'; (try dsimp only at hS'); go_simp; try with_reducible rfl
        try simp only [Act.put, List.setIfInBounds_toArray]
        refine AB.tk (i := 4) (v := ?_) rfl (by kernel_rfl) (by kernel_rfl) (fun _ _ _ h => h) ?_ (uH HK) ?_
        rotate_left
        · intro W' hS'; (try dsimp only at hS'); go_simp; try with_reducible rfl
        try simp only [Act.put]
        refine AB.tk (i := 5) (v := ?_) rfl (by kernel_rfl) (by kernel_rfl) (fun _ _ _ h => h) ?_ (uH HK) ?_
        rotate_left
        · intro W' hS'; (try dsimp only at hS'); go_simp; try with_reducible rfl
        try simp only [Act.put]
        refine AB.tk (i := 6) (v := ?_) rfl (by kernel_rfl) (by kernel_rfl) (fun _ _ _ h => h) ?_ (uH HK) ?_
        rotate_left
        · intro W' hS'; (try dsimp only at hS'); go_simp; try with_reducible rfl
        try simp only [Act.put]
        refine AB.tk (i := 7) (v := ?_) rfl (by kernel_rfl) (by kernel_rfl) (fun _ _ _ h => h) ?_ (uH HK) ?_
        rotate_left
        · intro W' hS'; (try dsimp only at hS'); go_simp; try with_reducible rfl
        try simp only [Act.put]
        refine AB.tk (i := 8) (v := ?_) rfl (by kernel_rfl) (by kernel_rfl) (fun _ _ _ h => h) ?_ (uH HK) ?_
        rotate_left
        · intro W' hS'; (try dsimp only at hS'); go_simp; try with_reducible rfl
        try simp only [Act.put]
        refine AB.tk (i := 9) (v := ?_) rfl (by kernel_rfl) (by kernel_rfl) (fun _ _ _ h => h) ?_ (uH HK) ?_
        rotate_left
        · intro W' hS'; (try dsimp only at hS'); go_simp; try with_reducible rfl
        try simp only [Act.put]
        refine AB.tk (i := 10) (v := ?_) rfl (by kernel_rfl) (by kernel_rfl) (fun _ _ _ h => h) ?_ (uH HK) ?_
        rotate_left
        · intro W' hS'; (try dsimp only at hS'); go_simp; try with_reducible rfl
        try simp only [Act.put]
        refine AB.tk (i := 11) (v := ?_) rfl (by kernel_rfl) (by kernel_rfl) (fun _ _ _ h => h) ?_ (uH HK) ?_
        rotate_left
        · intro W' hS'; (try dsimp only at hS'); go_simp; try with_reducible rfl
        try simp only [Act.put]
        refine AB.tk (i := 12) (v := ?_) rfl (by kernel_rfl) (by kernel_rfl) (fun _ _ _ h => h) ?_ (uH HK) ?_
        rotate_left
        · intro W' hS'; (try dsimp only at hS'); go_simp; try with_reducible rfl
        try simp only [Act.put]
        refine AB.tk (i := 13) (v := ?_) rfl (by kernel_rfl) (by kernel_rfl) (fun _ _ _ h => h) ?_ (uH HK) ?_
        rotate_left
        · intro W' hS'; (try dsimp only at hS'); go_simp; try with_reducible rfl
        try simp only [Act.put]
        refine AB.tk (i := 14) (v := ?_) rfl (by kernel_rfl) (by kernel_rfl) (fun _ _ _ h => h) ?_ (uH HK) ?_
        rotate_left
        · intro W' hS'; (try dsimp only at hS'); go_simp; try with_reducible rfl
        try simp only [Act.put]
        refine AB.tk (i := 15) (v := ?_) rfl (by kernel_rfl) (by kernel_rfl) (fun _ _ _ h => h) ?_ (uH HK) ?_
        rotate_left
        · intro W' hS'; (try dsimp only at hS'); go_simp; try with_reducible rfl
        try simp only [Act.put]
        refine AB.tk (i := 16) (v := ?_) rfl (by kernel_rfl) (by kernel_rfl) (fun _ _ _ h => h) ?_ (uH HK) ?_
        rotate_left
        · intro W' hS'; (try dsimp only at hS'); go_simp; try with_reducible rfl
        try simp only [Act.put]
        refine AB.tk (i := 17) (v := ?_) rfl (by kernel_rfl) (by kernel_rfl) (fun _ _ _ h => h) ?_ (uH HK) ?_
        rotate_left
        · intro W' hS'; (try dsimp only at hS'); go_simp; try with_reducible rfl
        try simp only [Act.put]
        refine AB.tk (i := 18) (v := ?_) rfl (by kernel_rfl) (by kernel_rfl) (fun _ _ _ h => h) ?_ (uH HK) ?_
        rotate_left
        · intro W' hS'; (try dsimp only at hS'); go_simp; try with_reducible rfl
        try simp only [Act.put]
        refine AB.tk (i := 19) (v := ?_) rfl (by kernel_rfl) (by kernel_rfl) (fun _ _ _ h => h) ?_ (uH HK) ?_
        rotate_left
        · intro W' hS'; (try dsimp only at hS'); go_simp; try with_reducible rfl
        try simp only [Act.put]
        refine AB.tk (i := 20) (v := ?_) rfl (by kernel_rfl) (by kernel_rfl) (fun _ _ _ h => h) ?_ (uH HK) ?_
        rotate_left
        · intro W' hS'; (try dsimp only at hS'); go_simp; try with_reducible rfl
        try simp only [Act.put]
        refine AB.tk (i := 21) (v := ?_) rfl (by kernel_rfl) (by kernel_rfl) (fun _ _ _ h => h) ?_ (uH HK) ?_
        rotate_left
        · intro W' hS'; (try dsimp only at hS'); go_simp; try with_reducible rfl
        try simp only [Act.put]
        refine AB.tk (i := 22) (v := ?_) rfl (by kernel_rfl) (by kernel_rfl) (fun _ _ _ h => h) ?_ (uH HK) ?_
        rotate_left
        · intro W' hS'; (try dsimp only at hS'); go_simp; try with_reducible rfl
        try simp only [Act.put]
        refine AB.tk (i := 23) (v := ?_) rfl (by kernel_rfl) (by kernel_rfl) (fun _ _ _ h => h) ?_ (uH HK) ?_
        rotate_left
        · intro W' hS'; (try dsimp only at hS'); go_simp; try with_reducible rfl
        try simp only [Act.put]
        refine AB.tk (i := 24) (v := ?_) rfl (by kernel_rfl) (by kernel_rfl) (fun _ _ _ h => h) ?_ (uH HK) ?_
        rotate_left
        · intro W' hS'; (try dsimp only at hS'); go_simp; try with_reducible rfl
        try simp only [Act.put]
        refine AB.tk (i := 25) (v := ?_) rfl (by kernel_rfl) (by kernel_rfl) (fun _ _ _ h => h) ?_ (uH HK) ?_
        rotate_left
        · intro W' hS'; (try dsimp only at hS'); go_simp; try with_reducible rfl
        try simp only [Act.put]
        refine AB.step (i := 26) (by kernel_rfl) rfl (fun K hK => ?_)
        go_simp
        refine hK.out _ _ (fun _ => uH HK) ?_
        clear hK K
        try simp only [Act.put, List.setIfInBounds_toArray, List.set_cons_zero, List.set_cons_succ]
        refine AB.done (by kernel_rfl) ?_ _
        go_wp2_with fail
        go_ret
        exact ⟨retv (intv (uH HB).symm), (uH H0).trans' (((uH HCQ).trans' ((Chg.refl (fun _ => False) wq).alloc _)).trans' (uH HE2))⟩
      · have hB := hB0
        have hG : opGood i.name i.opens k x → opGood i.name i.opens k x := id
        have hbl : Op.bytesLess p.name.toList x.name.toList = true := hlts
        clear hch hok cq hB0 KSY hv2 hv3 e0
        have HG := hH (hG (⟨hmo, uH HNE, fun p2 _ hp2 => by have := hp.symm.trans hp2; injection this with this; rw [← this]; exact hlts⟩))
        clear hB hG
        go_upto_region 6 with fail
        refine wp_region_ab (fun W' => W'.cell? ⟨w.heap.size, 0, none⟩ = some (.string i.name) ∧ W'.cell? ⟨w.heap.size, 1, none⟩ = some (.slice (some ⟨b, o, none⟩) i.opens.length c1) ∧ W'.cell? ⟨wq.heap.size, 0, none⟩ = some (.string x.name) ∧ W'.cell? ⟨b, o + (k - 1) * 2, none⟩ = some (.string p.name)) 99 27 (by kernel_rfl) (by kernel_rfl) ?_
        refine AB.tk (i := 0) (v := ?_) rfl (by kernel_rfl) (by kernel_rfl) (fun _ _ _ h => h) ?_ (uH HK) ?_
        rotate_left
        · intro W' hS'; (try dsimp only at hS'); go_simp; try with_reducible rfl
        try simp only [Act.put, List.setIfInBounds_toArray]
        refine AB.tk (i := 1) (v := ?_) rfl (by kernel_rfl) (by kernel_rfl) (fun _ _ _ h => h) ?_ (uH HK) ?_
        rotate_left
        · intro W' hS'; (try dsimp only at hS'); go_simp; try with_reducible rfl
        try simp only [Act.put]
        refine AB.step (i := 2) (by kernel_rfl) rfl (fun K hK => ?_)
        go_simp
        go_at_call 45
        refine (uH HMO _ (uH HE2)).mono ?_
        rintro e w2 ⟨rfl, hc2⟩
        have HN_ := hH ((uH HE2).trans' hc2)
        clear HE2
        have HE2 := HN_
        clear HN_ HK hc2
        have HK := hH (uH KSX _ (uH HE2))
        go_wp2_with fail
        refine hK.out _ _ (fun _ => uH HK) ?_
        clear hK K
        try simp only [Act.put, List.setIfInBounds_toArray, List.set_cons_zero, List.set_cons_succ]
        refine AB.tk (i := 3) (v := ?_) rfl (by kernel_rfl) (by kernel_rfl) (fun _ _ _ h => h) ?_ (uH HK) ?_
        rotate_left
        · intro W' hS'; (try dsimp only at hS'); go_simp; try with_reducible rfl
        try simp only [Act.put, List.setIfInBounds_toArray]
        refine AB.tk (i := 4) (v := ?_) rfl (by kernel_rfl) (by kernel_rfl) (fun _ _ _ h => h) ?_ (uH HK) ?_
        rotate_left
        · intro W' hS'; (try dsimp only at hS'); go_simp; try with_reducible rfl
        try simp only [Act.put]
        refine AB.tk (i := 5) (v := ?_) rfl (by kernel_rfl) (by kernel_rfl) (fun _ _ _ h => h) ?_ (uH HK) ?_
        rotate_left
        · intro W' hS'; (try dsimp only at hS'); go_simp; try with_reducible rfl
        try simp only [Act.put]
        refine AB.tk (i := 6) (v := ?_) rfl (by kernel_rfl) (by kernel_rfl) (fun _ _ _ h => h) ?_ (uH HK) ?_
        rotate_left
        · intro W' hS'; (try dsimp only at hS'); go_simp; try with_reducible rfl
        try simp only [Act.put]
        refine AB.tk (i := 7) (v := ?_) rfl (by kernel_rfl) (by kernel_rfl) (fun _ _ _ h => h) ?_ (uH HK) ?_
        rotate_left
        · intro W' hS'; (try dsimp only at hS'); go_simp; try with_reducible rfl
        try simp only [Act.put]
        refine AB.tk (i := 8) (v := ?_) rfl (by kernel_rfl) (by kernel_rfl) (fun _ _ _ h => h) ?_ (uH HK) ?_
        rotate_left
        · intro W' hS'; (try dsimp only at hS'); go_simp; try with_reducible rfl
        try simp only [Act.put]
        refine AB.tk (i := 9) (v := ?_) rfl (by kernel_rfl) (by kernel_rfl) (fun _ _ _ h => h) ?_ (uH HK) ?_
        rotate_left
        · intro W' hS'; (try dsimp only at hS'); go_simp; try with_reducible rfl
        try simp only [Act.put]
        refine AB.tk (i := 10) (v := ?_) rfl (by kernel_rfl) (by kernel_rfl) (fun _ _ _ h => h) ?_ (uH HK) ?_
        rotate_left
        · intro W' hS'; (try dsimp only at hS'); go_simp; try with_reducible rfl
        try simp only [Act.put]
        refine AB.tk (i := 11) (v := ?_) rfl (by kernel_rfl) (by kernel_rfl) (fun _ _ _ h => h) ?_ (uH HK) ?_
        rotate_left
        · intro W' hS'; (try dsimp only at hS'); go_simp; try with_reducible rfl
        try simp only [Act.put]
        refine AB.tk (i := 12) (v := ?_) rfl (by kernel_rfl) (by kernel_rfl) (fun _ _ _ h => h) ?_ (uH HK) ?_
        rotate_left
        · intro W' hS'; (try dsimp only at hS'); go_simp; try with_reducible rfl
        try simp only [Act.put]
        refine AB.tk (i := 13) (v := ?_) rfl (by kernel_rfl) (by kernel_rfl) (fun _ _ _ h => h) ?_ (uH HK) ?_
        rotate_left
        · intro W' hS'; (try dsimp only at hS'); go_simp; try with_reducible rfl
        try simp only [Act.put]
        refine AB.tk (i := 14) (v := ?_) rfl (by kernel_rfl) (by kernel_rfl) (fun _ _ _ h => h) ?_ (uH HK) ?_
        rotate_left
        · intro W' hS'; (try dsimp only at hS'); go_simp; try with_reducible rfl
        try simp only [Act.put]
        refine AB.tk (i := 15) (v := ?_) rfl (by kernel_rfl) (by kernel_rfl) (fun _ _ _ h => h) ?_ (uH HK) ?_
        rotate_left
        · intro W' hS'; (try dsimp only at hS'); go_simp; try with_reducible rfl
        try simp only [Act.put]
        refine AB.tk (i := 16) (v := ?_) rfl (by kernel_rfl) (by kernel_rfl) (fun _ _ _ h => h) ?_ (uH HK) ?_
        rotate_left
        · intro W' hS'; (try dsimp only at hS'); go_simp; try with_reducible rfl
        try simp only [Act.put]
        refine AB.tk (i := 17) (v := ?_) rfl (by kernel_rfl) (by kernel_rfl) (fun _ _ _ h => h) ?_ (uH HK) ?_
        rotate_left
        · intro W' hS'; (try dsimp only at hS'); go_simp; try with_reducible rfl
        try simp only [Act.put]
        refine AB.tk (i := 18) (v := ?_) rfl (by kernel_rfl) (by kernel_rfl) (fun _ _ _ h => h) ?_ (uH HK) ?_
        rotate_left
        · intro W' hS'; (try dsimp only at hS'); go_simp; try with_reducible rfl
        try simp only [Act.put]
        refine AB.tk (i := 19) (v := ?_) rfl (by kernel_rfl) (by kernel_rfl) (fun _ _ _ h => h) ?_ (uH HK) ?_
        rotate_left
        · intro W' hS'; (try dsimp only at hS'); go_simp; try with_reducible rfl
        try simp only [Act.put]
        refine AB.tk (i := 20) (v := ?_) rfl (by kernel_rfl) (by kernel_rfl) (fun _ _ _ h => h) ?_ (uH HK) ?_
        rotate_left
        · intro W' hS'; (try dsimp only at hS'); go_simp; try with_reducible rfl
        try simp only [Act.put]
        refine AB.tk (i := 21) (v := ?_) rfl (by kernel_rfl) (by kernel_rfl) (fun _ _ _ h => h) ?_ (uH HK) ?_
        rotate_left
        · intro W' hS'; (try dsimp only at hS'); go_simp; try with_reducible rfl
        try simp only [Act.put]
        refine AB.tk (i := 22) (v := ?_) rfl (by kernel_rfl) (by kernel_rfl) (fun _ _ _ h => h) ?_ (uH HK) ?_
        rotate_left
        · intro W' hS'; (try dsimp only at hS'); go_simp; try with_reducible rfl
        try simp only [Act.put]
        refine AB.tk (i := 23) (v := ?_) rfl (by kernel_rfl) (by kernel_rfl) (fun _ _ _ h => h) ?_ (uH HK) ?_
        rotate_left
        · intro W' hS'; (try dsimp only at hS'); go_simp; try with_reducible rfl
        try simp only [Act.put]
        refine AB.tk (i := 24) (v := ?_) rfl (by kernel_rfl) (by kernel_rfl) (fun _ _ _ h => h) ?_ (uH HK) ?_
        rotate_left
        · intro W' hS'; (try dsimp only at hS'); go_simp; try with_reducible rfl
        try simp only [Act.put]
        refine AB.tk (i := 25) (v := ?_) rfl (by kernel_rfl) (by kernel_rfl) (fun _ _ _ h => h) ?_ (uH HK) ?_
        rotate_left
        · intro W' hS'; (try dsimp only at hS'); go_simp; try with_reducible rfl
        try simp only [Act.put]
        refine AB.step (i := 26) (by kernel_rfl) rfl (fun K hK => ?_)
        go_simp
        refine hK.out _ _ (fun _ => uH HK) ?_
        clear hK K
        try simp only [Act.put, List.setIfInBounds_toArray, List.set_cons_zero, List.set_cons_succ]
        refine AB.done (by kernel_rfl) ?_ _
        go_wp2_with fail
        go_roundw
        case rel =>
          exact ⟨k + 1, by go_num, by omega, fun j y hj hy => by
            rcases Nat.lt_or_ge j k with h | h
            · exact (uH HALL) j y h hy
            · obtain rfl : j = k := by omega
              have := (uH HX).symm.trans hy
              injection this with this
              rw [← this]
              exact uH HG, ((uH HCQ).trans' ((Chg.refl (fun _ => False) wq).alloc _)).trans' (uH HE2)⟩
        case measure => simp [intOf]; omega
    · obtain rfl : k = i.opens.length := by omega
      have hki : ¬ (i.opens.length : Int) < (i.opens.length : Int) := by omega
      have hog := opens_good (fun j y hj => hall j y (List.getElem?_eq_some_iff.1 hj).1 hj)
      have HD := hH hch
      (obtain ⟨q0, q1, q2, q3, q4⟩ := uH KSW _ (uH HD))
      have hE := uH HE
      rw [hog] at hE
      clear hall hch hog HE HMN
      have HIC2 := hH (uH HIC hs)
      have HOD2 := hH (uH HOD hs)
      clear HIC HOD
      generalize datasE i.datas = D at *
      by_cases hD : D = 0 ∨ D = 102
      rotate_left
      · have h1 : ¬ D = 0 := fun h => hD (.inl h)
        have h2 : ¬ D = 102 := fun h => hD (.inr h)
        have HB := hH (show E = 230 by rw [hE]; simp [h1, h2])
        have n1 : (D != 0) = true := by simp [h1]
        have n2 : (D != 102) = true := by simp [h2]
        clear hE hD
        go_wp2_with (go_at_call 49; (with_reducible refine (uH HDC _ (uH HD)).mono ?_); rintro e w2 ⟨rfl, hc2⟩; replace HD := hH ((uH HD).trans' hc2); clear hc2; (obtain ⟨q0, q1, q2, q3, q4⟩ := uH KSW _ (uH HD)))
        go_ret
        exact ⟨retv (intv (uH HB).symm), (uH H0).trans' (uH HD)⟩
      have hDb : (D == 0 || D == 102) = true := by rcases hD with h | h <;> simp [h]
      rw [hDb] at hE
      generalize fixE i.fixes = F at *
      by_cases hF : F = 0
      rotate_left
      · have HB := hH (show E = 230 by rw [hE]; simp [hF])
        have n1 : (F != 0) = true := by simp [hF]
        clear hE hDb
        rcases hD with rfl | rfl
        all_goals
          go_wp2_with (first
            | (go_at_call 49; (with_reducible refine (uH HDC _ (uH HD)).mono ?_); rintro e w2 ⟨rfl, hc2⟩; replace HD := hH ((uH HD).trans' hc2); clear hc2; (obtain ⟨q0, q1, q2, q3, q4⟩ := uH KSW _ (uH HD)))
            | (go_at_call 50; (with_reducible refine (uH HFC _ (uH HD)).mono ?_); rintro e w2 ⟨rfl, hc2⟩; replace HD := hH ((uH HD).trans' hc2); clear hc2; (obtain ⟨q0, q1, q2, q3, q4⟩ := uH KSW _ (uH HD))))
          go_ret
          exact ⟨retv (intv (uH HB).symm), (uH H0).trans' (uH HD)⟩
      subst hF
      have henv : envE i.sigs = if envB i.sigs then 0 else 110 := rfl
      rw [henv] at HIC2
      clear henv
      cases hev : envB i.sigs
      · have HB := hH (show E = 230 by rw [hE, hev]; simp)
        rw [hev] at HIC2
        clear hE hDb hev HOD2
        rcases hD with rfl | rfl
        all_goals
          go_wp2_with (first
            | (go_at_call 49; (with_reducible refine (uH HDC _ (uH HD)).mono ?_); rintro e w2 ⟨rfl, hc2⟩; replace HD := hH ((uH HD).trans' hc2); clear hc2; (obtain ⟨q0, q1, q2, q3, q4⟩ := uH KSW _ (uH HD)))
            | (go_at_call 50; (with_reducible refine (uH HFC _ (uH HD)).mono ?_); rintro e w2 ⟨rfl, hc2⟩; replace HD := hH ((uH HD).trans' hc2); clear hc2; (obtain ⟨q0, q1, q2, q3, q4⟩ := uH KSW _ (uH HD)))
            | (go_at_call 51; (with_reducible refine (uH HIC2 _ (uH HD)).mono ?_); rintro e w2 ⟨rfl, hc2⟩; replace HD := hH ((uH HD).trans' hc2); clear hc2; (obtain ⟨q0, q1, q2, q3, q4⟩ := uH KSW _ (uH HD))))
          go_ret
          exact ⟨retv (intv (uH HB).symm), (uH H0).trans' (uH HD)⟩
      have HOD3 := hH (uH HOD2 (env_typ hev))
      have hob : (i.sigs.any fun x => !sigB x) = !i.sigs.all sigB := by rw [List.not_all_eq_any_not]
      rw [hob] at HOD3
      rw [hev] at HIC2 hE
      clear hob hev HOD2
      cases hsb : i.sigs.all sigB
      all_goals
        rw [hsb] at HOD3 hE
        have HB := hH hE
        clear hE hDb hsb
        rcases hD with rfl | rfl
        all_goals
          go_wp2_with (first
            | (go_at_call 49; (with_reducible refine (uH HDC _ (uH HD)).mono ?_); rintro e w2 ⟨rfl, hc2⟩; replace HD := hH ((uH HD).trans' hc2); clear hc2; (obtain ⟨q0, q1, q2, q3, q4⟩ := uH KSW _ (uH HD)))
            | (go_at_call 50; (with_reducible refine (uH HFC _ (uH HD)).mono ?_); rintro e w2 ⟨rfl, hc2⟩; replace HD := hH ((uH HD).trans' hc2); clear hc2; (obtain ⟨q0, q1, q2, q3, q4⟩ := uH KSW _ (uH HD)))
            | (go_at_call 51; (with_reducible refine (uH HIC2 _ (uH HD)).mono ?_); rintro e w2 ⟨rfl, hc2⟩; replace HD := hH ((uH HD).trans' hc2); clear hc2; (obtain ⟨q0, q1, q2, q3, q4⟩ := uH KSW _ (uH HD)))
            | (go_at_call 52; (with_reducible refine (uH HOD3 _ (uH HD)).mono ?_); rintro e w2 ⟨rfl, hc2⟩; replace HD := hH ((uH HD).trans' hc2); clear hc2; (obtain ⟨q0, q1, q2, q3, q4⟩ := uH KSW _ (uH HD))))
          go_ret
          exact ⟨retv (intv (by rw [uH HB]; rfl)), (uH H0).trans' (uH HD)⟩
end Go.Proofs.YtinekmjengckdaaGreatDoor
