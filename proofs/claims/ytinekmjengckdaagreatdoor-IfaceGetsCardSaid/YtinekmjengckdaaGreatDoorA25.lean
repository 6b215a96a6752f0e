/-
  Layer 23: fixities and names put behind bytes.
-/
import Derived.Test.YtinekmjengckdaaGreatDoorA23
import Derived.Test.YtinekmjengckdaaGreatDoorA14
namespace Go.Proofs.YtinekmjengckdaaGreatDoor
open Go.RowKit
set_option maxHeartbeats 4000000
set_option maxRecDepth 100000
theorem fx_put (bs : List UInt8) (x : Fx) (m q : Nat) (v : Value) (base : Nat) (w : World) (h : OwB w base v bs) (hb : base ≤ w.heap.size) (hq : q < 256) (hl : bs.length + (textP x.op ++ (low 1 m ++ low 1 q)).length ≤ 1000000000) :
    Calls Tryz.prog 79 #[v, .agg #[.string x.op, .int .i64 (m : Int), .int .i64 ((q : Int) - 1)]] w (PutOut base w v (bs ++ (textP x.op ++ (low 1 m ++ low 1 q)))) := by
  obtain ⟨A, c, rfl⟩ := h.val
  obtain ⟨i_, hi, hz, hs, hbb⟩ := info_parts infoU8
  have b0 := Blk.new w 53 #[.string x.op, .int .i64 (m : Int), .int .i64 ((q : Int) - 1)]
  have p0 := ((Pt.refl h).alloc (.cells #[.string x.op, .int .i64 (m : Int), .int .i64 ((q : Int) - 1)] 53)).drew
  have hz1 : base ≤ (w.alloc (.cells #[.string x.op, .int .i64 (m : Int), .int .i64 ((q : Int) - 1)] 53)).drew.heap.size := Nat.le_trans hb p0.2.1.size
  have KSW := hH (show ∀ W v1 bs1, Pt base (w.alloc (.cells #[.string x.op, .int .i64 (m : Int), .int .i64 ((q : Int) - 1)] 53)).drew (.slice A bs.length c) W v1 bs1 → W.cell? ⟨w.heap.size, 0, none⟩ = some (.string x.op) ∧ W.cell? ⟨w.heap.size, 1, none⟩ = some (.int .i64 (m : Int)) ∧ W.cell? ⟨w.heap.size, 2, none⟩ = some (.int .i64 ((q : Int) - 1)) from fun W v1 bs1 hp => by
    have hB := hp.blk p0.1 b0.drew (by decide)
    exact ⟨hB.cell 0, hB.cell 1, hB.cell 2⟩)
  have HQ := hH (Pt.refl p0.1)
  have HK := hH (uH KSW _ _ _ (uH HQ))
  have HP0 := hH p0
  simp only [List.length_append, text_plen, low_len] at hl
  have hwq : IntKind.i64.wrap (q : Int) = (q : Int) := by simp only [IntKind.wrap, IntKind.bits, IntKind.signed]; simp; omega
  clear h b0 p0
  go_enter Tryz.func79, Tryz.ntmps79
  go_wp2_with fail
  refine wp_region_ab (fun W' => W'.cell? ⟨w.heap.size, 0, none⟩ = some (.string x.op) ∧ W'.cell? ⟨w.heap.size, 1, none⟩ = some (.int .i64 (m : Int)) ∧ W'.cell? ⟨w.heap.size, 2, none⟩ = some (.int .i64 ((q : Int) - 1))) 13 14 (by kernel_rfl) (by kernel_rfl) ?_
  refine AB.tk (i := 0) (v := ?_) rfl (by kernel_rfl) (by kernel_rfl) (fun _ _ _ h => h) ?_ (uH HK) ?_
  rotate_left
  · intro W' hS'; (try dsimp only at hS'); go_simp; try with_reducible rfl
  try simp only [Act.put, List.setIfInBounds_toArray]
  refine AB.tk (i := 1) (v := ?_) rfl (by kernel_rfl) (by kernel_rfl) (fun _ _ _ h => h) ?_ (uH HK) ?_
  rotate_left
  · intro W' hS'; (try dsimp only at hS'); go_simp; try with_reducible rfl
  try simp only [Act.put]
  refine AB.tk (i := 2) (v := ?_) rfl (by kernel_rfl) (by kernel_rfl) (fun _ _ _ h => h) ?_ (uH HK) ?_
  rotate_left
  · intro W' hS'; (try dsimp only at hS'); go_simp; try with_reducible rfl
  try simp only [Act.put]
  refine AB.tk (i := 4) (v := ?_) rfl (by kernel_rfl) (by kernel_rfl) (fun _ _ _ h => h) ?_ (uH HK) ?_
  rotate_left
  · intro W' hS'; (try dsimp only at hS'); go_simp; try with_reducible rfl
  try simp only [Act.put]
  refine AB.tk (i := 5) (v := ?_) rfl (by kernel_rfl) (by kernel_rfl) (fun _ _ _ h => h) ?_ (uH HK) ?_
  rotate_left
  · intro W' hS'; (try dsimp only at hS'); go_simp; try with_reducible rfl
  try simp only [Act.put]
  refine AB.tk (i := 6) (v := ?_) rfl (by kernel_rfl) (by kernel_rfl) (fun _ _ _ h => h) ?_ (uH HK) ?_
  rotate_left
  · intro W' hS'; (try dsimp only at hS'); go_simp; try with_reducible rfl
  try simp only [Act.put]
  refine AB.tk (i := 7) (v := ?_) rfl (by kernel_rfl) (by kernel_rfl) (fun _ _ _ h => h) ?_ (uH HK) ?_
  rotate_left
  · intro W' hS'; (try dsimp only at hS'); go_simp; try with_reducible rfl
  try simp only [Act.put]
  refine AB.tk (i := 8) (v := ?_) rfl (by kernel_rfl) (by kernel_rfl) (fun _ _ _ h => h) ?_ (uH HK) ?_
  rotate_left
  · intro W' hS'; (try dsimp only at hS'); go_simp; try with_reducible rfl
  try simp only [Act.put]
  refine AB.tk (i := 9) (v := ?_) rfl (by kernel_rfl) (by kernel_rfl) (fun _ _ _ h => h) ?_ (uH HK) ?_
  rotate_left
  · intro W' hS'; (try dsimp only at hS'); go_simp; try with_reducible rfl
  try simp only [Act.put]
  refine AB.tk (i := 10) (v := ?_) rfl (by kernel_rfl) (by kernel_rfl) (fun _ _ _ h => h) ?_ (uH HK) ?_
  rotate_left
  · intro W' hS'; (try dsimp only at hS'); go_simp; try with_reducible rfl
  try simp only [Act.put]
  refine AB.two (i := 3) (j := 11) (by kernel_rfl) rfl rfl (fun K hK => ?_) (fun K hK => ?_)
  · go_simp
    go_at_call 71
    refine (text_any (bs) x.op _ base _ (uH HQ).1 (Nat.le_trans hz1 (uH HQ).2.1.size) (by (try simp only [List.length_append, List.length_cons, List.length_nil, text_plen, low_len]); omega)).mono ?_
    rintro e wv1 ⟨wv1v, rfl, h2_⟩
    have HN_ := hH (Pt.trans (uH HQ) h2_)
    clear HQ
    have HQ := HN_
    clear HN_
    have HN_ := hH (uH KSW _ _ _ (uH HQ))
    clear HK
    have HK := HN_
    clear HN_
    clear h2_
    go_wp2_with fail
    refine hK.out _ _ (fun _ => uH HK) ?_
    clear hK K
    try simp only [Act.put, List.setIfInBounds_toArray, List.set_cons_zero, List.set_cons_succ]
    refine AB.step (i := 11) (by kernel_rfl) rfl (fun K hK => ?_)
    have HN_ := hH (Hold.new (cs := #[.int .u8 (IntKind.u8.wrap (m : Int)), .int .u8 (IntKind.u8.wrap (q : Int))]) (wv1.heap.size) (by first | rfl | exact (size_alloc _ _).symm | (symm; refine (size_alloc _ _).trans ?_; rw [size_alloc])) (uH HQ).1)
    have HA11 := HN_
    clear HN_
    have HN_ := hH (show Pt base (w.alloc (.cells #[.string x.op, .int .i64 (m : Int), .int .i64 ((q : Int) - 1)] 53)).drew _ (wv1.alloc (.cells #[.int .u8 (IntKind.u8.wrap (m : Int)), .int .u8 (IntKind.u8.wrap (q : Int))] 5)) _ _ from (uH HQ).alloc (.cells #[.int .u8 (IntKind.u8.wrap (m : Int)), .int .u8 (IntKind.u8.wrap (q : Int))] 5))
    clear HQ
    have HQ := HN_
    clear HN_
    have HN_ := hH (uH KSW _ _ _ (uH HQ))
    clear HK
    have HK := HN_
    clear HN_
    go_simp
    refine hK.out _ _ (fun _ => uH HK) ?_
    clear hK K
    try simp only [Act.put, List.setIfInBounds_toArray, List.set_cons_zero, List.set_cons_succ]
    refine AB.step (i := 12) (by kernel_rfl) rfl (fun K hK => ?_)
    have hown := (uH HQ).1
    unfold OwB at hown
    have HRN := (Rd.blk (uH HA11).1 (xs := [.int .u8 (IntKind.u8.wrap (m : Int)), .int .u8 (IntKind.u8.wrap (q : Int))]) (fun j u hu => by simpa using hu)).mono (T' := fun _ => True) (fun _ _ => trivial)
    refine step_append_rd _ rfl (.tmp 8) (.tmp 16) 46 rfl base 5 i_ (.int .u8 0) 1 1 Tryz.underlying46 hi hz hs hbb rfl (Nat.succ_pos 0) _ _ _ rfl hown (fun _ => True) _ 2 2 [.int .u8 (IntKind.u8.wrap (m : Int)), .int .u8 (IntKind.u8.wrap (q : Int))] rfl rfl HRN (by intro u hu; simp at hu; rcases hu with rfl | rfl <;> rfl) (by (try simp only [maxLen, List.length_append, text_plen]); omega) (by (try simp only [List.length_append, text_plen]); omega) (Nat.le_trans hz1 (uH HQ).2.1.size) ?_
    intro wv3v wv3 ho5 hc5 hat
    rw [byw, byw] at ho5
    have h2_ := Pt.app (Pt.refl (uH HQ).1) (OwB.put (news := (low 1 m ++ low 1 q)) rfl rfl ho5) hc5 hat
    clear HRN hown ho5 hc5 hat HA11
    have HN_ := hH (Pt.trans (uH HQ) h2_)
    clear HQ
    have HQ := HN_
    clear HN_
    have HN_ := hH (uH KSW _ _ _ (uH HQ))
    clear HK
    have HK := HN_
    clear HN_
    clear h2_
    refine hK.out _ _ (fun _ => uH HK) ?_
    clear hK K
    try simp only [Act.put, List.setIfInBounds_toArray]
    refine AB.step (i := 13) (by kernel_rfl) rfl (fun K hK => ?_)
    go_simp
    refine hK.out _ _ (fun h => absurd rfl h) ?_
    clear hK K
    try simp only [Act.put, List.setIfInBounds_toArray, List.set_cons_zero, List.set_cons_succ]
    refine AB.done (by kernel_rfl) ?_ _
    (go_wp2_with fail; go_ret; refine ⟨_, rfl, ?_⟩; show Pt base w _ _ _ _; simpa [List.append_assoc, low] using (uH HP0).trans (uH HQ))
  · have HN_ := hH (Hold.new (cs := #[.int .u8 (IntKind.u8.wrap (m : Int)), .int .u8 (IntKind.u8.wrap (q : Int))]) (w.heap.size + 1) (by first | rfl | exact (size_alloc _ _).symm | (symm; refine (size_alloc _ _).trans ?_; rw [size_alloc])) (uH HQ).1)
    have HA11 := HN_
    clear HN_
    have HN_ := hH (show Pt base (w.alloc (.cells #[.string x.op, .int .i64 (m : Int), .int .i64 ((q : Int) - 1)] 53)).drew _ ((w.alloc (.cells #[.string x.op, .int .i64 (m : Int), .int .i64 ((q : Int) - 1)] 53)).alloc (.cells #[.int .u8 (IntKind.u8.wrap (m : Int)), .int .u8 (IntKind.u8.wrap (q : Int))] 5)).drew _ _ from (uH HQ).alloc (.cells #[.int .u8 (IntKind.u8.wrap (m : Int)), .int .u8 (IntKind.u8.wrap (q : Int))] 5))
    clear HQ
    have HQ := HN_
    clear HN_
    have HN_ := hH (uH KSW _ _ _ (uH HQ))
    clear HK
    have HK := HN_
    clear HN_
    go_simp
    refine hK.out _ _ (fun _ => uH HK) ?_
    clear hK K
    try simp only [Act.put, List.setIfInBounds_toArray, List.set_cons_zero, List.set_cons_succ]
    refine AB.step (i := 3) (by kernel_rfl) rfl (fun K hK => ?_)
    go_simp
    go_at_call 71
    refine (text_any (bs) x.op _ base _ (uH HQ).1 (Nat.le_trans hz1 (uH HQ).2.1.size) (by (try simp only [List.length_append, List.length_cons, List.length_nil, text_plen, low_len]); omega)).mono ?_
    rintro e wv2 ⟨wv2v, rfl, h2_⟩
    have HN_ := hH (Hold.step (uH HA11) h2_)
    clear HA11
    have HA11 := HN_
    clear HN_
    have HN_ := hH (Pt.trans (uH HQ) h2_)
    clear HQ
    have HQ := HN_
    clear HN_
    have HN_ := hH (uH KSW _ _ _ (uH HQ))
    clear HK
    have HK := HN_
    clear HN_
    clear h2_
    go_wp2_with fail
    refine hK.out _ _ (fun _ => uH HK) ?_
    clear hK K
    try simp only [Act.put, List.setIfInBounds_toArray, List.set_cons_zero, List.set_cons_succ]
    refine AB.step (i := 12) (by kernel_rfl) rfl (fun K hK => ?_)
    have hown := (uH HQ).1
    unfold OwB at hown
    have HRN := (Rd.blk (uH HA11).1 (xs := [.int .u8 (IntKind.u8.wrap (m : Int)), .int .u8 (IntKind.u8.wrap (q : Int))]) (fun j u hu => by simpa using hu)).mono (T' := fun _ => True) (fun _ _ => trivial)
    refine step_append_rd _ rfl (.tmp 8) (.tmp 16) 46 rfl base 5 i_ (.int .u8 0) 1 1 Tryz.underlying46 hi hz hs hbb rfl (Nat.succ_pos 0) _ _ _ rfl hown (fun _ => True) _ 2 2 [.int .u8 (IntKind.u8.wrap (m : Int)), .int .u8 (IntKind.u8.wrap (q : Int))] rfl rfl HRN (by intro u hu; simp at hu; rcases hu with rfl | rfl <;> rfl) (by (try simp only [maxLen, List.length_append, text_plen]); omega) (by (try simp only [List.length_append, text_plen]); omega) (Nat.le_trans hz1 (uH HQ).2.1.size) ?_
    intro wv3v wv3 ho5 hc5 hat
    rw [byw, byw] at ho5
    have h2_ := Pt.app (Pt.refl (uH HQ).1) (OwB.put (news := (low 1 m ++ low 1 q)) rfl rfl ho5) hc5 hat
    clear HRN hown ho5 hc5 hat HA11
    have HN_ := hH (Pt.trans (uH HQ) h2_)
    clear HQ
    have HQ := HN_
    clear HN_
    have HN_ := hH (uH KSW _ _ _ (uH HQ))
    clear HK
    have HK := HN_
    clear HN_
    clear h2_
    refine hK.out _ _ (fun _ => uH HK) ?_
    clear hK K
    try simp only [Act.put, List.setIfInBounds_toArray]
    refine AB.step (i := 13) (by kernel_rfl) rfl (fun K hK => ?_)
    go_simp
    refine hK.out _ _ (fun h => absurd rfl h) ?_
    clear hK K
    try simp only [Act.put, List.setIfInBounds_toArray, List.set_cons_zero, List.set_cons_succ]
    refine AB.done (by kernel_rfl) ?_ _
    (go_wp2_with fail; go_ret; refine ⟨_, rfl, ?_⟩; show Pt base w _ _ _ _; simpa [List.append_assoc, low] using (uH HP0).trans (uH HQ))
theorem fx_any (bs : List UInt8) (x : Fx) (v : Value) (base : Nat) (w : World) (h : OwB w base v bs) (hb : base ≤ w.heap.size) (hf : FxFit x) (hl : bs.length + (fxP x).length ≤ 1000000000) :
    Calls Tryz.prog 79 #[v, .agg #[.string x.op, .int .i64 x.level, .int .i64 x.side]] w (PutOut base w v (bs ++ fxP x)) := by
  obtain ⟨hf1, ⟨hf2, hf3⟩, hf4, hf5⟩ := hf
  obtain ⟨m, hm⟩ : ∃ m : Nat, x.level = (m : Int) := ⟨x.level.toNat, by omega⟩
  obtain ⟨q, hq⟩ : ∃ q : Nat, x.side = (q : Int) - 1 := ⟨(x.side + 1).toNat, by omega⟩
  unfold fxP at hl ⊢
  rw [hm, hq] at hl ⊢
  rw [show (q : Int) - 1 + 1 = (q : Int) by omega, Int.toNat_natCast, Int.toNat_natCast] at hl ⊢
  exact fx_put bs x m q v base w h hb (by omega) hl
theorem row_fixes (bs : List UInt8) (l : List Fx) (va v : Value) (T : Nat → Prop) (base : Nat) (w : World) (h : OwB w base v bs) (hb : base ≤ w.heap.size) (hr : RdF T w va l) (hT : ∀ b, T b → b < base) (hfit : ∀ x ∈ l, FxFit x) (hl : bs.length + (rowP fxP l).length ≤ 1000000000) :
    Calls Tryz.prog 78 #[v, va, .func (.func 79) #[] #[]] w (PutOut base w v (bs ++ rowP fxP l)) := by
  obtain ⟨A, c, rfl⟩ := h.val
  obtain ⟨A1, c1, rfl⟩ := RdR.val hr
  have hbig : l.length ≤ 1000000000 := by
    have := flat_pos fxP fxP_pos l
    unfold rowP at hl
    rw [List.length_append] at hl
    omega
  have HNM := hH (num2_any bs l.length _ base w h hb (by omega) (by unfold rowP at hl; rw [List.length_append, low_len] at hl; omega))
  have HR := hH (fun W v1 bs1 (hp : Pt base w (.slice A bs.length c) W v1 bs1) => RdF.chg hr (hp.low h) (fun b hb _ hk => by have := hT b hb; omega))
  have HL := hH hl
  clear hr h
  go_enter Tryz.func78, Tryz.ntmps78
  go_wp2_with (go_at_call 24; (with_reducible refine (uH HNM).mono ?_); rintro e w2 ⟨v2, rfl, h2⟩; have HP0 : Hid (Pt base w _ w2 v2 (bs ++ low 2 l.length)) := hH h2; clear h2)
  go_loopw [0, 15] (fun b i wr => ∃ k : Nat, i = .int .i64 (k : Int) ∧ k ≤ l.length ∧ Pt base w (.slice A bs.length c) wr b (bs ++ (low 2 l.length ++ (l.take k).flatMap fxP))) (fun _ i _ => l.length - (intOf i).toNat)
  case atStart => exact ⟨0, rfl, Nat.zero_le _, by simpa using uH HP0⟩
  case round =>
    clear HP0 HNM
    obtain ⟨wq, rfl⟩ : ∃ wq : World, wq = wr := ⟨_, rfl⟩
    obtain ⟨k, rfl, hk, hp⟩ := hrel
    by_cases hlt : k < l.length
    · have hki : (k : Int) < (l.length : Int) := by omega
      have hx : l[k]? = some l[k] := List.getElem?_eq_getElem hlt
      have hmem := List.getElem_mem hlt
      have hst := take_flat fxP hx
      have hle := flat_le fxP hx
      generalize l[k] = x at *
      obtain ⟨b, o, c3, hv, _, hok, d0, d1, d2⟩ := RdF.at_ (uH HR _ _ _ hp) hx
      injection hv with hv1 hv2 hv3
      subst hv1 hv3
      have hL := uH HL
      unfold rowP at hL
      rw [List.length_append, low_len] at hL
      have hc1 := (Chg.refl (fun _ => False) wq).alloc (.cells #[.string x.op, .int .i64 x.level, .int .i64 x.side] 53)
      have HE := hH (fx_any (bs ++ (low 2 l.length ++ (l.take k).flatMap fxP)) x u0 base _ (hp.alloc (.cells #[.string x.op, .int .i64 x.level, .int .i64 x.side] 53)).1 (Nat.le_trans hb (hp.alloc _).2.1.size) (hfit x hmem) (by rw [List.length_append, List.length_append, low_len]; omega))
      clear hc1
      have HP := hH hp
      have HST := hH hst
      clear hp hst hv2 hx hmem hle hL
      go_wp2_with (go_at_call 79; (with_reducible refine (uH HE).mono ?_); rintro e w3 ⟨v3, rfl, h3⟩; have HP3 := hH (Pt.trans ((uH HP).alloc _) h3); clear h3)
      go_roundw
      case rel => exact ⟨k + 1, by go_num, by omega, by rw [uH HST, ← List.append_assoc (low 2 l.length), ← List.append_assoc bs]; exact uH HP3⟩
      case measure => simp [intOf]; omega
    · obtain rfl : k = l.length := by omega
      have hki : ¬ (l.length : Int) < (l.length : Int) := by omega
      have HP := hH hp
      clear hp
      go_wp2_with fail
      go_ret
      refine ⟨_, rfl, ?_⟩
      have := uH HP
      rw [List.take_length] at this
      exact this
theorem sg_any (bs : List UInt8) (x : Sg) (u : Value) (T : Nat → Prop) (v : Value) (base : Nat) (w : World) (h : OwB w base v bs) (hb : base ≤ w.heap.size) (hru : RdN T w u x.type) (hT : ∀ b, T b → b < base) (hf : SgFit x) (hl : bs.length + (sgP x).length ≤ 1000000000) :
    Calls Tryz.prog 81 #[v, .agg #[.string x.name, u]] w (PutOut base w v (bs ++ (sgP x))) := by
  obtain ⟨A, c, rfl⟩ := h.val
  obtain ⟨B7, c7, rfl⟩ := hru.val
  obtain ⟨i_, hi, hz, hs, hbb⟩ := info_parts infoU8
  have b0 := Blk.new w 56 #[.string x.name, .slice B7 x.type.length c7]
  have p0 := ((Pt.refl h).alloc (.cells #[.string x.name, .slice B7 x.type.length c7] 56)).drew
  have hz1 : base ≤ (w.alloc (.cells #[.string x.name, .slice B7 x.type.length c7] 56)).drew.heap.size := Nat.le_trans hb p0.2.1.size
  have KSW := hH (show ∀ W v1 bs1, Pt base (w.alloc (.cells #[.string x.name, .slice B7 x.type.length c7] 56)).drew (.slice A bs.length c) W v1 bs1 → W.cell? ⟨w.heap.size, 0, none⟩ = some (.string x.name) ∧ W.cell? ⟨w.heap.size, 1, none⟩ = some (.slice B7 x.type.length c7) from fun W v1 bs1 hp => by
    have hB := hp.blk p0.1 b0.drew (by decide)
    exact ⟨hB.cell 0, hB.cell 1⟩)
  have HQ := hH (Pt.refl p0.1)
  have HK := hH (uH KSW _ _ _ (uH HQ))
  have HP0 := hH p0
  have HRU := hH (fun W v1 bs1 (hp : Pt base (w.alloc (.cells #[.string x.name, .slice B7 x.type.length c7] 56)).drew (.slice A bs.length c) W v1 bs1) => RdN.chg (RdN.chg hru ((Chg.refl (fun _ => False) w).alloc (.cells #[.string x.name, .slice B7 x.type.length c7] 56)).drew (fun _ _ _ => id)) (hp.low p0.1) (fun b hb _ hk => by have := hT b hb; omega))
  simp only [sgP, List.length_append, text_plen] at hl
  obtain ⟨hf1, hf2⟩ := hf
  clear hru
  clear h b0 p0
  go_enter Tryz.func81, Tryz.ntmps81
  go_wp2_with fail
  refine wp_region_ab (fun W' => W'.cell? ⟨w.heap.size, 0, none⟩ = some (.string x.name) ∧ W'.cell? ⟨w.heap.size, 1, none⟩ = some (.slice B7 x.type.length c7)) 7 8 (by kernel_rfl) (by kernel_rfl) ?_
  refine AB.tk (i := 0) (v := ?_) rfl (by kernel_rfl) (by kernel_rfl) (fun _ _ _ h => h) ?_ (uH HK) ?_
  rotate_left
  · intro W' hS'; (try dsimp only at hS'); go_simp; try with_reducible rfl
  try simp only [Act.put, List.setIfInBounds_toArray]
  refine AB.tk (i := 1) (v := ?_) rfl (by kernel_rfl) (by kernel_rfl) (fun _ _ _ h => h) ?_ (uH HK) ?_
  rotate_left
  · intro W' hS'; (try dsimp only at hS'); go_simp; try with_reducible rfl
  try simp only [Act.put]
  refine AB.tk (i := 2) (v := ?_) rfl (by kernel_rfl) (by kernel_rfl) (fun _ _ _ h => h) ?_ (uH HK) ?_
  rotate_left
  · intro W' hS'; (try dsimp only at hS'); go_simp; try with_reducible rfl
  try simp only [Act.put]
  refine AB.tk (i := 4) (v := ?_) rfl (by kernel_rfl) (by kernel_rfl) (fun _ _ _ h => h) ?_ (uH HK) ?_
  rotate_left
  · intro W' hS'; (try dsimp only at hS'); go_simp; try with_reducible rfl
  try simp only [Act.put]
  refine AB.tk (i := 5) (v := ?_) rfl (by kernel_rfl) (by kernel_rfl) (fun _ _ _ h => h) ?_ (uH HK) ?_
  rotate_left
  · intro W' hS'; (try dsimp only at hS'); go_simp; try with_reducible rfl
  try simp only [Act.put]
  refine AB.step (i := 3) (by kernel_rfl) rfl (fun K hK => ?_)
  go_simp
  go_at_call 71
  refine (text_any (bs) x.name _ base _ (uH HQ).1 (Nat.le_trans hz1 (uH HQ).2.1.size) (by (try simp only [List.length_append, List.length_cons, List.length_nil, text_plen, low_len]); omega)).mono ?_
  rintro e wv1 ⟨wv1v, rfl, h2_⟩
  have HN_ := hH (Pt.trans (uH HQ) h2_)
  clear HQ
  have HQ := HN_
  clear HN_
  have HN_ := hH (uH KSW _ _ _ (uH HQ))
  clear HK
  have HK := HN_
  clear HN_
  clear h2_
  go_wp2_with fail
  refine hK.out _ _ (fun _ => uH HK) ?_
  clear hK K
  try simp only [Act.put, List.setIfInBounds_toArray, List.set_cons_zero, List.set_cons_succ]
  refine AB.step (i := 6) (by kernel_rfl) rfl (fun K hK => ?_)
  go_simp
  go_at_call 82
  refine (typ_any ((bs) ++ textP x.name) x.type _ _ T base _ (uH HQ).1 (Nat.le_trans hz1 (uH HQ).2.1.size) (uH HRU _ _ _ (uH HQ)) hT hf2 (by (try simp only [List.length_append, text_plen]); omega)).mono ?_
  rintro e wv2 ⟨wv2v, rfl, h2_⟩
  have HN_ := hH (Pt.trans (uH HQ) h2_)
  clear HQ
  have HQ := HN_
  clear HN_
  have HN_ := hH (uH KSW _ _ _ (uH HQ))
  clear HK
  have HK := HN_
  clear HN_
  clear h2_
  go_wp2_with fail
  refine hK.out _ _ (fun _ => uH HK) ?_
  clear hK K
  try simp only [Act.put, List.setIfInBounds_toArray, List.set_cons_zero, List.set_cons_succ]
  refine AB.step (i := 7) (by kernel_rfl) rfl (fun K hK => ?_)
  go_simp
  refine hK.out _ _ (fun h => absurd rfl h) ?_
  clear hK K
  try simp only [Act.put, List.setIfInBounds_toArray, List.set_cons_zero, List.set_cons_succ]
  refine AB.done (by kernel_rfl) ?_ _
  (go_wp2_with fail; go_ret; refine ⟨_, rfl, ?_⟩; show Pt base w _ _ _ _; simpa [List.append_assoc, low, sgP] using (uH HP0).trans (uH HQ))
theorem row_sigs (bs : List UInt8) (l : List Sg) (va v : Value) (T : Nat → Prop) (base : Nat) (w : World) (h : OwB w base v bs) (hb : base ≤ w.heap.size) (hr : RdS T w va l) (hT : ∀ b, T b → b < base) (hfit : ∀ x ∈ l, SgFit x) (hl : bs.length + (rowP sgP l).length ≤ 1000000000) :
    Calls Tryz.prog 80 #[v, va, .func (.func 81) #[] #[]] w (PutOut base w v (bs ++ rowP sgP l)) := by
  obtain ⟨A, c, rfl⟩ := h.val
  obtain ⟨A1, c1, rfl⟩ := RdR.val hr
  have hbig : l.length ≤ 1000000000 := by
    have := flat_pos sgP sgP_pos l
    unfold rowP at hl
    rw [List.length_append] at hl
    omega
  have HNM := hH (num2_any bs l.length _ base w h hb (by omega) (by unfold rowP at hl; rw [List.length_append, low_len] at hl; omega))
  have HR := hH (fun W v1 bs1 (hp : Pt base w (.slice A bs.length c) W v1 bs1) => RdS.chg hr (hp.low h) (fun b hb _ hk => by have := hT b hb; omega))
  have HL := hH hl
  clear hr h
  go_enter Tryz.func80, Tryz.ntmps80
  go_wp2_with (go_at_call 24; (with_reducible refine (uH HNM).mono ?_); rintro e w2 ⟨v2, rfl, h2⟩; have HP0 : Hid (Pt base w _ w2 v2 (bs ++ low 2 l.length)) := hH h2; clear h2)
  go_loopw [0, 15] (fun b i wr => ∃ k : Nat, i = .int .i64 (k : Int) ∧ k ≤ l.length ∧ Pt base w (.slice A bs.length c) wr b (bs ++ (low 2 l.length ++ (l.take k).flatMap sgP))) (fun _ i _ => l.length - (intOf i).toNat)
  case atStart => exact ⟨0, rfl, Nat.zero_le _, by simpa using uH HP0⟩
  case round =>
    clear HP0 HNM
    obtain ⟨wq, rfl⟩ : ∃ wq : World, wq = wr := ⟨_, rfl⟩
    obtain ⟨k, rfl, hk, hp⟩ := hrel
    by_cases hlt : k < l.length
    · have hki : (k : Int) < (l.length : Int) := by omega
      have hx : l[k]? = some l[k] := List.getElem?_eq_getElem hlt
      have hmem := List.getElem_mem hlt
      have hst := take_flat sgP hx
      have hle := flat_le sgP hx
      generalize l[k] = x at *
      obtain ⟨b, o, c3, u, hv, _, hru, hns, d0, d1⟩ := RdS.at_ (uH HR _ _ _ hp) hx
      injection hv with hv1 hv2 hv3
      subst hv1 hv3
      have hL := uH HL
      unfold rowP at hL
      rw [List.length_append, low_len] at hL
      have hc1 := (Chg.refl (fun _ => False) wq).alloc (.cells #[.string x.name, u] 56)
      have HE := hH (sg_any (bs ++ (low 2 l.length ++ (l.take k).flatMap sgP)) x u T u0 base _ (hp.alloc (.cells #[.string x.name, u] 56)).1 (Nat.le_trans hb (hp.alloc _).2.1.size) (hru.chg hc1 (fun _ _ _ => id)) hT (hfit x hmem) (by rw [List.length_append, List.length_append, low_len]; omega))
      obtain ⟨B7, c7, rfl⟩ := hru.val
      clear hru hc1
      have HP := hH hp
      have HST := hH hst
      clear hp hst hv2 hx hmem hle hL
      go_wp2_with (go_at_call 81; (with_reducible refine (uH HE).mono ?_); rintro e w3 ⟨v3, rfl, h3⟩; have HP3 := hH (Pt.trans ((uH HP).alloc _) h3); clear h3)
      go_roundw
      case rel => exact ⟨k + 1, by go_num, by omega, by rw [uH HST, ← List.append_assoc (low 2 l.length), ← List.append_assoc bs]; exact uH HP3⟩
      case measure => simp [intOf]; omega
    · obtain rfl : k = l.length := by omega
      have hki : ¬ (l.length : Int) < (l.length : Int) := by omega
      have HP := hH hp
      clear hp
      go_wp2_with fail
      go_ret
      refine ⟨_, rfl, ?_⟩
      have := uH HP
      rw [List.take_length] at this
      exact this
end Go.Proofs.YtinekmjengckdaaGreatDoor
