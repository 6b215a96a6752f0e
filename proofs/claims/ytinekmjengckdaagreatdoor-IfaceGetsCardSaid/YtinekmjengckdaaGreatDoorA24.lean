/-
  Layer 23: declarations and openings put behind bytes.
-/
import Derived.Test.YtinekmjengckdaaGreatDoorA23
import Derived.Test.YtinekmjengckdaaGreatDoorA14
namespace Go.Proofs.YtinekmjengckdaaGreatDoor
open Go.RowKit
set_option maxHeartbeats 4000000
set_option maxRecDepth 100000
theorem dt_put (bs : List UInt8) (x : Dt) (m : Nat) (u : Value) (T : Nat → Prop) (v : Value) (base : Nat) (w : World) (h : OwB w base v bs) (hb : base ≤ w.heap.size) (hru : RdC T w u x.cons) (hT : ∀ b, T b → b < base) (hf : ∀ c ∈ x.cons, CtFit c) (hl : bs.length + (textP x.name ++ (low 1 m ++ rowP ctP x.cons)).length ≤ 1000000000) :
    Calls Tryz.prog 75 #[v, .agg #[.string x.name, .int .i64 (m : Int), u]] w (PutOut base w v (bs ++ (textP x.name ++ (low 1 m ++ rowP ctP x.cons)))) := by
  obtain ⟨A, c, rfl⟩ := h.val
  obtain ⟨B7, c7, rfl⟩ := hru.val
  obtain ⟨i_, hi, hz, hs, hbb⟩ := info_parts infoU8
  have b0 := Blk.new w 70 #[.string x.name, .int .i64 (m : Int), .slice B7 x.cons.length c7]
  have p0 := ((Pt.refl h).alloc (.cells #[.string x.name, .int .i64 (m : Int), .slice B7 x.cons.length c7] 70)).drew
  have hz1 : base ≤ (w.alloc (.cells #[.string x.name, .int .i64 (m : Int), .slice B7 x.cons.length c7] 70)).drew.heap.size := Nat.le_trans hb p0.2.1.size
  have KSW := hH (show ∀ W v1 bs1, Pt base (w.alloc (.cells #[.string x.name, .int .i64 (m : Int), .slice B7 x.cons.length c7] 70)).drew (.slice A bs.length c) W v1 bs1 → W.cell? ⟨w.heap.size, 0, none⟩ = some (.string x.name) ∧ W.cell? ⟨w.heap.size, 1, none⟩ = some (.int .i64 (m : Int)) ∧ W.cell? ⟨w.heap.size, 2, none⟩ = some (.slice B7 x.cons.length c7) from fun W v1 bs1 hp => by
    have hB := hp.blk p0.1 b0.drew (by decide)
    exact ⟨hB.cell 0, hB.cell 1, hB.cell 2⟩)
  have HQ := hH (Pt.refl p0.1)
  have HK := hH (uH KSW _ _ _ (uH HQ))
  have HP0 := hH p0
  have HRU := hH (fun W v1 bs1 (hp : Pt base (w.alloc (.cells #[.string x.name, .int .i64 (m : Int), .slice B7 x.cons.length c7] 70)).drew (.slice A bs.length c) W v1 bs1) => RdC.chg (RdC.chg hru ((Chg.refl (fun _ => False) w).alloc (.cells #[.string x.name, .int .i64 (m : Int), .slice B7 x.cons.length c7] 70)).drew (fun _ _ _ => id)) (hp.low p0.1) (fun b hb _ hk => by have := hT b hb; omega))
  simp only [List.length_append, text_plen, low_len] at hl
  clear hru
  clear h b0 p0
  go_enter Tryz.func75, Tryz.ntmps75
  go_wp2_with fail
  refine wp_region_ab (fun W' => W'.cell? ⟨w.heap.size, 0, none⟩ = some (.string x.name) ∧ W'.cell? ⟨w.heap.size, 1, none⟩ = some (.int .i64 (m : Int)) ∧ W'.cell? ⟨w.heap.size, 2, none⟩ = some (.slice B7 x.cons.length c7)) 12 13 (by kernel_rfl) (by kernel_rfl) ?_
  refine AB.tk (i := 0) (v := ?_) rfl (by kernel_rfl) (by kernel_rfl) (fun _ _ _ h => h) ?_ (uH HK) ?_
  rotate_left
  · intro W' hS'; (try dsimp only at hS'); go_simp; try with_reducible rfl
  try simp only [Act.put, List.setIfInBounds_toArray]
  refine AB.tk (i := 1) (v := ?_) rfl (by kernel_rfl) (by kernel_rfl) (fun _ _ _ h => h) ?_ (uH HK) ?_
  rotate_left
  · intro W' hS'; (try dsimp only at hS'); go_simp; try with_reducible rfl
  try simp only [Act.put]
  refine AB.tk (i := 2) (v := ?_) rfl (by kernel_rfl) (by kernel_rfl) (fun _ _ _ h => h) ?_ (uH HK) ?_
  rotate_left
  · intro W' hS'; (try dsimp only at hS'); go_simp; try with_reducible rfl
  try simp only [Act.put]
  refine AB.tk (i := 4) (v := ?_) rfl (by kernel_rfl) (by kernel_rfl) (fun _ _ _ h => h) ?_ (uH HK) ?_
  rotate_left
  · intro W' hS'; (try dsimp only at hS'); go_simp; try with_reducible rfl
  try simp only [Act.put]
  refine AB.tk (i := 5) (v := ?_) rfl (by kernel_rfl) (by kernel_rfl) (fun _ _ _ h => h) ?_ (uH HK) ?_
  rotate_left
  · intro W' hS'; (try dsimp only at hS'); go_simp; try with_reducible rfl
  try simp only [Act.put]
  refine AB.tk (i := 6) (v := ?_) rfl (by kernel_rfl) (by kernel_rfl) (fun _ _ _ h => h) ?_ (uH HK) ?_
  rotate_left
  · intro W' hS'; (try dsimp only at hS'); go_simp; try with_reducible rfl
  try simp only [Act.put]
  refine AB.tk (i := 9) (v := ?_) rfl (by kernel_rfl) (by kernel_rfl) (fun _ _ _ h => h) ?_ (uH HK) ?_
  rotate_left
  · intro W' hS'; (try dsimp only at hS'); go_simp; try with_reducible rfl
  try simp only [Act.put]
  refine AB.tk (i := 10) (v := ?_) rfl (by kernel_rfl) (by kernel_rfl) (fun _ _ _ h => h) ?_ (uH HK) ?_
  rotate_left
  · intro W' hS'; (try dsimp only at hS'); go_simp; try with_reducible rfl
  try simp only [Act.put]
  refine AB.two (i := 3) (j := 7) (by kernel_rfl) rfl rfl (fun K hK => ?_) (fun K hK => ?_)
  · go_simp
    go_at_call 71
    refine (text_any (bs) x.name _ base _ (uH HQ).1 (Nat.le_trans hz1 (uH HQ).2.1.size) (by (try simp only [List.length_append, List.length_cons, List.length_nil, text_plen, low_len]); omega)).mono ?_
    rintro e wv1 ⟨wv1v, rfl, h2_⟩
    have HN_ := hH (Pt.trans (uH HQ) h2_)
    clear HQ
    have HQ := HN_
    clear HN_
    have HN_ := hH (uH KSW _ _ _ (uH HQ))
    clear HK
    have HK := HN_
    clear HN_
    clear h2_
    go_wp2_with fail
    refine hK.out _ _ (fun _ => uH HK) ?_
    clear hK K
    try simp only [Act.put, List.setIfInBounds_toArray, List.set_cons_zero, List.set_cons_succ]
    refine AB.step (i := 7) (by kernel_rfl) rfl (fun K hK => ?_)
    have HN_ := hH (Hold.new (cs := #[.int .u8 (IntKind.u8.wrap (m : Int))]) (wv1.heap.size) (by first | rfl | exact (size_alloc _ _).symm | (symm; refine (size_alloc _ _).trans ?_; rw [size_alloc])) (uH HQ).1)
    have HA7 := HN_
    clear HN_
    have HN_ := hH (show Pt base (w.alloc (.cells #[.string x.name, .int .i64 (m : Int), .slice B7 x.cons.length c7] 70)).drew _ (wv1.alloc (.cells #[.int .u8 (IntKind.u8.wrap (m : Int))] 5)) _ _ from (uH HQ).alloc (.cells #[.int .u8 (IntKind.u8.wrap (m : Int))] 5))
    clear HQ
    have HQ := HN_
    clear HN_
    have HN_ := hH (uH KSW _ _ _ (uH HQ))
    clear HK
    have HK := HN_
    clear HN_
    go_simp
    refine hK.out _ _ (fun _ => uH HK) ?_
    clear hK K
    try simp only [Act.put, List.setIfInBounds_toArray, List.set_cons_zero, List.set_cons_succ]
    refine AB.step (i := 8) (by kernel_rfl) rfl (fun K hK => ?_)
    have hown := (uH HQ).1
    unfold OwB at hown
    have HRN := (Rd.blk (uH HA7).1 (xs := [.int .u8 (IntKind.u8.wrap (m : Int))]) (fun j u hu => by simpa using hu)).mono (T' := fun _ => True) (fun _ _ => trivial)
    refine step_append_rd _ rfl (.tmp 8) (.tmp 12) 46 rfl base 5 i_ (.int .u8 0) 1 1 Tryz.underlying46 hi hz hs hbb rfl (Nat.succ_pos 0) _ _ _ rfl hown (fun _ => True) _ 1 1 [.int .u8 (IntKind.u8.wrap (m : Int))] rfl rfl HRN (by intro u hu; simp at hu; rcases hu with rfl <;> rfl) (by (try simp only [maxLen, List.length_append, text_plen]); omega) (by (try simp only [List.length_append, text_plen]); omega) (Nat.le_trans hz1 (uH HQ).2.1.size) ?_
    intro wv3v wv3 ho5 hc5 hat
    rw [byw] at ho5
    have h2_ := Pt.app (Pt.refl (uH HQ).1) (OwB.put (news := low 1 m) rfl rfl ho5) hc5 hat
    clear HRN hown ho5 hc5 hat HA7
    have HN_ := hH (Pt.trans (uH HQ) h2_)
    clear HQ
    have HQ := HN_
    clear HN_
    have HN_ := hH (uH KSW _ _ _ (uH HQ))
    clear HK
    have HK := HN_
    clear HN_
    clear h2_
    refine hK.out _ _ (fun _ => uH HK) ?_
    clear hK K
    try simp only [Act.put, List.setIfInBounds_toArray]
    refine AB.step (i := 11) (by kernel_rfl) rfl (fun K hK => ?_)
    go_simp
    go_at_call 76
    refine (row_ctors (((bs) ++ textP x.name) ++ low 1 m) x.cons _ _ T base _ (uH HQ).1 (Nat.le_trans hz1 (uH HQ).2.1.size) (uH HRU _ _ _ (uH HQ)) hT hf (by (try simp only [List.length_append, text_plen, low_len]); omega)).mono ?_
    rintro e wv4 ⟨wv4v, rfl, h2_⟩
    have HN_ := hH (Pt.trans (uH HQ) h2_)
    clear HQ
    have HQ := HN_
    clear HN_
    have HN_ := hH (uH KSW _ _ _ (uH HQ))
    clear HK
    have HK := HN_
    clear HN_
    clear h2_
    go_wp2_with fail
    refine hK.out _ _ (fun _ => uH HK) ?_
    clear hK K
    try simp only [Act.put, List.setIfInBounds_toArray, List.set_cons_zero, List.set_cons_succ]
    refine AB.step (i := 12) (by kernel_rfl) rfl (fun K hK => ?_)
    go_simp
    refine hK.out _ _ (fun h => absurd rfl h) ?_
    clear hK K
    try simp only [Act.put, List.setIfInBounds_toArray, List.set_cons_zero, List.set_cons_succ]
    refine AB.done (by kernel_rfl) ?_ _
    (go_wp2_with fail; go_ret; refine ⟨_, rfl, ?_⟩; show Pt base w _ _ _ _; simpa [List.append_assoc, low] using (uH HP0).trans (uH HQ))
  · have HN_ := hH (Hold.new (cs := #[.int .u8 (IntKind.u8.wrap (m : Int))]) (w.heap.size + 1) (by first | rfl | exact (size_alloc _ _).symm | (symm; refine (size_alloc _ _).trans ?_; rw [size_alloc])) (uH HQ).1)
    have HA7 := HN_
    clear HN_
    have HN_ := hH (show Pt base (w.alloc (.cells #[.string x.name, .int .i64 (m : Int), .slice B7 x.cons.length c7] 70)).drew _ ((w.alloc (.cells #[.string x.name, .int .i64 (m : Int), .slice B7 x.cons.length c7] 70)).alloc (.cells #[.int .u8 (IntKind.u8.wrap (m : Int))] 5)).drew _ _ from (uH HQ).alloc (.cells #[.int .u8 (IntKind.u8.wrap (m : Int))] 5))
    clear HQ
    have HQ := HN_
    clear HN_
    have HN_ := hH (uH KSW _ _ _ (uH HQ))
    clear HK
    have HK := HN_
    clear HN_
    go_simp
    refine hK.out _ _ (fun _ => uH HK) ?_
    clear hK K
    try simp only [Act.put, List.setIfInBounds_toArray, List.set_cons_zero, List.set_cons_succ]
    refine AB.step (i := 3) (by kernel_rfl) rfl (fun K hK => ?_)
    go_simp
    go_at_call 71
    refine (text_any (bs) x.name _ base _ (uH HQ).1 (Nat.le_trans hz1 (uH HQ).2.1.size) (by (try simp only [List.length_append, List.length_cons, List.length_nil, text_plen, low_len]); omega)).mono ?_
    rintro e wv2 ⟨wv2v, rfl, h2_⟩
    have HN_ := hH (Hold.step (uH HA7) h2_)
    clear HA7
    have HA7 := HN_
    clear HN_
    have HN_ := hH (Pt.trans (uH HQ) h2_)
    clear HQ
    have HQ := HN_
    clear HN_
    have HN_ := hH (uH KSW _ _ _ (uH HQ))
    clear HK
    have HK := HN_
    clear HN_
    clear h2_
    go_wp2_with fail
    refine hK.out _ _ (fun _ => uH HK) ?_
    clear hK K
    try simp only [Act.put, List.setIfInBounds_toArray, List.set_cons_zero, List.set_cons_succ]
    refine AB.step (i := 8) (by kernel_rfl) rfl (fun K hK => ?_)
    have hown := (uH HQ).1
    unfold OwB at hown
    have HRN := (Rd.blk (uH HA7).1 (xs := [.int .u8 (IntKind.u8.wrap (m : Int))]) (fun j u hu => by simpa using hu)).mono (T' := fun _ => True) (fun _ _ => trivial)
    refine step_append_rd _ rfl (.tmp 8) (.tmp 12) 46 rfl base 5 i_ (.int .u8 0) 1 1 Tryz.underlying46 hi hz hs hbb rfl (Nat.succ_pos 0) _ _ _ rfl hown (fun _ => True) _ 1 1 [.int .u8 (IntKind.u8.wrap (m : Int))] rfl rfl HRN (by intro u hu; simp at hu; rcases hu with rfl <;> rfl) (by (try simp only [maxLen, List.length_append, text_plen]); omega) (by (try simp only [List.length_append, text_plen]); omega) (Nat.le_trans hz1 (uH HQ).2.1.size) ?_
    intro wv3v wv3 ho5 hc5 hat
    rw [byw] at ho5
    have h2_ := Pt.app (Pt.refl (uH HQ).1) (OwB.put (news := low 1 m) rfl rfl ho5) hc5 hat
    clear HRN hown ho5 hc5 hat HA7
    have HN_ := hH (Pt.trans (uH HQ) h2_)
    clear HQ
    have HQ := HN_
    clear HN_
    have HN_ := hH (uH KSW _ _ _ (uH HQ))
    clear HK
    have HK := HN_
    clear HN_
    clear h2_
    refine hK.out _ _ (fun _ => uH HK) ?_
    clear hK K
    try simp only [Act.put, List.setIfInBounds_toArray]
    refine AB.step (i := 11) (by kernel_rfl) rfl (fun K hK => ?_)
    go_simp
    go_at_call 76
    refine (row_ctors (((bs) ++ textP x.name) ++ low 1 m) x.cons _ _ T base _ (uH HQ).1 (Nat.le_trans hz1 (uH HQ).2.1.size) (uH HRU _ _ _ (uH HQ)) hT hf (by (try simp only [List.length_append, text_plen, low_len]); omega)).mono ?_
    rintro e wv4 ⟨wv4v, rfl, h2_⟩
    have HN_ := hH (Pt.trans (uH HQ) h2_)
    clear HQ
    have HQ := HN_
    clear HN_
    have HN_ := hH (uH KSW _ _ _ (uH HQ))
    clear HK
    have HK := HN_
    clear HN_
    clear h2_
    go_wp2_with fail
    refine hK.out _ _ (fun _ => uH HK) ?_
    clear hK K
    try simp only [Act.put, List.setIfInBounds_toArray, List.set_cons_zero, List.set_cons_succ]
    refine AB.step (i := 12) (by kernel_rfl) rfl (fun K hK => ?_)
    go_simp
    refine hK.out _ _ (fun h => absurd rfl h) ?_
    clear hK K
    try simp only [Act.put, List.setIfInBounds_toArray, List.set_cons_zero, List.set_cons_succ]
    refine AB.done (by kernel_rfl) ?_ _
    (go_wp2_with fail; go_ret; refine ⟨_, rfl, ?_⟩; show Pt base w _ _ _ _; simpa [List.append_assoc, low] using (uH HP0).trans (uH HQ))
theorem dt_any (bs : List UInt8) (x : Dt) (u : Value) (T : Nat → Prop) (v : Value) (base : Nat) (w : World) (h : OwB w base v bs) (hb : base ≤ w.heap.size) (hru : RdC T w u x.cons) (hT : ∀ b, T b → b < base) (hf : DtFit x) (hl : bs.length + (dtP x).length ≤ 1000000000) :
    Calls Tryz.prog 75 #[v, .agg #[.string x.name, .int .i64 x.params, u]] w (PutOut base w v (bs ++ dtP x)) := by
  obtain ⟨hf1, hf2, hf3, hf4, hf5⟩ := hf
  obtain ⟨m, hm⟩ : ∃ m : Nat, x.params = (m : Int) := ⟨x.params.toNat, by omega⟩
  unfold dtP at hl ⊢
  rw [hm] at hl ⊢
  rw [Int.toNat_natCast] at hl ⊢
  exact dt_put bs x m u T v base w h hb hru hT hf5 hl
theorem row_datas (bs : List UInt8) (l : List Dt) (va v : Value) (T : Nat → Prop) (base : Nat) (w : World) (h : OwB w base v bs) (hb : base ≤ w.heap.size) (hr : RdD T w va l) (hT : ∀ b, T b → b < base) (hfit : ∀ x ∈ l, DtFit x) (hl : bs.length + (rowP dtP l).length ≤ 1000000000) :
    Calls Tryz.prog 74 #[v, va, .func (.func 75) #[] #[]] w (PutOut base w v (bs ++ rowP dtP l)) := by
  obtain ⟨A, c, rfl⟩ := h.val
  obtain ⟨A1, c1, rfl⟩ := RdR.val hr
  have hbig : l.length ≤ 1000000000 := by
    have := flat_pos dtP dtP_pos l
    unfold rowP at hl
    rw [List.length_append] at hl
    omega
  have HNM := hH (num2_any bs l.length _ base w h hb (by omega) (by unfold rowP at hl; rw [List.length_append, low_len] at hl; omega))
  have HR := hH (fun W v1 bs1 (hp : Pt base w (.slice A bs.length c) W v1 bs1) => RdD.chg hr (hp.low h) (fun b hb _ hk => by have := hT b hb; omega))
  have HL := hH hl
  clear hr h
  go_enter Tryz.func74, Tryz.ntmps74
  go_wp2_with (go_at_call 24; (with_reducible refine (uH HNM).mono ?_); rintro e w2 ⟨v2, rfl, h2⟩; have HP0 : Hid (Pt base w _ w2 v2 (bs ++ low 2 l.length)) := hH h2; clear h2)
  go_loopw [0, 15] (fun b i wr => ∃ k : Nat, i = .int .i64 (k : Int) ∧ k ≤ l.length ∧ Pt base w (.slice A bs.length c) wr b (bs ++ (low 2 l.length ++ (l.take k).flatMap dtP))) (fun _ i _ => l.length - (intOf i).toNat)
  case atStart => exact ⟨0, rfl, Nat.zero_le _, by simpa using uH HP0⟩
  case round =>
    clear HP0 HNM
    obtain ⟨wq, rfl⟩ : ∃ wq : World, wq = wr := ⟨_, rfl⟩
    obtain ⟨k, rfl, hk, hp⟩ := hrel
    by_cases hlt : k < l.length
    · have hki : (k : Int) < (l.length : Int) := by omega
      have hx : l[k]? = some l[k] := List.getElem?_eq_getElem hlt
      have hmem := List.getElem_mem hlt
      have hst := take_flat dtP hx
      have hle := flat_le dtP hx
      generalize l[k] = x at *
      obtain ⟨b, o, c3, u, hv, _, hru, hns, d0, d1, d2⟩ := RdD.at_ (uH HR _ _ _ hp) hx
      injection hv with hv1 hv2 hv3
      subst hv1 hv3
      have hL := uH HL
      unfold rowP at hL
      rw [List.length_append, low_len] at hL
      have hc1 := (Chg.refl (fun _ => False) wq).alloc (.cells #[.string x.name, .int .i64 x.params, u] 70)
      have HE := hH (dt_any (bs ++ (low 2 l.length ++ (l.take k).flatMap dtP)) x u T u0 base _ (hp.alloc (.cells #[.string x.name, .int .i64 x.params, u] 70)).1 (Nat.le_trans hb (hp.alloc _).2.1.size) (hru.chg hc1 (fun _ _ _ => id)) hT (hfit x hmem) (by rw [List.length_append, List.length_append, low_len]; omega))
      obtain ⟨B7, c7, rfl⟩ := hru.val
      clear hru hc1
      have HP := hH hp
      have HST := hH hst
      clear hp hst hv2 hx hmem hle hL
      go_wp2_with (go_at_call 75; (with_reducible refine (uH HE).mono ?_); rintro e w3 ⟨v3, rfl, h3⟩; have HP3 := hH (Pt.trans ((uH HP).alloc _) h3); clear h3)
      go_roundw
      case rel => exact ⟨k + 1, by go_num, by omega, by rw [uH HST, ← List.append_assoc (low 2 l.length), ← List.append_assoc bs]; exact uH HP3⟩
      case measure => simp [intOf]; omega
    · obtain rfl : k = l.length := by omega
      have hki : ¬ (l.length : Int) < (l.length : Int) := by omega
      have HP := hH hp
      clear hp
      go_wp2_with fail
      go_ret
      refine ⟨_, rfl, ?_⟩
      have := uH HP
      rw [List.take_length] at this
      exact this
theorem opn_put (bs : List UInt8) (x : Opn) (m : Nat) (v : Value) (base : Nat) (w : World) (h : OwB w base v bs) (hb : base ≤ w.heap.size) (hm : m < 4294967296) (hl : bs.length + (textP x.name ++ low 4 m).length ≤ 1000000000) :
    Calls Tryz.prog 73 #[v, .agg #[.string x.name, .int .u32 (m : Int)]] w (PutOut base w v (bs ++ (textP x.name ++ low 4 m))) := by
  obtain ⟨A, c, rfl⟩ := h.val
  obtain ⟨i_, hi, hz, hs, hbb⟩ := info_parts infoU8
  have b0 := Blk.new w 51 #[.string x.name, .int .u32 (m : Int)]
  have p0 := ((Pt.refl h).alloc (.cells #[.string x.name, .int .u32 (m : Int)] 51)).drew
  have hz1 : base ≤ (w.alloc (.cells #[.string x.name, .int .u32 (m : Int)] 51)).drew.heap.size := Nat.le_trans hb p0.2.1.size
  have KSW := hH (show ∀ W v1 bs1, Pt base (w.alloc (.cells #[.string x.name, .int .u32 (m : Int)] 51)).drew (.slice A bs.length c) W v1 bs1 → W.cell? ⟨w.heap.size, 0, none⟩ = some (.string x.name) ∧ W.cell? ⟨w.heap.size, 1, none⟩ = some (.int .u32 (m : Int)) from fun W v1 bs1 hp => by
    have hB := hp.blk p0.1 b0.drew (by decide)
    exact ⟨hB.cell 0, hB.cell 1⟩)
  have HQ := hH (Pt.refl p0.1)
  have HK := hH (uH KSW _ _ _ (uH HQ))
  have HP0 := hH p0
  simp only [List.length_append, text_plen, low_len] at hl
  have hwm : IntKind.i64.wrap (m : Int) = (m : Int) := by simp only [IntKind.wrap, IntKind.bits, IntKind.signed]; simp; omega
  clear h b0 p0
  go_enter Tryz.func73, Tryz.ntmps73
  go_wp2_with fail
  refine wp_region_ab (fun W' => W'.cell? ⟨w.heap.size, 0, none⟩ = some (.string x.name) ∧ W'.cell? ⟨w.heap.size, 1, none⟩ = some (.int .u32 (m : Int))) 8 9 (by kernel_rfl) (by kernel_rfl) ?_
  refine AB.tk (i := 0) (v := ?_) rfl (by kernel_rfl) (by kernel_rfl) (fun _ _ _ h => h) ?_ (uH HK) ?_
  rotate_left
  · intro W' hS'; (try dsimp only at hS'); go_simp; try with_reducible rfl
  try simp only [Act.put, List.setIfInBounds_toArray]
  refine AB.tk (i := 1) (v := ?_) rfl (by kernel_rfl) (by kernel_rfl) (fun _ _ _ h => h) ?_ (uH HK) ?_
  rotate_left
  · intro W' hS'; (try dsimp only at hS'); go_simp; try with_reducible rfl
  try simp only [Act.put]
  refine AB.tk (i := 2) (v := ?_) rfl (by kernel_rfl) (by kernel_rfl) (fun _ _ _ h => h) ?_ (uH HK) ?_
  rotate_left
  · intro W' hS'; (try dsimp only at hS'); go_simp; try with_reducible rfl
  try simp only [Act.put]
  refine AB.tk (i := 4) (v := ?_) rfl (by kernel_rfl) (by kernel_rfl) (fun _ _ _ h => h) ?_ (uH HK) ?_
  rotate_left
  · intro W' hS'; (try dsimp only at hS'); go_simp; try with_reducible rfl
  try simp only [Act.put]
  refine AB.tk (i := 5) (v := ?_) rfl (by kernel_rfl) (by kernel_rfl) (fun _ _ _ h => h) ?_ (uH HK) ?_
  rotate_left
  · intro W' hS'; (try dsimp only at hS'); go_simp; try with_reducible rfl
  try simp only [Act.put]
  refine AB.tk (i := 6) (v := ?_) rfl (by kernel_rfl) (by kernel_rfl) (fun _ _ _ h => h) ?_ (uH HK) ?_
  rotate_left
  · intro W' hS'; (try dsimp only at hS'); go_simp; try with_reducible rfl
  try simp only [Act.put]
  refine AB.step (i := 3) (by kernel_rfl) rfl (fun K hK => ?_)
  go_simp
  go_at_call 71
  refine (text_any (bs) x.name _ base _ (uH HQ).1 (Nat.le_trans hz1 (uH HQ).2.1.size) (by (try simp only [List.length_append, List.length_cons, List.length_nil, text_plen, low_len]); omega)).mono ?_
  rintro e wv1 ⟨wv1v, rfl, h2_⟩
  have HN_ := hH (Pt.trans (uH HQ) h2_)
  clear HQ
  have HQ := HN_
  clear HN_
  have HN_ := hH (uH KSW _ _ _ (uH HQ))
  clear HK
  have HK := HN_
  clear HN_
  clear h2_
  go_wp2_with fail
  refine hK.out _ _ (fun _ => uH HK) ?_
  clear hK K
  try simp only [Act.put, List.setIfInBounds_toArray, List.set_cons_zero, List.set_cons_succ]
  refine AB.step (i := 7) (by kernel_rfl) rfl (fun K hK => ?_)
  go_simp
  go_at_call 24
  refine (num4_any ((bs) ++ textP x.name) m _ base _ (uH HQ).1 (Nat.le_trans hz1 (uH HQ).2.1.size) (by omega) (by (try simp only [List.length_append, text_plen]); omega)).mono ?_
  rintro e wv2 ⟨wv2v, rfl, h2_⟩
  have HN_ := hH (Pt.trans (uH HQ) h2_)
  clear HQ
  have HQ := HN_
  clear HN_
  have HN_ := hH (uH KSW _ _ _ (uH HQ))
  clear HK
  have HK := HN_
  clear HN_
  clear h2_
  go_wp2_with fail
  refine hK.out _ _ (fun _ => uH HK) ?_
  clear hK K
  try simp only [Act.put, List.setIfInBounds_toArray, List.set_cons_zero, List.set_cons_succ]
  refine AB.step (i := 8) (by kernel_rfl) rfl (fun K hK => ?_)
  go_simp
  refine hK.out _ _ (fun h => absurd rfl h) ?_
  clear hK K
  try simp only [Act.put, List.setIfInBounds_toArray, List.set_cons_zero, List.set_cons_succ]
  refine AB.done (by kernel_rfl) ?_ _
  (go_wp2_with fail; go_ret; refine ⟨_, rfl, ?_⟩; show Pt base w _ _ _ _; simpa [List.append_assoc, low] using (uH HP0).trans (uH HQ))
theorem opn_any (bs : List UInt8) (x : Opn) (v : Value) (base : Nat) (w : World) (h : OwB w base v bs) (hb : base ≤ w.heap.size) (hf : OpnFit x) (hl : bs.length + (opnP x).length ≤ 1000000000) :
    Calls Tryz.prog 73 #[v, .agg #[.string x.name, .int .u32 x.digest]] w (PutOut base w v (bs ++ opnP x)) := by
  obtain ⟨hf1, hf2, hf3⟩ := hf
  obtain ⟨m, hm⟩ : ∃ m : Nat, x.digest = (m : Int) := ⟨x.digest.toNat, by omega⟩
  unfold opnP at hl ⊢
  rw [hm] at hl ⊢
  rw [Int.toNat_natCast] at hl ⊢
  exact opn_put bs x m v base w h hb (by omega) hl
theorem row_opens (bs : List UInt8) (l : List Opn) (va v : Value) (T : Nat → Prop) (base : Nat) (w : World) (h : OwB w base v bs) (hb : base ≤ w.heap.size) (hr : RdO T w va l) (hT : ∀ b, T b → b < base) (hfit : ∀ x ∈ l, OpnFit x) (hl : bs.length + (rowP opnP l).length ≤ 1000000000) :
    Calls Tryz.prog 72 #[v, va, .func (.func 73) #[] #[]] w (PutOut base w v (bs ++ rowP opnP l)) := by
  obtain ⟨A, c, rfl⟩ := h.val
  obtain ⟨A1, c1, rfl⟩ := RdR.val hr
  have hbig : l.length ≤ 1000000000 := by
    have := flat_pos opnP opnP_pos l
    unfold rowP at hl
    rw [List.length_append] at hl
    omega
  have HNM := hH (num2_any bs l.length _ base w h hb (by omega) (by unfold rowP at hl; rw [List.length_append, low_len] at hl; omega))
  have HR := hH (fun W v1 bs1 (hp : Pt base w (.slice A bs.length c) W v1 bs1) => RdO.chg hr (hp.low h) (fun b hb _ hk => by have := hT b hb; omega))
  have HL := hH hl
  clear hr h
  go_enter Tryz.func72, Tryz.ntmps72
  go_wp2_with (go_at_call 24; (with_reducible refine (uH HNM).mono ?_); rintro e w2 ⟨v2, rfl, h2⟩; have HP0 : Hid (Pt base w _ w2 v2 (bs ++ low 2 l.length)) := hH h2; clear h2)
  go_loopw [0, 15] (fun b i wr => ∃ k : Nat, i = .int .i64 (k : Int) ∧ k ≤ l.length ∧ Pt base w (.slice A bs.length c) wr b (bs ++ (low 2 l.length ++ (l.take k).flatMap opnP))) (fun _ i _ => l.length - (intOf i).toNat)
  case atStart => exact ⟨0, rfl, Nat.zero_le _, by simpa using uH HP0⟩
  case round =>
    clear HP0 HNM
    obtain ⟨wq, rfl⟩ : ∃ wq : World, wq = wr := ⟨_, rfl⟩
    obtain ⟨k, rfl, hk, hp⟩ := hrel
    by_cases hlt : k < l.length
    · have hki : (k : Int) < (l.length : Int) := by omega
      have hx : l[k]? = some l[k] := List.getElem?_eq_getElem hlt
      have hmem := List.getElem_mem hlt
      have hst := take_flat opnP hx
      have hle := flat_le opnP hx
      generalize l[k] = x at *
      obtain ⟨b, o, c3, hv, _, hok, d0, d1⟩ := RdO.at_ (uH HR _ _ _ hp) hx
      injection hv with hv1 hv2 hv3
      subst hv1 hv3
      have hL := uH HL
      unfold rowP at hL
      rw [List.length_append, low_len] at hL
      have hc1 := (Chg.refl (fun _ => False) wq).alloc (.cells #[.string x.name, .int .u32 x.digest] 51)
      have HE := hH (opn_any (bs ++ (low 2 l.length ++ (l.take k).flatMap opnP)) x u0 base _ (hp.alloc (.cells #[.string x.name, .int .u32 x.digest] 51)).1 (Nat.le_trans hb (hp.alloc _).2.1.size) (hfit x hmem) (by rw [List.length_append, List.length_append, low_len]; omega))
      clear hc1
      have HP := hH hp
      have HST := hH hst
      clear hp hst hv2 hx hmem hle hL
      go_wp2_with (go_at_call 73; (with_reducible refine (uH HE).mono ?_); rintro e w3 ⟨v3, rfl, h3⟩; have HP3 := hH (Pt.trans ((uH HP).alloc _) h3); clear h3)
      go_roundw
      case rel => exact ⟨k + 1, by go_num, by omega, by rw [uH HST, ← List.append_assoc (low 2 l.length), ← List.append_assoc bs]; exact uH HP3⟩
      case measure => simp [intOf]; omega
    · obtain rfl : k = l.length := by omega
      have hki : ¬ (l.length : Int) < (l.length : Int) := by omega
      have HP := hH hp
      clear hp
      go_wp2_with fail
      go_ret
      refine ⟨_, rfl, ?_⟩
      have := uH HP
      rw [List.take_length] at this
      exact this
end Go.Proofs.YtinekmjengckdaaGreatDoor
