/-
  Layer 23: types and constructors put behind bytes.
-/
import Derived.Test.YtinekmjengckdaaGreatDoorA22
namespace Go.Proofs.YtinekmjengckdaaGreatDoor
open Go.RowKit
set_option maxHeartbeats 4000000
set_option maxRecDepth 100000
theorem typ_any (bs : List UInt8) (t : List Nd) (va v : Value) (T : Nat → Prop) (base : Nat) (w : World) (h : OwB w base v bs) (hb : base ≤ w.heap.size) (hr : RdN T w va t) (hT : ∀ b, T b → b < base) (hf : TypFit t) (hl : bs.length + (typP t).length ≤ 1000000000) :
    Calls Tryz.prog 82 #[v, va] w (PutOut base w v (bs ++ typP t)) := by
  have HN := hH (row_nodes bs t va v T base w h hb hr hT hf.2 hl)
  obtain ⟨A, c, rfl⟩ := h.val
  obtain ⟨A1, c1, rfl⟩ := hr.val
  clear h hr
  go_enter Tryz.func82, Tryz.ntmps82
  go_wp2_with (go_at_call 128; (with_reducible refine (uH HN).mono ?_); rintro e w2 ⟨v2, rfl, h2⟩; have H2 := hH h2; clear h2)
  go_ret
  exact ⟨_, rfl, uH H2⟩
theorem row_types (bs : List UInt8) (l : List (List Nd)) (va v : Value) (T : Nat → Prop) (base : Nat) (w : World) (h : OwB w base v bs) (hb : base ≤ w.heap.size) (hr : RdNs T w va l) (hT : ∀ b, T b → b < base) (hfit : ∀ x ∈ l, TypFit x) (hl : bs.length + (rowP typP l).length ≤ 1000000000) :
    Calls Tryz.prog 127 #[v, va, .func (.func 82) #[] #[]] w (PutOut base w v (bs ++ rowP typP l)) := by
  obtain ⟨A, c, rfl⟩ := h.val
  obtain ⟨A1, c1, rfl⟩ := RdR.val hr
  have hbig : l.length ≤ 1000000000 := by
    have := flat_pos typP typP_pos l
    unfold rowP at hl
    rw [List.length_append] at hl
    omega
  have HNM := hH (num2_any bs l.length _ base w h hb (by omega) (by unfold rowP at hl; rw [List.length_append, low_len] at hl; omega))
  have HR := hH (fun W v1 bs1 (hp : Pt base w (.slice A bs.length c) W v1 bs1) => RdNs.chg hr (hp.low h) (fun b hb _ hk => by have := hT b hb; omega))
  have HL := hH hl
  clear hr h
  go_enter Tryz.func127, Tryz.ntmps127
  go_wp2_with (go_at_call 24; (with_reducible refine (uH HNM).mono ?_); rintro e w2 ⟨v2, rfl, h2⟩; have HP0 : Hid (Pt base w _ w2 v2 (bs ++ low 2 l.length)) := hH h2; clear h2)
  go_loopw [0, 15] (fun b i wr => ∃ k : Nat, i = .int .i64 (k : Int) ∧ k ≤ l.length ∧ Pt base w (.slice A bs.length c) wr b (bs ++ (low 2 l.length ++ (l.take k).flatMap typP))) (fun _ i _ => l.length - (intOf i).toNat)
  case atStart => exact ⟨0, rfl, Nat.zero_le _, by simpa using uH HP0⟩
  case round =>
    clear HP0 HNM
    obtain ⟨wq, rfl⟩ : ∃ wq : World, wq = wr := ⟨_, rfl⟩
    obtain ⟨k, rfl, hk, hp⟩ := hrel
    by_cases hlt : k < l.length
    · have hki : (k : Int) < (l.length : Int) := by omega
      have hx : l[k]? = some l[k] := List.getElem?_eq_getElem hlt
      have hmem := List.getElem_mem hlt
      have hst := take_flat typP hx
      have hle := flat_le typP hx
      generalize l[k] = x at *
      obtain ⟨b, o, c3, u, hv, _, hru, d0⟩ := RdNs.at_ (uH HR _ _ _ hp) hx
      injection hv with hv1 hv2 hv3
      subst hv1 hv3
      have hL := uH HL
      unfold rowP at hL
      rw [List.length_append, low_len] at hL
      have HE := hH (typ_any (bs ++ (low 2 l.length ++ (l.take k).flatMap typP)) x u u0 T base _ hp.1 (Nat.le_trans hb hp.2.1.size) hru hT (hfit x hmem) (by rw [List.length_append, List.length_append, low_len]; omega))
      obtain ⟨B7, c7, rfl⟩ := hru.val
      clear hru
      have HP := hH hp
      have HST := hH hst
      clear hp hst hv2 hx hmem hle hL
      go_wp2_with (go_at_call 82; (with_reducible refine (uH HE).mono ?_); rintro e w3 ⟨v3, rfl, h3⟩; have HP3 := hH (Pt.trans ((uH HP)) h3); clear h3)
      go_roundw
      case rel => exact ⟨k + 1, by go_num, by omega, by rw [uH HST, ← List.append_assoc (low 2 l.length), ← List.append_assoc bs]; exact uH HP3⟩
      case measure => simp [intOf]; omega
    · obtain rfl : k = l.length := by omega
      have hki : ¬ (l.length : Int) < (l.length : Int) := by omega
      have HP := hH hp
      clear hp
      go_wp2_with fail
      go_ret
      refine ⟨_, rfl, ?_⟩
      have := uH HP
      rw [List.take_length] at this
      exact this
theorem ct_any (bs : List UInt8) (x : Ct) (u : Value) (T : Nat → Prop) (v : Value) (base : Nat) (w : World) (h : OwB w base v bs) (hb : base ≤ w.heap.size) (hru : RdNs T w u x.args) (hT : ∀ b, T b → b < base) (hf : CtFit x) (hl : bs.length + (ctP x).length ≤ 1000000000) :
    Calls Tryz.prog 77 #[v, .agg #[.string x.name, u]] w (PutOut base w v (bs ++ (ctP x))) := by
  obtain ⟨A, c, rfl⟩ := h.val
  obtain ⟨B7, c7, rfl⟩ := hru.val
  obtain ⟨i_, hi, hz, hs, hbb⟩ := info_parts infoU8
  have b0 := Blk.new w 64 #[.string x.name, .slice B7 x.args.length c7]
  have p0 := ((Pt.refl h).alloc (.cells #[.string x.name, .slice B7 x.args.length c7] 64)).drew
  have hz1 : base ≤ (w.alloc (.cells #[.string x.name, .slice B7 x.args.length c7] 64)).drew.heap.size := Nat.le_trans hb p0.2.1.size
  have KSW := hH (show ∀ W v1 bs1, Pt base (w.alloc (.cells #[.string x.name, .slice B7 x.args.length c7] 64)).drew (.slice A bs.length c) W v1 bs1 → W.cell? ⟨w.heap.size, 0, none⟩ = some (.string x.name) ∧ W.cell? ⟨w.heap.size, 1, none⟩ = some (.slice B7 x.args.length c7) from fun W v1 bs1 hp => by
    have hB := hp.blk p0.1 b0.drew (by decide)
    exact ⟨hB.cell 0, hB.cell 1⟩)
  have HQ := hH (Pt.refl p0.1)
  have HK := hH (uH KSW _ _ _ (uH HQ))
  have HP0 := hH p0
  have HRU := hH (fun W v1 bs1 (hp : Pt base (w.alloc (.cells #[.string x.name, .slice B7 x.args.length c7] 64)).drew (.slice A bs.length c) W v1 bs1) => RdNs.chg (RdNs.chg hru ((Chg.refl (fun _ => False) w).alloc (.cells #[.string x.name, .slice B7 x.args.length c7] 64)).drew (fun _ _ _ => id)) (hp.low p0.1) (fun b hb _ hk => by have := hT b hb; omega))
  simp only [ctP, List.length_append, text_plen] at hl
  obtain ⟨hf1, hf2, hf3⟩ := hf
  clear hru
  clear h b0 p0
  go_enter Tryz.func77, Tryz.ntmps77
  go_wp2_with fail
  refine wp_region_ab (fun W' => W'.cell? ⟨w.heap.size, 0, none⟩ = some (.string x.name) ∧ W'.cell? ⟨w.heap.size, 1, none⟩ = some (.slice B7 x.args.length c7)) 7 8 (by kernel_rfl) (by kernel_rfl) ?_
  refine AB.tk (i := 0) (v := ?_) rfl (by kernel_rfl) (by kernel_rfl) (fun _ _ _ h => h) ?_ (uH HK) ?_
  rotate_left
  · intro W' hS'; (try dsimp only at hS'); go_simp; try with_reducible rfl
  try simp only [Act.put, List.setIfInBounds_toArray]
  refine AB.tk (i := 1) (v := ?_) rfl (by kernel_rfl) (by kernel_rfl) (fun _ _ _ h => h) ?_ (uH HK) ?_
  rotate_left
  · intro W' hS'; (try dsimp only at hS'); go_simp; try with_reducible rfl
  try simp only [Act.put]
  refine AB.tk (i := 2) (v := ?_) rfl (by kernel_rfl) (by kernel_rfl) (fun _ _ _ h => h) ?_ (uH HK) ?_
  rotate_left
  · intro W' hS'; (try dsimp only at hS'); go_simp; try with_reducible rfl
  try simp only [Act.put]
  refine AB.tk (i := 4) (v := ?_) rfl (by kernel_rfl) (by kernel_rfl) (fun _ _ _ h => h) ?_ (uH HK) ?_
  rotate_left
  · intro W' hS'; (try dsimp only at hS'); go_simp; try with_reducible rfl
  try simp only [Act.put]
  refine AB.tk (i := 5) (v := ?_) rfl (by kernel_rfl) (by kernel_rfl) (fun _ _ _ h => h) ?_ (uH HK) ?_
  rotate_left
  · intro W' hS'; (try dsimp only at hS'); go_simp; try with_reducible rfl
  try simp only [Act.put]
  refine AB.step (i := 3) (by kernel_rfl) rfl (fun K hK => ?_)
  go_simp
  go_at_call 71
  refine (text_any (bs) x.name _ base _ (uH HQ).1 (Nat.le_trans hz1 (uH HQ).2.1.size) (by (try simp only [List.length_append, List.length_cons, List.length_nil, text_plen, low_len]); omega)).mono ?_
  rintro e wv1 ⟨wv1v, rfl, h2_⟩
  have HN_ := hH (Pt.trans (uH HQ) h2_)
  clear HQ
  have HQ := HN_
  clear HN_
  have HN_ := hH (uH KSW _ _ _ (uH HQ))
  clear HK
  have HK := HN_
  clear HN_
  clear h2_
  go_wp2_with fail
  refine hK.out _ _ (fun _ => uH HK) ?_
  clear hK K
  try simp only [Act.put, List.setIfInBounds_toArray, List.set_cons_zero, List.set_cons_succ]
  refine AB.step (i := 6) (by kernel_rfl) rfl (fun K hK => ?_)
  go_simp
  go_at_call 127
  refine (row_types ((bs) ++ textP x.name) x.args _ _ T base _ (uH HQ).1 (Nat.le_trans hz1 (uH HQ).2.1.size) (uH HRU _ _ _ (uH HQ)) hT hf3 (by (try simp only [List.length_append, text_plen]); omega)).mono ?_
  rintro e wv2 ⟨wv2v, rfl, h2_⟩
  have HN_ := hH (Pt.trans (uH HQ) h2_)
  clear HQ
  have HQ := HN_
  clear HN_
  have HN_ := hH (uH KSW _ _ _ (uH HQ))
  clear HK
  have HK := HN_
  clear HN_
  clear h2_
  go_wp2_with fail
  refine hK.out _ _ (fun _ => uH HK) ?_
  clear hK K
  try simp only [Act.put, List.setIfInBounds_toArray, List.set_cons_zero, List.set_cons_succ]
  refine AB.step (i := 7) (by kernel_rfl) rfl (fun K hK => ?_)
  go_simp
  refine hK.out _ _ (fun h => absurd rfl h) ?_
  clear hK K
  try simp only [Act.put, List.setIfInBounds_toArray, List.set_cons_zero, List.set_cons_succ]
  refine AB.done (by kernel_rfl) ?_ _
  (go_wp2_with fail; go_ret; refine ⟨_, rfl, ?_⟩; show Pt base w _ _ _ _; simpa [List.append_assoc, low, ctP] using (uH HP0).trans (uH HQ))
theorem row_ctors (bs : List UInt8) (l : List Ct) (va v : Value) (T : Nat → Prop) (base : Nat) (w : World) (h : OwB w base v bs) (hb : base ≤ w.heap.size) (hr : RdC T w va l) (hT : ∀ b, T b → b < base) (hfit : ∀ x ∈ l, CtFit x) (hl : bs.length + (rowP ctP l).length ≤ 1000000000) :
    Calls Tryz.prog 76 #[v, va, .func (.func 77) #[] #[]] w (PutOut base w v (bs ++ rowP ctP l)) := by
  obtain ⟨A, c, rfl⟩ := h.val
  obtain ⟨A1, c1, rfl⟩ := RdR.val hr
  have hbig : l.length ≤ 1000000000 := by
    have := flat_pos ctP ctP_pos l
    unfold rowP at hl
    rw [List.length_append] at hl
    omega
  have HNM := hH (num2_any bs l.length _ base w h hb (by omega) (by unfold rowP at hl; rw [List.length_append, low_len] at hl; omega))
  have HR := hH (fun W v1 bs1 (hp : Pt base w (.slice A bs.length c) W v1 bs1) => RdC.chg hr (hp.low h) (fun b hb _ hk => by have := hT b hb; omega))
  have HL := hH hl
  clear hr h
  go_enter Tryz.func76, Tryz.ntmps76
  go_wp2_with (go_at_call 24; (with_reducible refine (uH HNM).mono ?_); rintro e w2 ⟨v2, rfl, h2⟩; have HP0 : Hid (Pt base w _ w2 v2 (bs ++ low 2 l.length)) := hH h2; clear h2)
  go_loopw [0, 15] (fun b i wr => ∃ k : Nat, i = .int .i64 (k : Int) ∧ k ≤ l.length ∧ Pt base w (.slice A bs.length c) wr b (bs ++ (low 2 l.length ++ (l.take k).flatMap ctP))) (fun _ i _ => l.length - (intOf i).toNat)
  case atStart => exact ⟨0, rfl, Nat.zero_le _, by simpa using uH HP0⟩
  case round =>
    clear HP0 HNM
    obtain ⟨wq, rfl⟩ : ∃ wq : World, wq = wr := ⟨_, rfl⟩
    obtain ⟨k, rfl, hk, hp⟩ := hrel
    by_cases hlt : k < l.length
    · have hki : (k : Int) < (l.length : Int) := by omega
      have hx : l[k]? = some l[k] := List.getElem?_eq_getElem hlt
      have hmem := List.getElem_mem hlt
      have hst := take_flat ctP hx
      have hle := flat_le ctP hx
      generalize l[k] = x at *
      obtain ⟨b, o, c3, u, hv, _, hru, hns, d0, d1⟩ := RdC.at_ (uH HR _ _ _ hp) hx
      injection hv with hv1 hv2 hv3
      subst hv1 hv3
      have hL := uH HL
      unfold rowP at hL
      rw [List.length_append, low_len] at hL
      have hc1 := (Chg.refl (fun _ => False) wq).alloc (.cells #[.string x.name, u] 64)
      have HE := hH (ct_any (bs ++ (low 2 l.length ++ (l.take k).flatMap ctP)) x u T u0 base _ (hp.alloc (.cells #[.string x.name, u] 64)).1 (Nat.le_trans hb (hp.alloc _).2.1.size) (hru.chg hc1 (fun _ _ _ => id)) hT (hfit x hmem) (by rw [List.length_append, List.length_append, low_len]; omega))
      obtain ⟨B7, c7, rfl⟩ := hru.val
      clear hru hc1
      have HP := hH hp
      have HST := hH hst
      clear hp hst hv2 hx hmem hle hL
      go_wp2_with (go_at_call 77; (with_reducible refine (uH HE).mono ?_); rintro e w3 ⟨v3, rfl, h3⟩; have HP3 := hH (Pt.trans ((uH HP).alloc _) h3); clear h3)
      go_roundw
      case rel => exact ⟨k + 1, by go_num, by omega, by rw [uH HST, ← List.append_assoc (low 2 l.length), ← List.append_assoc bs]; exact uH HP3⟩
      case measure => simp [intOf]; omega
    · obtain rfl : k = l.length := by omega
      have hki : ¬ (l.length : Int) < (l.length : Int) := by omega
      have HP := hH hp
      clear hp
      go_wp2_with fail
      go_ret
      refine ⟨_, rfl, ?_⟩
      have := uH HP
      rw [List.take_length] at this
      exact this
end Go.Proofs.YtinekmjengckdaaGreatDoor
