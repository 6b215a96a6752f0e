/-
  Layer 10, the document's side: the type of a function.
-/
import Derived.Test.YticnehmgaklhfaaGreatDoorRtb
import Derived.Test.YticnehmgaklhfaaGreatDoorAwk
import Derived.Test.YticnehmgaklhfaaGreatDoorLwP
namespace Go.Proofs.YticnehmgaklhfaaGreatDoor
open Go.RowKit
set_option maxHeartbeats 2000000
set_option maxRecDepth 100000
theorem RdNs.tail {T : Nat → Prop} {w : World} {b o m c c' : Nat} {l : List (List Nd)} (h : RdNs T w (.slice (some ⟨b, o, none⟩) m c) l) : RdNs T w (.slice (some ⟨b, o + 1, none⟩) (m - 1) c') (l.drop 1) := by
  obtain ⟨A, c2, ps, e, h2, h3, h4, h5⟩ := h
  injection e with e1 e2 e3
  subst e1 e2
  have hl : (l.drop 1).length = l.length - 1 := List.length_drop
  refine ⟨_, c', ps.drop 1, by rw [hl], by rw [List.map_drop, h2], ?_, fun p hp => h4 p (List.mem_of_mem_drop hp), by omega⟩
  have h6 := h3.drop rfl 1
  rw [flat_sing Prod.snd] at h6 ⊢
  rw [List.map_drop]
  exact h6
theorem refArrow_any : ∀ (n : Nat) (args : List (List Nd)) (tz : List Nd) (v1 v2 : Value) (T T2 : Nat → Prop) (w : World), args.length = n → RdNs T w v1 args → capOk v1 → RdN T2 w v2 tz → args.length ≤ 10 → (∀ a ∈ args, a.length ≤ 60) → tz.length ≤ 100 →
    Calls Tryz.prog 16 #[v1, v2] w fun e w' => ∃ v', e = .returned v' ∧ RdN (fun k => T2 k ∨ w.heap.size ≤ k) w' v' (arrowL args tz) ∧ Chg (fun _ => False) w w' := by
  intro n
  induction n with
  | zero =>
    intro args tz v1 v2 T T2 w hn hr1 _ hr2 _ _ _
    have ha : args = [] := List.eq_nil_of_length_eq_zero hn
    subst ha
    obtain ⟨A1, c1, rfl⟩ := hr1.val
    obtain ⟨A2, c2, rfl⟩ := hr2.val
    have HR := hide hr2
    clear hr1 hr2
    go_enter Tryz.func16, Tryz.ntmps16
    go_wp2_with fail
    go_ret
    exact ⟨_, rfl, (unhide HR).mono (fun _ h => .inl h), Chg.refl _ _⟩
  | succ n ih =>
    intro args tz v1 v2 T T2 w hn hr1 hcap hr2 h10 h60 htz
    have h0 : 0 < args.length := by omega
    have hx : args[0]? = some args[0] := List.getElem?_eq_getElem h0
    have hxl := h60 args[0] (List.getElem_mem h0)
    have hargs : args = args[0] :: args.drop 1 := by
      cases args with
      | nil => simp at h0
      | cons a m => rfl
    generalize args[0] = x at *
    obtain ⟨rest, hre⟩ : ∃ rest, rest = args.drop 1 := ⟨_, rfl⟩
    rw [← hre] at hargs
    obtain ⟨A, m, c, rfl, hcc, hcm⟩ := hcap
    obtain ⟨b, o, c', u, hv, _, hru, c0⟩ := hr1.at_ hx
    injection hv with hv1 hv2 hv3
    subst hv1 hv2 hv3
    rw [Nat.add_zero] at c0
    have HRX := hide (fun W (hW : Chg (fun _ => False) w W) => hru.chg hW (fun _ _ _ => id))
    obtain ⟨X, cx, rfl⟩ := hru.val
    have hdl : rest.length = n := by rw [hre, List.length_drop]; omega
    have h60d : ∀ a ∈ rest, a.length ≤ 60 := fun a ha => h60 a (by rw [hre] at ha; exact List.mem_of_mem_drop ha)
    have htl : RdNs T w (.slice (if c = 1 then some ⟨b, o, none⟩ else some ⟨b, o + 1, none⟩) (args.length - 1) (c - 1)) (args.drop 1) := by
      by_cases hc1 : c = 1
      · have h1 : args.length = 1 := by omega
        have h2 : args.drop 1 = [] := List.drop_eq_nil_of_le (by omega)
        rw [if_pos hc1, h1, h2]
        exact RdR.nil_ _ _ _ _
      · rw [if_neg hc1]
        exact hr1.tail (c' := c - 1)
    rw [← hre] at htl
    obtain ⟨R, hR⟩ : ∃ R, R = arrowL rest tz := ⟨_, rfl⟩
    have hct : capOk (.slice (if c = 1 then some ⟨b, o, none⟩ else some ⟨b, o + 1, none⟩) (args.length - 1) (c - 1)) := ⟨_, _, _, rfl, by omega, by omega⟩
    have HIH := hide (fun W (hW : Chg (fun _ => False) w W) => ih rest tz _ v2 T T2 W hdl (htl.chg hW (fun _ _ _ => id)) hct (hr2.chg hW (fun _ _ _ => id)) (by omega) h60d htz)
    have hal := arrow_size rest tz 60 h60d
    have hal2 : rest.length * (60 + 1) ≤ 10 * 61 := Nat.mul_le_mul_right _ (by omega)
    rw [← hR] at HIH hal
    have HMK := hide (fun W va T3 (hW : Chg (fun _ => False) w W) (h : RdN T3 W va R) => show Calls Tryz.prog 44 #[.agg #[.int .i64 32, .string ⟨#[45, 62]⟩, .int .i64 0, .int .i64 0], .slice (some ⟨W.heap.size, 0, none⟩) 2 2] (W.alloc (.cells #[.slice X x.length cx, va] 33)) fun e w' => ∃ v', e = .returned v' ∧ RdN (fun k => W.heap.size ≤ k) w' v' (arrowL args tz) ∧ Chg (fun _ => False) W w' from by
      have hrn : RdNs (fun _ => True) (W.alloc (.cells #[.slice X x.length cx, va] 33)) (.slice (some ⟨W.heap.size, 0, none⟩) 2 2) [x, R] := rdr_blk [(x, .slice X x.length cx), (R, va)] (Blk.new W _ _) trivial (fun p hp => by
        simp only [List.mem_cons, List.not_mem_nil, or_false] at hp
        rcases hp with rfl | rfl
        · exact ((unhide HRX _ hW).chg ((Chg.refl _ W).alloc _) (fun _ _ _ => id)).mono (fun _ _ => trivial)
        · exact (h.chg ((Chg.refl _ W).alloc _) (fun _ _ _ => id)).mono (fun _ _ => trivial)) (by simp)
      refine (make_any ⟨32, ArrowT, 0, 0⟩ [x, R] _ _ _ hrn (by simp) (fun a ha => by
        simp only [List.mem_cons, List.not_mem_nil, or_false] at ha
        rcases ha with rfl | rfl <;> omega) (show ArrowT.size ≤ _ by decide)).mono fun e w' hh => ?_
      obtain ⟨v', h1, h2, _, h4⟩ := hh
      have e2 : arrowL args tz = ⟨32, ArrowT, 0, 2⟩ :: (x ++ R) := by
        rw [hR]
        conv => lhs; rw [hargs]
        rfl
      refine ⟨v', h1, ?_, ((Chg.refl _ W).alloc _).trans' h4⟩
      rw [e2]
      have h5 := h2.mono (T' := fun k => W.heap.size ≤ k) (fun k hk => by rw [size_alloc] at hk; omega)
      simp only [List.flatten_cons, List.flatten_nil, List.append_nil] at h5
      exact h5)
    obtain ⟨A2, c2, rfl⟩ := hr2.val
    have hlen0 : (0 : Int) < (args.length : Int) := by omega
    have hlen1 : (1 : Int) ≤ (args.length : Int) := by omega
    have hcci : (args.length : Int) ≤ (c : Int) := by omega
    have hn0 : ¬ args.length = 0 := by omega
    have hne : ¬ args = [] := by rintro rfl; simp at h0
    have hle1 : 1 ≤ args.length := h0
    have KSW := hide (show ∀ W', Chg (fun _ => False) w W' → W'.cell? ⟨b, o, none⟩ = some (.slice X x.length cx) from fun W' hW => (hW.cell (World.block_lt_of_cell? w _ c0) id).trans c0)
    have HX := hide ((Chg.refl (fun _ => False) w).drew)
    have HKK := hide (unhide KSW _ (unhide HX))
    clear hr1 hr2 hru c0 ih htl hct hx hargs hal hal2 hdl h60d hn hre hR
    by_cases hc1 : c = 1
    · rw [if_pos hc1] at HIH
      subst hc1
      simp only [Nat.sub_self] at HIH
      rw [show args.length - 1 = 0 by omega] at HIH
      go_enter Tryz.func16, Tryz.ntmps16
      go_wp2_with fail
      go_region_held3 (fun W' => W'.cell? ⟨b, o, none⟩ = some (.slice X x.length cx)) (first | exact unhide HKK | exact unhide HKA) (first
        | (go_at_call 16; (with_reducible refine (unhide HIH _ (unhide HX)).mono ?_); rintro e w2 ⟨va, rfl, hva, hch⟩; (have HN_ := hide ((unhide HX).trans' hch)); clear HX; have HX := HN_; clear HN_; have HVA := hide hva; (obtain ⟨Av, cv, rfl⟩ := hva.val); clear HKK; have HKK := hide (unhide KSW _ (unhide HX)); have HKA := hide (unhide KSW _ ((unhide HX).alloc (.cells #[.slice X x.length cx, .slice Av R.length cv] 33))); clear hva hch)
        | (go_at_call 44; (with_reducible refine (unhide HMK _ _ _ (unhide HX) (unhide HVA)).mono ?_); rintro e w3 ⟨vm, rfl, hvm, hch⟩; have HSZ := hide (unhide HX).size; (have HN_ := hide ((unhide HX).trans' hch)); clear HX; have HX := HN_; clear HN_; have HVM := hide hvm; clear HKK; have HKK := hide (unhide KSW _ (unhide HX)); clear hvm hch))
      go_wp2_with fail
      go_ret
      exact ⟨_, rfl, (unhide HVM).mono (fun k hk => .inr (Nat.le_trans (unhide HSZ) hk)), unhide HX⟩
    · rw [if_neg hc1] at HIH
      go_enter Tryz.func16, Tryz.ntmps16
      go_wp2_with fail
      go_region_held3 (fun W' => W'.cell? ⟨b, o, none⟩ = some (.slice X x.length cx)) (first | exact unhide HKK | exact unhide HKA) (first
        | (go_at_call 16; (with_reducible refine (unhide HIH _ (unhide HX)).mono ?_); rintro e w2 ⟨va, rfl, hva, hch⟩; (have HN_ := hide ((unhide HX).trans' hch)); clear HX; have HX := HN_; clear HN_; have HVA := hide hva; (obtain ⟨Av, cv, rfl⟩ := hva.val); clear HKK; have HKK := hide (unhide KSW _ (unhide HX)); have HKA := hide (unhide KSW _ ((unhide HX).alloc (.cells #[.slice X x.length cx, .slice Av R.length cv] 33))); clear hva hch)
        | (go_at_call 44; (with_reducible refine (unhide HMK _ _ _ (unhide HX) (unhide HVA)).mono ?_); rintro e w3 ⟨vm, rfl, hvm, hch⟩; have HSZ := hide (unhide HX).size; (have HN_ := hide ((unhide HX).trans' hch)); clear HX; have HX := HN_; clear HN_; have HVM := hide hvm; clear HKK; have HKK := hide (unhide KSW _ (unhide HX)); clear hvm hch))
      go_wp2_with fail
      go_ret
      exact ⟨_, rfl, (unhide HVM).mono (fun k hk => .inr (Nat.le_trans (unhide HSZ) hk)), unhide HX⟩
end Go.Proofs.YticnehmgaklhfaaGreatDoor
