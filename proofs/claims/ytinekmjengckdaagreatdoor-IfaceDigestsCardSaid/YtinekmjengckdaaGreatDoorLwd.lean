/-
  Layer 23: the law on digests.
-/
import Derived.Test.YtinekmjengckdaaGreatDoorM36
import Derived.Test.YtinekmjengckdaaGreatDoorM37
import Derived.Test.YtinekmjengckdaaGreatDoorPlw
import Derived.Deep.QuietTactic
import Derived.BigQuiet
namespace Go.Proofs.YtinekmjengckdaaGreatDoor
open Go.RowKit
set_option maxHeartbeats 4000000
set_option maxRecDepth 100000
theorem bne_t {a b : Int} (h : a ≠ b) : (a != b) = true := bne_iff_ne.2 h
theorem bne_f {a b : Int} (h : a = b) : (a != b) = false := by subst h; simp
theorem dif_le : ∀ (l m : List UInt8), dif l m ≤ l.length
  | a :: l, b :: m => by
    have := dif_le l m
    rw [dif, List.length_cons]
    split <;> omega
  | [], _ => by simp [dif]
  | _ :: _, [] => by simp [dif]
theorem tail_step {l : List UInt8} {L m v v' : Nat} (h : ∃ b : UInt8, l[L + m]? = some b ∧ v = b.toNat + 256 * v') (hv : v < 4294967296) (hv' : v' < 4294967296) (hL : L ≤ 700000000) (hp : ((L : Int) + 4 - 5 + ((m : Int) + 1)).toNat < (ByteArray.mk l.toArray).size) :
    Value.int .i64 (wrap64 (wrap64 (256 * (v' : Int)) + wrap64 (((ByteArray.mk l.toArray)[((L : Int) + 4 - 5 + ((m : Int) + 1)).toNat]'hp).toNat : Int))) = .int .i64 (v : Int) := by
  obtain ⟨b, h1, h2⟩ := h
  obtain ⟨h3, h4⟩ := List.getElem?_eq_some_iff.1 h1
  have e : ((L : Int) + 4 - 5 + ((m : Int) + 1)).toNat = L + m := by omega
  have e2 : (ByteArray.mk l.toArray)[((L : Int) + 4 - 5 + ((m : Int) + 1)).toNat]'hp = b := by
    simp only [e]
    exact h4
  have hb := b.toNat_lt
  rw [e2, w64 (256 * (v' : Int)) (by omega), w64 (b.toNat : Int) (by omega), w64 _ (by omega)]
  congr 1
  omega
theorem digests_law (i : Ifc) (vo vd vf vs : Value) (nm : ByteArray) (T : Nat → Prop) (w : World) (h1 : RdIf T w i vo vd vf vs) (hnm : nm.size ≤ 9223372036854775807) (lay : Lay w) :
    Calls Tryz.prog 8 #[.agg #[.string i.name, vo, vd, vf, vs], .string nm] w fun e w' => e = .returned (.bool true) ∧ Chg (fun _ => False) w w' := by
  obtain ⟨A1, a1, rfl⟩ := RdR.val h1.opens
  obtain ⟨A2, a2, rfl⟩ := RdR.val h1.datas
  obtain ⟨A3, a3, rfl⟩ := RdR.val h1.fixes
  obtain ⟨A4, a4, rfl⟩ := RdR.val h1.sigs
  have h0 : Chg (fun _ => False) w (w.alloc (.cells #[.string i.name, .slice A1 i.opens.length a1, .slice A2 i.datas.length a2, .slice A3 i.fixes.length a3, .slice A4 i.sigs.length a4] 27)) := (Chg.refl _ w).alloc _
  have hb1 : Blk (w.alloc (.cells #[.string i.name, .slice A1 i.opens.length a1, .slice A2 i.datas.length a2, .slice A3 i.fixes.length a3, .slice A4 i.sigs.length a4] 27)) w.heap.size 27 #[.string i.name, .slice A1 i.opens.length a1, .slice A2 i.datas.length a2, .slice A3 i.fixes.length a3, .slice A4 i.sigs.length a4] := Blk.new w _ _
  have KSW := hide (fun W' (hW : Chg (fun _ => False) (w.alloc (.cells #[.string i.name, .slice A1 i.opens.length a1, .slice A2 i.datas.length a2, .slice A3 i.fixes.length a3, .slice A4 i.sigs.length a4] 27)) W') => show W'.cell? ⟨w.heap.size, 0, none⟩ = some (.string i.name) ∧ W'.cell? ⟨w.heap.size, 1, none⟩ = some (.slice A1 i.opens.length a1) ∧ W'.cell? ⟨w.heap.size, 2, none⟩ = some (.slice A2 i.datas.length a2) ∧ W'.cell? ⟨w.heap.size, 3, none⟩ = some (.slice A3 i.fixes.length a3) ∧ W'.cell? ⟨w.heap.size, 4, none⟩ = some (.slice A4 i.sigs.length a4) from ⟨(hb1.chg hW id).cell 0, (hb1.chg hW id).cell 1, (hb1.chg hW id).cell 2, (hb1.chg hW id).cell 3, (hb1.chg hW id).cell 4⟩)
  have HA := hide (fun W (hW : Chg (fun _ => False) (w.alloc (.cells #[.string i.name, .slice A1 i.opens.length a1, .slice A2 i.datas.length a2, .slice A3 i.fixes.length a3, .slice A4 i.sigs.length a4] 27)) W) => awake_any W (lay.chg (h0.trans' hW) (fun _ _ => id)))
  have HW := hide (fun W (hW : Chg (fun _ => False) (w.alloc (.cells #[.string i.name, .slice A1 i.opens.length a1, .slice A2 i.datas.length a2, .slice A3 i.fixes.length a3, .slice A4 i.sigs.length a4] 27)) W) => few_if i _ _ _ _ T W (h1.chg (h0.trans' hW) (fun _ _ _ => id)))
  have HRI := hide (fun W (hW : Chg (fun _ => False) (w.alloc (.cells #[.string i.name, .slice A1 i.opens.length a1, .slice A2 i.datas.length a2, .slice A3 i.fixes.length a3, .slice A4 i.sigs.length a4] 27)) W) => h1.chg (h0.trans' hW) (fun _ _ _ => id))
  have HD := hide (Chg.refl (fun _ => False) (w.alloc (.cells #[.string i.name, .slice A1 i.opens.length a1, .slice A2 i.datas.length a2, .slice A3 i.fixes.length a3, .slice A4 i.sigs.length a4] 27)))
  (obtain ⟨q0, q1, q2, q3, q4⟩ := unhide KSW _ (unhide HD))
  have H0 := hide h0
  by_cases hn1 : 100 < nm.size
  · have hn1' : (100 : Int) < (nm.size : Int) := by omega
    clear h1 lay h0 hb1 HRI
    go_enter Tryz.func8, Tryz.ntmps8
    go_wp2_with (first
      | (go_at_call 9; (with_reducible refine (unhide HA _ (unhide HD)).mono ?_); rintro e w2 ⟨rfl, hc2⟩; have HN_ := hide ((unhide HD).trans' hc2); clear HD; have HD := HN_; clear HN_ hc2; clear q0 q1 q2 q3 q4; (obtain ⟨q0, q1, q2, q3, q4⟩ := unhide KSW _ (unhide HD)))
      | (go_at_call 10; (with_reducible refine (unhide HW _ (unhide HD)).mono ?_); rintro e w3 ⟨rb, rfl, hb, hc2⟩; cases rb; all_goals ((first | (have HB := hide (hb rfl); clear hb) | clear hb); have HN_ := hide ((unhide HD).trans' hc2); clear HD; have HD := HN_; clear HN_ hc2; clear q0 q1 q2 q3 q4; (obtain ⟨q0, q1, q2, q3, q4⟩ := unhide KSW _ (unhide HD)))))
    all_goals (go_ret; exact ⟨rfl, (unhide H0).trans' (unhide HD)⟩)
  have hn1' : ¬ (100 : Int) < (nm.size : Int) := by omega
  cases hb : ifcB ltS i
  · have HEN := hide (fun (hf : IfF i) W (hW : Chg (fun _ => False) (w.alloc (.cells #[.string i.name, .slice A1 i.opens.length a1, .slice A2 i.datas.length a2, .slice A3 i.fixes.length a3, .slice A4 i.sigs.length a4] 27)) W) => show Calls Tryz.prog 11 #[.agg #[.string i.name, .slice A1 i.opens.length a1, .slice A2 i.datas.length a2, .slice A3 i.fixes.length a3, .slice A4 i.sigs.length a4]] W fun e w' => e = .returned (.tuple #[.string ⟨#[]⟩, .int .i64 230]) ∧ Chg (fun _ => False) W w' from by
      have hr := unhide HRI _ hW
      have := encode_any i _ _ _ _ _ W hr (hf.sz hr) (lay.chg (h0.trans' hW) (fun _ _ => id))
      unfold encS ifE at this
      rw [hb] at this
      exact this)
    have HDG := hide (fun (hf : IfF i) W (hW : Chg (fun _ => False) (w.alloc (.cells #[.string i.name, .slice A1 i.opens.length a1, .slice A2 i.datas.length a2, .slice A3 i.fixes.length a3, .slice A4 i.sigs.length a4] 27)) W) => show Calls Tryz.prog 12 #[.agg #[.string i.name, .slice A1 i.opens.length a1, .slice A2 i.datas.length a2, .slice A3 i.fixes.length a3, .slice A4 i.sigs.length a4]] W fun e w' => e = .returned (.tuple #[.int .u32 0, .int .i64 230]) ∧ Chg (fun _ => False) W w' from by
      have hr := unhide HRI _ hW
      have := digest_any i _ _ _ _ _ W hr (hf.sz hr) (lay.chg (h0.trans' hW) (fun _ _ => id))
      unfold digI ifE at this
      rw [hb] at this
      exact this)
    clear h1 lay h0 hb1 hb HRI
    go_enter Tryz.func8, Tryz.ntmps8
    go_wp2_with (first
      | (go_at_call 9; (with_reducible refine (unhide HA _ (unhide HD)).mono ?_); rintro e w2 ⟨rfl, hc2⟩; have HN_ := hide ((unhide HD).trans' hc2); clear HD; have HD := HN_; clear HN_ hc2; clear q0 q1 q2 q3 q4; (obtain ⟨q0, q1, q2, q3, q4⟩ := unhide KSW _ (unhide HD)))
      | (go_at_call 10; (with_reducible refine (unhide HW _ (unhide HD)).mono ?_); rintro e w3 ⟨rb, rfl, hb, hc2⟩; cases rb; all_goals ((first | (have HB := hide (hb rfl); clear hb) | clear hb); have HN_ := hide ((unhide HD).trans' hc2); clear HD; have HD := HN_; clear HN_ hc2; clear q0 q1 q2 q3 q4; (obtain ⟨q0, q1, q2, q3, q4⟩ := unhide KSW _ (unhide HD))))
      | (go_at_call 11; (with_reducible refine (unhide HEN (unhide HB) _ (unhide HD)).mono ?_); rintro e w4 ⟨rfl, hc2⟩; have HN_ := hide ((unhide HD).trans' hc2); clear HD; have HD := HN_; clear HN_ hc2; clear q0 q1 q2 q3 q4; (obtain ⟨q0, q1, q2, q3, q4⟩ := unhide KSW _ (unhide HD)))
      | (go_at_call 12; (with_reducible refine (unhide HDG (unhide HB) _ (unhide HD)).mono ?_); rintro e w5 ⟨rfl, hc2⟩; have HN_ := hide ((unhide HD).trans' hc2); clear HD; have HD := HN_; clear HN_ hc2; clear q0 q1 q2 q3 q4; (obtain ⟨q0, q1, q2, q3, q4⟩ := unhide KSW _ (unhide HD))))
    all_goals (go_ret; exact ⟨rfl, (unhide H0).trans' (unhide HD)⟩)
  · have HEN := hide (fun (hf : IfF i) W (hW : Chg (fun _ => False) (w.alloc (.cells #[.string i.name, .slice A1 i.opens.length a1, .slice A2 i.datas.length a2, .slice A3 i.fixes.length a3, .slice A4 i.sigs.length a4] 27)) W) => show Calls Tryz.prog 11 #[.agg #[.string i.name, .slice A1 i.opens.length a1, .slice A2 i.datas.length a2, .slice A3 i.fixes.length a3, .slice A4 i.sigs.length a4]] W fun e w' => e = .returned (.tuple #[.string ⟨(encP i).toArray⟩, .int .i64 0]) ∧ Chg (fun _ => False) W w' from by
      have hr := unhide HRI _ hW
      have := encode_any i _ _ _ _ _ W hr (hf.sz hr) (lay.chg (h0.trans' hW) (fun _ _ => id))
      unfold encS ifE at this
      rw [hb] at this
      exact this)
    have HDG := hide (fun (hf : IfF i) W (hW : Chg (fun _ => False) (w.alloc (.cells #[.string i.name, .slice A1 i.opens.length a1, .slice A2 i.datas.length a2, .slice A3 i.fixes.length a3, .slice A4 i.sigs.length a4] 27)) W) => show Calls Tryz.prog 12 #[.agg #[.string i.name, .slice A1 i.opens.length a1, .slice A2 i.datas.length a2, .slice A3 i.fixes.length a3, .slice A4 i.sigs.length a4]] W fun e w' => e = .returned (.tuple #[.int .u32 (sumB (allP i) : Int), .int .i64 0]) ∧ Chg (fun _ => False) W w' from by
      have hr := unhide HRI _ hW
      have := digest_any i _ _ _ _ _ W hr (hf.sz hr) (lay.chg (h0.trans' hW) (fun _ _ => id))
      unfold digI ifE at this
      rw [hb] at this
      exact this)
    have HDJ := hide (fun (hf : IfF i) W (hW : Chg (fun _ => False) (w.alloc (.cells #[.string i.name, .slice A1 i.opens.length a1, .slice A2 i.datas.length a2, .slice A3 i.fixes.length a3, .slice A4 i.sigs.length a4] 27)) W) => show Calls Tryz.prog 12 #[.agg #[.string nm, .slice A1 i.opens.length a1, .slice A2 i.datas.length a2, .slice A3 i.fixes.length a3, .slice A4 i.sigs.length a4]] W fun e w' => e = .returned (.tuple #[.int .u32 (digI ⟨nm, i.opens, i.datas, i.fixes, i.sigs⟩ : Int), .int .i64 (ifE ⟨nm, i.opens, i.datas, i.fixes, i.sigs⟩)]) ∧ Chg (fun _ => False) W w' from by
      have hr := unhide HRI _ hW
      have hr2 : RdIf T W ⟨nm, i.opens, i.datas, i.fixes, i.sigs⟩ _ _ _ _ := ⟨hnm, hr.opens, hr.datas, hr.fixes, hr.sigs, hr.fcap, hr.scap⟩
      have hf2 : IfF ⟨nm, i.opens, i.datas, i.fixes, i.sigs⟩ := ⟨by show nm.size ≤ 100; omega, hf.opens, hf.fixes, hf.sigs, hf.datas⟩
      exact digest_any _ _ _ _ _ _ W hr2 (hf2.sz hr2) (lay.chg (h0.trans' hW) (fun _ _ => id)))
    have HLN := hide (fun (hf : IfF i) => show (allP i).length ≤ 700000000 ∧ i.name.size ≤ 100 from ⟨hf.len7, hf.name⟩)
    obtain ⟨G, H, hG, hH, hfin⟩ : ∃ (G : Nat) (H : Int), digI ⟨nm, i.opens, i.datas, i.fixes, i.sigs⟩ = G ∧ ifE ⟨nm, i.opens, i.datas, i.fixes, i.sigs⟩ = H ∧ (H = 0 → nm.size = i.name.size → dif nm.data.toList i.name.data.toList = 1 → G ≠ sumB (allP i)) := by
      refine ⟨_, _, rfl, rfl, fun h0 hs hd => ?_⟩
      have hbj : ifcB ltS ⟨nm, i.opens, i.datas, i.fixes, i.sigs⟩ = true := by
        unfold ifE at h0
        split at h0
        · assumption
        · cases h0
      unfold digI
      rw [if_pos hbj]
      exact dig_turned hs hd
    rw [hG, hH] at HDJ
    have HFIN := hide hfin
    clear h1 lay h0 hb1 hb HRI hG hH hfin
    go_enter Tryz.func8, Tryz.ntmps8
    go_wp2_with (first
      | (go_at_call 9; (with_reducible refine (unhide HA _ (unhide HD)).mono ?_); rintro e w2 ⟨rfl, hc2⟩; have HN_ := hide ((unhide HD).trans' hc2); clear HD; have HD := HN_; clear HN_ hc2; clear q0 q1 q2 q3 q4; (obtain ⟨q0, q1, q2, q3, q4⟩ := unhide KSW _ (unhide HD)))
      | (go_at_call 10; (with_reducible refine (unhide HW _ (unhide HD)).mono ?_); rintro e w3 ⟨rb, rfl, hb, hc2⟩; cases rb; all_goals ((first | (have HB := hide (hb rfl); clear hb) | clear hb); have HN_ := hide ((unhide HD).trans' hc2); clear HD; have HD := HN_; clear HN_ hc2; clear q0 q1 q2 q3 q4; (obtain ⟨q0, q1, q2, q3, q4⟩ := unhide KSW _ (unhide HD))))
      | (go_at_call 11; (with_reducible refine (unhide HEN (unhide HB) _ (unhide HD)).mono ?_); rintro e w4 ⟨rfl, hc2⟩; have HN_ := hide ((unhide HD).trans' hc2); clear HD; have HD := HN_; clear HN_ hc2; clear q0 q1 q2 q3 q4; (obtain ⟨q0, q1, q2, q3, q4⟩ := unhide KSW _ (unhide HD)))
      | (go_at_call 12; (with_reducible refine (unhide HDG (unhide HB) _ (unhide HD)).mono ?_); rintro e w5 ⟨rfl, hc2⟩; have HN_ := hide ((unhide HD).trans' hc2); clear HD; have HD := HN_; clear HN_ hc2; clear q0 q1 q2 q3 q4; (obtain ⟨q0, q1, q2, q3, q4⟩ := unhide KSW _ (unhide HD))))
    · go_ret
      exact ⟨rfl, (unhide H0).trans' (unhide HD)⟩
    obtain ⟨hlen7, hin⟩ := unhide HLN (unhide HB)
    have HDJ2 := hide (unhide HDJ (unhide HB))
    clear HDJ HLN HB HEN HDG HW HA
    have HSL := hide (sumB_lt (allP i))
    have HEL := hide (enc_len i)
    have HT := hide (fun k hk => tail_get i k hk)
    have HTL := hide (fun k => tail_le i k)
    have HT0 := hide (tail_val i)
    have HT4 := hide (tail_none i)
    have hsz : ((encP i).length : Int) = ((allP i).length : Int) + 4 := by have := unhide HEL; omega
    generalize hSU : sumB (allP i) = S at *
    generalize (allP i).length = L at *
    clear hSU
    rename_i wz hz_
    go_loopw [9, 10] (fun n k wr => ∃ j : Nat, k = .int .i64 (j : Int) ∧ j ≤ 4 ∧ n = .int .i64 (valB ((low 4 S).drop j) : Int) ∧ wr = w5) (fun _ k _ => (intOf k).toNat)
    case atStart => exact ⟨4, rfl, by omega, by rw [unhide HT4]; rfl, rfl⟩
    case round =>
      obtain ⟨j, rfl, hj, rfl, rfl⟩ := hrel
      by_cases hj0 : j = 0
      · subst hj0
        obtain ⟨wo, rfl⟩ : ∃ wo : World, wo = wr := ⟨_, rfl⟩
        rw [unhide HT0]
        go_wp2_with (go_at_call 12; (with_reducible refine (unhide HDJ2 _ ((unhide HD).alloc _)).mono ?_); rintro e w6 ⟨rfl, hc2⟩; have HC6 := hide (((unhide HD).alloc _).trans' hc2); clear hc2)
        have hS := unhide HSL
        have hS2 : (S : Int) < 4294967296 := by omega
        go_loopw [14, 15] (fun n k wr2 => ∃ m : Nat, k = .int .i64 (m : Int) ∧ m ≤ nm.size ∧ m ≤ i.name.size ∧ n = .int .i64 ((dif (nm.data.toList.take m) (i.name.data.toList.take m) : Nat) : Int) ∧ Chg (fun _ => False) (w.alloc (.cells #[.string i.name, .slice A1 i.opens.length a1, .slice A2 i.datas.length a2, .slice A3 i.fixes.length a3, .slice A4 i.sigs.length a4] 27)) wr2) (fun _ k _ => nm.size - (intOf k).toNat)
        case atStart => exact ⟨0, rfl, Nat.zero_le _, Nat.zero_le _, rfl, unhide HC6⟩
        case round =>
          clear HC6 q0 q1 q2 q3 q4
          obtain ⟨wq, rfl⟩ : ∃ wq : World, wq = wr := ⟨_, rfl⟩
          obtain ⟨m, rfl, hm1, hm2, rfl, hch⟩ := hrel
          (obtain ⟨q0, q1, q2, q3, q4⟩ := unhide KSW _ hch)
          by_cases hl : m < nm.size ∧ m < i.name.size
          · obtain ⟨hl1, hl2⟩ := hl
            have hi1 : (m : Int) < (nm.size : Int) := by omega
            have hi2 : (m : Int) < (i.name.size : Int) := by omega
            have hb1 : nm.data.toList[m]? = some nm[m] := by rw [List.getElem?_eq_getElem (by exact hl1)]; rfl
            have hb2 : i.name.data.toList[m]? = some i.name[m] := by rw [List.getElem?_eq_getElem (by exact hl2)]; rfl
            have HDS := hide (dif_step hb1 hb2)
            have HCH := hide hch
            have hdl : dif (nm.data.toList.take m) (i.name.data.toList.take m) ≤ 100 := by
              have := dif_le (nm.data.toList.take m) (i.name.data.toList.take m)
              rw [List.length_take] at this
              omega
            generalize dif (nm.data.toList.take m) (i.name.data.toList.take m) = DD at *
            clear hch hb1 hb2
            by_cases heq : nm[m] = i.name[m]
            · have heb : (((nm[m]).toNat : Int) != ((i.name[m]).toNat : Int)) = false := by rw [heq]; simp
              have heb2 : (((nm[m]).toNat : Int) == ((i.name[m]).toNat : Int)) = true := by rw [heq]; simp
              have HEQ := hide heq
              clear heq
              go_wp2_with fail
              go_quiet (fail)
              go_wp2_with fail
              go_roundw
              case rel => exact ⟨m + 1, by go_num, by omega, by omega, by rw [unhide HDS, if_pos (unhide HEQ)]; rfl, (unhide HCH).drewN _⟩
              case measure => simp [intOf]; omega
            · have hne : ¬ ((nm[m]).toNat : Int) = ((i.name[m]).toNat : Int) := fun e => heq (UInt8.toNat_inj.1 (by omega))
              have heb : (((nm[m]).toNat : Int) != ((i.name[m]).toNat : Int)) = true := by rw [bne_iff_ne]; exact hne
              have heb2 : (((nm[m]).toNat : Int) == ((i.name[m]).toNat : Int)) = false := by rw [beq_eq_false_iff_ne]; exact hne
              have HEQ := hide heq
              clear heq hne
              go_wp2_with fail
              go_quiet (fail)
              go_wp2_with fail
              go_roundw
              case rel => exact ⟨m + 1, by go_num, by omega, by omega, by rw [unhide HDS, if_neg (unhide HEQ)]; go_num, (unhide HCH).drewN _⟩
              case measure => simp [intOf]; omega
          · have HF2 := hide (show ¬ (H = 0 ∧ nm.size = i.name.size ∧ dif (nm.data.toList.take m) (i.name.data.toList.take m) = 1 ∧ G = S) from by
              rintro ⟨x1, x2, x3, x4⟩
              have hm : m = nm.size := by omega
              have hz1 : nm.data.toList.take m = nm.data.toList := List.take_of_length_le (by rw [hm]; exact Nat.le_refl _)
              have hz2 : i.name.data.toList.take m = i.name.data.toList := List.take_of_length_le (by rw [hm, x2]; exact Nat.le_refl _)
              rw [hz1, hz2] at x3
              exact unhide HFIN x1 x2 x3 x4)
            have HCH := hide hch
            generalize dif (nm.data.toList.take m) (i.name.data.toList.take m) = DD at *
            clear hch
            have hl2 : ¬ (m : Int) < (nm.size : Int) ∨ ((m : Int) < (nm.size : Int) ∧ ¬ (m : Int) < (i.name.size : Int)) := by omega
            by_cases hh : H = 0
            rotate_left
            · have y1 := bne_t hh
              clear hl hh HF2
              rcases hl2 with hl2 | ⟨hl2, hl3⟩
              all_goals
                go_wp2_with fail
                go_ret
                exact ⟨rfl, (unhide H0).trans' (unhide HCH)⟩
            have y1 := bne_f hh
            by_cases hd : DD = 1
            rotate_left
            · have y2 := bne_t (a := (DD : Int)) (b := 1) (by omega)
              clear hl hh hd HF2
              rcases hl2 with hl2 | ⟨hl2, hl3⟩
              all_goals
                go_wp2_with fail
                go_ret
                exact ⟨rfl, (unhide H0).trans' (unhide HCH)⟩
            have y2 := bne_f (a := (DD : Int)) (b := 1) (by omega)
            by_cases hs : nm.size = i.name.size
            rotate_left
            · have y3 := bne_t (a := (nm.size : Int)) (b := (i.name.size : Int)) (by omega)
              clear hl hh hd hs HF2
              rcases hl2 with hl2 | ⟨hl2, hl3⟩
              all_goals
                go_wp2_with fail
                go_ret
                exact ⟨rfl, (unhide H0).trans' (unhide HCH)⟩
            have y3 := bne_f (a := (nm.size : Int)) (b := (i.name.size : Int)) (by omega)
            have hg : G ≠ S := fun e => unhide HF2 ⟨hh, hs, hd, e⟩
            have y4 := bne_t (a := (G : Int)) (b := (S : Int)) (by omega)
            clear hl hh hd hs hg HF2
            rcases hl2 with hl2 | ⟨hl2, hl3⟩
            all_goals
              go_wp2_with fail
              go_ret
              exact ⟨rfl, (unhide H0).trans' (unhide HCH)⟩
      · obtain ⟨m, rfl⟩ : ∃ m, j = m + 1 := ⟨j - 1, by omega⟩
        have hjp : (0 : Int) < ((m + 1 : Nat) : Int) := by omega
        go_wp2_with fail
        go_roundw
        case rel =>
          refine ⟨m, rfl, by omega, ?_, by first | rfl | trivial⟩
          exact tail_step (unhide HT m (by omega)) (unhide HTL m) (unhide HTL (m + 1)) (by omega) _
        case measure => simp [intOf]
end Go.Proofs.YtinekmjengckdaaGreatDoor
