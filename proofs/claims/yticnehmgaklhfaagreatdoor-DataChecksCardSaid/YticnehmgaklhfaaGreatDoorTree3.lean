/-
  Layer 2, the program's side: where a node's kids begin.
-/
import Derived.Test.YticnehmgaklhfaaGreatDoorTr
namespace Go.Proofs.YticnehmgaklhfaaGreatDoor
open Go.RowKit
set_option maxHeartbeats 4000000
set_option maxRecDepth 100000
theorem info3 : (Tryz.prog.info? 3).map (fun i => (i.zero, i.size, i.bytes)) = some (some (.int .i64 0), 1, 8) := by kernel_rfl
/-- Where so many trees begin, one behind another, from behind a place on. -/
def kidsL (l : List Nd) (p n : Nat) : List Int := (List.range n).map fun j => ((p + 1 + (eat (l.drop (p + 1)) j).getD 0 : Nat) : Int)
theorem kidsL_len (l : List Nd) (p n : Nat) : (kidsL l p n).length = n := by unfold kidsL; rw [List.length_map, List.length_range]
theorem kidsL_succ {l : List Nd} {p j b : Nat} (h : eat (l.drop (p + 1)) j = some b) : kidsL l p (j + 1) = kidsL l p j ++ [((p + 1 + b : Nat) : Int)] := by
  unfold kidsL
  rw [List.range_succ, List.map_append, List.map_singleton, h]
  rfl
theorem eat_pre {l : List Nd} {K a : Nat} (h : eat l K = some a) (j : Nat) (hj : j ≤ K) : ∃ b, eat l j = some b := by
  rw [show K = j + (K - j) by omega, eat_add] at h
  cases e : eat l j with
  | none => rw [e] at h; cases h
  | some b => exact ⟨b, rfl⟩
theorem eat_next {l : List Nd} {K a : Nat} (h : eat l K = some a) {j b : Nat} (hj : j < K) (hb : eat l j = some b) : ∃ d, eat (l.drop b) 1 = some d ∧ 0 < d ∧ eat l (j + 1) = some (b + d) := by
  obtain ⟨b2, h2⟩ := eat_pre h (j + 1) (by omega)
  have h3 := h2
  rw [eat_add, hb, Option.bind_some, Option.map_eq_some_iff] at h3
  obtain ⟨d, hd, e⟩ := h3
  exact ⟨d, hd, by have := eat_le hd; omega, by rw [h2, e]⟩
theorem kids_any (l : List Nd) (v : Value) (p : Nat) (T : Nat → Prop) (w : World) (hr : RdN T w v l) (hl : l.length ≤ 4000) (n : Nd) (hn : l[p]? = some n) (hk0 : 0 ≤ n.kids) (a : Nat) (he : eat (l.drop (p + 1)) n.kids.toNat = some a) :
    Calls Tryz.prog 46 #[v, .int .i64 (p : Int)] w fun e w' => ∃ A c, e = .returned (.slice A n.kids.toNat c) ∧ Rd (fun k => w.heap.size ≤ k) w' A ((kidsL l p n.kids.toNat).map intl) ∧ Chg (fun _ => False) w w' := by
  have hp : p < l.length := (List.getElem?_eq_some_iff.1 hn).1
  have hEnd : endV l p = ((p + 1 + a : Nat) : Int) := by
    have := eat_step hn (k := 1) (by omega)
    rw [if_neg (by omega), show 1 - 1 + n.kids.toNat = n.kids.toNat by omega, he] at this
    unfold endV endAt
    rw [this]
    rfl
  have HEND := hide (fun W (hW : Chg (fun _ => False) w W) => end_any l v p T W (hr.chg hW (fun _ _ _ => id)) hl (by omega))
  rw [hEnd] at HEND
  have HE2 := hide (fun W (hW : Chg (fun _ => False) w W) (q : Nat) (hq : q ≤ l.length) => end_any l v q T W (hr.chg hW (fun _ _ _ => id)) hl hq)
  obtain ⟨b, o, c, rfl, hTb, _, _, _, _, c3⟩ := hr.at_ hn
  obtain ⟨K, hK⟩ : ∃ K : Nat, n.kids = (K : Int) := ⟨n.kids.toNat, by omega⟩
  rw [hK] at c3 he ⊢
  have hKn : ((K : Nat) : Int).toNat = K := by omega
  rw [hKn] at he ⊢
  have hal := eat_le he
  rw [List.length_drop] at hal
  obtain ⟨i3, hi3, hz3, hs3, hb3⟩ := info_parts info3
  have HA := hide he
  have hb3w : b < w.heap.size := hat_lt c3
  have HK3 := hide (fun W (hW : Chg (fun _ => False) w W) => (hW.cell (p := ⟨b, o + p * 4 + 3, none⟩) hb3w id).trans c3)
  have hneg : ¬ ((p + 1 + a : Nat) : Int) < 0 := by omega
  clear hr hEnd he hK hk0 hn c3
  go_enter Tryz.func46, Tryz.ntmps46
  go_wp2_with (go_at_call 68; refine ((unhide HEND) _ (Chg.refl _ _)).mono ?_; rintro e w2 ⟨rfl, hc2⟩; have HC2 := hide hc2; have k3 := (unhide HK3) _ hc2; clear hc2)
  go_loopw [1, 5] (fun at_ out wr => ∃ (j q : Nat), at_ = .int .i64 ((p + 1 + q : Nat) : Int) ∧ j ≤ K ∧ eat (l.drop (p + 1)) j = some q ∧ wr.ownsRow w.heap.size 3 1 out j ((kidsL l p j).map intl) ∧ Chg (fun _ => False) w wr) (fun at_ _ _ => l.length + 1 - (intOf at_).toNat)
  case atStart => exact ⟨0, 0, by first | rfl | go_num, Nat.zero_le _, eat_zero _, World.ownsRow_nil _ _ _ _, unhide HC2⟩
  case round =>
    obtain ⟨wq, rfl⟩ : ∃ wq : World, wq = wr := ⟨_, rfl⟩
    obtain ⟨j, q, rfl, hj, hq, hown, hch⟩ := hrel
    obtain ⟨A, c5, rfl⟩ := own_val hown
    have HOWN := hide hown
    have HCH := hide hch
    have hql := eat_le hq
    rw [List.length_drop] at hql
    by_cases hlt : j < K
    · have hji : (j : Int) < (K : Int) := by omega
      obtain ⟨d, hd, hd0, hnx⟩ := eat_next (unhide HA) hlt hq
      have hdl := eat_le hnx
      rw [List.length_drop] at hdl
      have hev : endV l (p + 1 + q) = ((p + 1 + (q + d) : Nat) : Int) := by
        unfold endV endAt
        rw [show l.drop (p + 1 + q) = (l.drop (p + 1)).drop q by rw [List.drop_drop], hd]
        show ((p + 1 + q + d : Nat) : Int) = _
        omega
      have HN := hide (fun W (hW : Chg (fun _ => False) w W) => (unhide HE2) W hW (p + 1 + q) (by omega))
      rw [hev] at HN
      have HNX := hide hnx
      have HKS := hide (kidsL_succ hq)
      have hm1 : j + 1 ≤ maxLen := by simp only [maxLen]; omega
      have hm2 : (j + 1) * 8 ≤ 140737488355328 := by omega
      have hsz := hch.size
      have hbs : w.heap.size ≤ (wq.alloc (.cells #[.int .i64 ((p + 1 + q : Nat) : Int)] 3)).heap.size := by rw [size_alloc]; omega
      have HW := hide (hown.alloc (.cells #[.int .i64 ((p + 1 + q : Nat) : Int)] 3))
      have HR := hide ((rd_new wq wq.heap.size 3 [intl ((p + 1 + q : Nat) : Int)] rfl).mono (T' := fun _ => True) (fun _ _ => trivial))
      have ho1 : ∀ u ∈ [intl ((p + 1 + q : Nat) : Int)], u.oneCell' = true := by intro u hu; simp at hu; subst hu; rfl
      have HLT := hide (fun k hk => hown.lt k hk)
      clear hown hch hq hd hnx hev
      generalize hs : p + 1 + q = s at *
      go_wp2_with (first
        | (at_builtin
           refine wpList_append_rd _ rfl (.tmp 25) (.tmp 27) 72 rfl w.heap.size 3 i3 (.int .i64 0) 1 8 Tryz.underlying72 hi3 hz3 hs3 hb3 rfl (Nat.succ_pos 0) _ j _ rfl (unhide HW) (fun _ => True) (some ⟨wq.heap.size, 0, none⟩) 1 1 [intl (s : Int)] rfl rfl (unhide HR) ho1 hm1 hm2 hbs ?_
           intro v3 w3 ho3 hc3 hat
           have HO3 := hide ho3
           have HC3 := hide ((unhide HCH).trans (((Chg.refl (fun k => (Value.slice A j c5).ownBlock = some k) wq).alloc (.cells #[.int .i64 (s : Int)] 3)).trans hc3 (fun _ _ h => h)) (fun i hi e => by have := ((unhide HLT) i e).1; omega))
           clear ho3 hc3 hat)
        | (go_at_call 68; refine ((unhide HN) _ (unhide HC3)).mono ?_; rintro e w4 ⟨rfl, hc4⟩; have HC4 := hide hc4; clear hc4))
      go_roundw
      case rel =>
        refine ⟨j + 1, q + d, rfl, by omega, unhide HNX, ?_, (unhide HC3).trans' (unhide HC4)⟩
        rw [unhide HKS, List.map_append]
        exact own_chg (unhide HO3) (unhide HC4) (fun _ _ h => h)
      case measure => simp [intOf]; omega
    · obtain rfl : j = K := by omega
      have hji : ¬ (j : Int) < (j : Int) := by omega
      clear hown hch hq
      go_wp2_with fail
      go_ret
      exact ⟨A, ⟨c5, rfl⟩, (own_rd (unhide HOWN) (by omega)).mono (fun k hk => ((unhide HOWN).lt k hk).1), unhide HCH⟩
end Go.Proofs.YticnehmgaklhfaaGreatDoor
