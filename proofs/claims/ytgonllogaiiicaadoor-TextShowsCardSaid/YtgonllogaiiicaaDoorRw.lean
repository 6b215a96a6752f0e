/-
  Layer 17, the document's side: words of a line.
-/
import Derived.Test.YtgonllogaiiicaaDoorRln
namespace Go.Proofs.YtgonllogaiiicaaDoor
open Go.RowKit
set_option maxHeartbeats 2000000
set_option maxRecDepth 100000
def wv (p : Bs × Nat) : List Value := [bv p.1, .int .i64 (p.2 : Int)]
theorem infoWd : (Tryd.prog.info? 80).map (fun i => (i.zero, i.size, i.bytes)) = some (some (.agg #[.string ⟨#[]⟩, .int .i64 0]), 2, 24) := by kernel_rfl
theorem wv_one (p : Bs × Nat) : ∀ u ∈ wv p, u.oneCell' = true := by intro u hu; simp [wv] at hu; rcases hu with rfl | rfl <;> rfl
theorem drop_at (s : ByteArray) (k : Nat) (h : k < s.size) : s.data.toList.drop k = s[k] :: s.data.toList.drop (k + 1) := by
  have e := byte_at s k h
  obtain ⟨h1, h2⟩ := List.getElem?_eq_some_iff.1 e
  rw [List.drop_eq_getElem_cons h1, h2]
theorem refWords_any (s : ByteArray) (w : World) (hs : s.size ≤ 100000000) : Calls Tryd.prog 42 #[.string s] w fun e w' => ∃ A c, e = .returned (.slice A (wordsL s.data.toList).length c) ∧ Rd (fun k => w.heap.size ≤ k) w' A ((wordsL s.data.toList).flatMap wv) ∧ Chg (fun _ => False) w w' := by
  obtain ⟨q_i, q_hi, q_hz, q_hs, q_hb⟩ := info_parts infoWd
  have HO0 := hide (own_start (base := w.heap.size) (size := 2) (Blk.new w 80 #[]) (Nat.le_refl _))
  have HC0 := hide ((Chg.refl (fun _ => False) w).alloc (.cells #[] 80))
  have hsl : s.data.toList.length = s.size := rfl
  have HSL := hide hsl
  have HW0 := hide (show ([] : List (Bs × Nat)) ++ wordsG (s.data.toList.drop 0) [] 0 0 = wordsL s.data.toList from rfl)
  clear hsl
  generalize wordsL s.data.toList = WW at *
  go_enter Tryd.func42, Tryd.ntmps42
  go_wp2_with fail
  go_loopw [3, 4, 5, 6] (fun out now at_ i wr => ∃ (k : Nat) (L : List (Bs × Nat)) (b : Bs) (p : Nat), i = .int .i64 (k : Int) ∧ k ≤ s.size ∧ L.length ≤ k ∧ b.length ≤ k ∧ wr.ownsRow w.heap.size 80 2 out L.length (L.flatMap wv) ∧ now = .string ⟨b.toArray⟩ ∧ at_ = .int .i64 (p : Int) ∧ L ++ wordsG (s.data.toList.drop k) b p k = WW ∧ Chg (fun _ => False) w wr) (fun _ _ _ i _ => s.size + 1 - (intOf i).toNat)
  case atStart => exact ⟨0, [], [], 0, rfl, Nat.zero_le _, Nat.le_refl _, Nat.le_refl _, unhide HO0, rfl, rfl, unhide HW0, unhide HC0⟩
  case round =>
    clear HO0 HC0 HW0
    obtain ⟨wq, rfl⟩ : ∃ wq : World, wq = wr := ⟨_, rfl⟩
    obtain ⟨k, L, b, p, rfl, hk, hL, hb, hown, rfl, rfl, hW, hch⟩ := hrel
    obtain ⟨B, c5, rfl⟩ := own_val hown
    have hkk : (k : Int) ≤ (s.size : Int) := by omega
    have HO4 := hide hown
    have HCH := hide hch
    have hm1 : L.length + 1 ≤ maxLen := by simp only [maxLen]; omega
    have hm2 : (L.length + 1) * 24 ≤ 140737488355328 := by omega
    have HRN := hide (fun W : World => (rd_new W W.heap.size 80 (wv (b, p)) rfl).mono (T' := fun _ => True) (fun _ _ => trivial))
    have hb4 : w.heap.size ≤ (wq.alloc (.cells #[bv b, .int .i64 (p : Int)] 80)).heap.size := (hch.alloc (.cells #[bv b, .int .i64 (p : Int)] 80)).size
    have HON := hide (wv_one (b, p))
    clear hown hch
    by_cases hlt : k < s.size
    · have hd := drop_at s k hlt
      obtain ⟨v, hv⟩ : ∃ v, s[k] = v := ⟨_, rfl⟩
      rw [hv] at hd
      rw [hd] at hW
      have hkz : ((k : Int) == (s.size : Int)) = false := beq_eq_false_iff_ne.2 (by omega)
      by_cases h59 : v = 59
      · have hv1 : ((s[k]).toNat : Int) = 59 := by rw [hv, h59]; rfl
        have HE := hide (show L ++ (if b = [] then [] else [(b, p)]) = WW by rw [← hW, wordsG, if_pos h59])
        clear hW hd hv h59
        cases b with
        | nil =>
          go_wp2_with fail
          go_ret
          have hO := unhide HO4
          have hl : WW = L := by rw [← unhide HE]; simp
          rw [hl]
          exact ⟨B, ⟨c5, rfl⟩, (own_rd hO (by omega)).mono (fun k hk => (hO.lt k hk).1), unhide HCH⟩
        | cons x0 b0 =>
          have hbe : List.isEmpty (x0 :: b0) = false := rfl
          have hbn : x0 :: b0 ≠ [] := by simp
          generalize x0 :: b0 = b at *
          have HBN := hide hbn
          clear hbn
          go_wp2_with (first
            | (at_builtin; (refine wpList_append_rd _ rfl (.tmp 34) (.tmp 38) 77 rfl w.heap.size 80 q_i (.agg #[.string ⟨#[]⟩, .int .i64 0]) 2 24 Tryd.underlying77 q_hi q_hz q_hs q_hb rfl (by decide) _ L.length _ rfl ((unhide HO4).alloc _) (fun _ => True) (some ⟨wq.heap.size, 0, none⟩) 1 1 (wv (b, p)) rfl rfl ((unhide HRN) wq) (unhide HON) hm1 hm2 hb4 ?_); intro v5 w5 ho_ hc_ hat_; (have HO5 := hide ho_); (have HC5 := hide ((unhide HCH).trans (((Chg.refl (fun k => (Value.slice B L.length c5).ownBlock = some k) wq).alloc (.cells #[bv b, .int .i64 (p : Int)] 80)).trans hc_ (fun _ _ h => h)) (fun i hi e => by have := ((unhide HO4).lt i e).1; omega))); clear ho_ hc_ hat_))
          go_ret
          have hO := unhide HO5
          obtain ⟨A, c, rfl⟩ := own_val hO
          have hl : WW = L ++ [(b, p)] := by rw [← unhide HE, if_neg (unhide HBN)]
          rw [hl]
          first
          | refine ⟨A, ⟨c, by rw [List.length_append]; rfl⟩, ?_, unhide HC5⟩
          | refine ⟨A, c, by rw [List.length_append]; rfl, ?_, unhide HC5⟩
          have := (own_rd hO (by omega)).mono (T' := fun k => w.heap.size ≤ k) (fun k hk => (hO.lt k hk).1)
          rw [List.flatMap_append, List.flatMap_singleton]
          exact this
      · have hv1 : ¬ ((s[k]).toNat : Int) = 59 := by
          rw [hv]; intro e
          exact h59 (UInt8.toNat_inj.1 (by show v.toNat = 59; omega))
        have hb59 : (((s[k]).toNat : Int) == 59) = false := beq_eq_false_iff_ne.2 hv1
        by_cases h32 : v = 32
        · have hv2 : ((s[k]).toNat : Int) = 32 := by rw [hv, h32]; rfl
          cases b with
          | nil =>
            have HE := hide (show L ++ wordsG (s.data.toList.drop (k + 1)) [] p (k + 1) = WW by rw [← hW, wordsG, if_neg h59, if_pos h32, if_pos rfl])
            clear hW hd hv h59 h32
            go_wp2_with fail
            go_roundw
            case rel => exact ⟨k + 1, L, [], p, by go_num, by omega, by omega, by simp, unhide HO4, rfl, rfl, unhide HE, unhide HCH⟩
            case measure => simp [intOf]; omega
          | cons x0 b0 =>
            have hbe : List.isEmpty (x0 :: b0) = false := rfl
            have hbn : x0 :: b0 ≠ [] := by simp
            generalize x0 :: b0 = b at *
            have HE := hide (show (L ++ [(b, p)]) ++ wordsG (s.data.toList.drop (k + 1)) [] p (k + 1) = WW by rw [← hW, wordsG, if_neg h59, if_pos h32, if_neg hbn]; simp)
            clear hW hd hv h59 h32 hbn
            go_wp2_with (first
              | (at_builtin; (refine wpList_append_rd _ rfl (.tmp 34) (.tmp 38) 77 rfl w.heap.size 80 q_i (.agg #[.string ⟨#[]⟩, .int .i64 0]) 2 24 Tryd.underlying77 q_hi q_hz q_hs q_hb rfl (by decide) _ L.length _ rfl ((unhide HO4).alloc _) (fun _ => True) (some ⟨wq.heap.size, 0, none⟩) 1 1 (wv (b, p)) rfl rfl ((unhide HRN) wq) (unhide HON) hm1 hm2 hb4 ?_); intro v5 w5 ho_ hc_ hat_; (have HO5 := hide ho_); (have HC5 := hide ((unhide HCH).trans (((Chg.refl (fun k => (Value.slice B L.length c5).ownBlock = some k) wq).alloc (.cells #[bv b, .int .i64 (p : Int)] 80)).trans hc_ (fun _ _ h => h)) (fun i hi e => by have := ((unhide HO4).lt i e).1; omega))); clear ho_ hc_ hat_))
            go_roundw
            case rel =>
              refine ⟨k + 1, L ++ [(b, p)], [], p, by go_num, by omega, by simp; omega, by simp, ?_, rfl, rfl, unhide HE, unhide HC5⟩
              rw [List.length_append, List.flatMap_append, List.flatMap_singleton]
              exact unhide HO5
            case measure => simp [intOf]; omega
        · have hv2 : ¬ ((s[k]).toNat : Int) = 32 := by
            rw [hv]; intro e
            exact h32 (UInt8.toNat_inj.1 (by show v.toNat = 32; omega))
          have hb32 : (((s[k]).toNat : Int) == 32) = false := beq_eq_false_iff_ne.2 hv2
          have HEX := hide (show (⟨b.toArray⟩ : ByteArray) ++ s.extract k (k + 1) = ⟨(b ++ [v]).toArray⟩ by rw [extract_one s k hlt, hv, str_cat])
          have hexs : (s.extract k (k + 1)).size = 1 := by rw [extract_one s k hlt]; rfl
          have HE := hide (show L ++ wordsG (s.data.toList.drop (k + 1)) (b ++ [v]) (if b = [] then k else p) (k + 1) = WW by rw [← hW, wordsG, if_neg h59, if_neg h32])
          clear hW hd hv h59 h32
          cases hbe : List.isEmpty b with
          | true =>
            have hb0 : b = [] := List.isEmpty_iff.1 hbe
            have HE2 := hide (show L ++ wordsG (s.data.toList.drop (k + 1)) (b ++ [v]) k (k + 1) = WW by have := unhide HE; rw [if_pos hb0] at this; exact this)
            clear HE hb0
            go_wp2_with fail
            go_roundw
            case rel => exact ⟨k + 1, L, b ++ [v], k, by go_num, by omega, by omega, by simp; omega, unhide HO4, congrArg Value.string (unhide HEX), rfl, unhide HE2, unhide HCH⟩
            case measure => simp [intOf]; omega
          | false =>
            have hb0 : b ≠ [] := fun e => by rw [e] at hbe; cases hbe
            have HE2 := hide (show L ++ wordsG (s.data.toList.drop (k + 1)) (b ++ [v]) p (k + 1) = WW by have := unhide HE; rw [if_neg hb0] at this; exact this)
            clear HE hb0
            go_wp2_with fail
            go_roundw
            case rel => exact ⟨k + 1, L, b ++ [v], p, by go_num, by omega, by omega, by simp; omega, unhide HO4, congrArg Value.string (unhide HEX), rfl, unhide HE2, unhide HCH⟩
            case measure => simp [intOf]; omega
    · obtain rfl : k = s.size := by omega
      have hd : s.data.toList.drop s.size = [] := List.drop_eq_nil_of_le (by rw [unhide HSL]; omega)
      rw [hd] at hW
      have HE := hide (show L ++ (if b = [] then [] else [(b, p)]) = WW by rw [← hW, wordsG])
      clear hW hd
      cases b with
      | nil =>
        go_wp2_with fail
        go_ret
        have hO := unhide HO4
        have hl : WW = L := by rw [← unhide HE]; simp
        rw [hl]
        exact ⟨B, ⟨c5, rfl⟩, (own_rd hO (by omega)).mono (fun k hk => (hO.lt k hk).1), unhide HCH⟩
      | cons x0 b0 =>
        have hbe : List.isEmpty (x0 :: b0) = false := rfl
        have hbn : x0 :: b0 ≠ [] := by simp
        generalize x0 :: b0 = b at *
        have HBN := hide hbn
        clear hbn
        go_wp2_with (first
          | (at_builtin; (refine wpList_append_rd _ rfl (.tmp 34) (.tmp 38) 77 rfl w.heap.size 80 q_i (.agg #[.string ⟨#[]⟩, .int .i64 0]) 2 24 Tryd.underlying77 q_hi q_hz q_hs q_hb rfl (by decide) _ L.length _ rfl ((unhide HO4).alloc _) (fun _ => True) (some ⟨wq.heap.size, 0, none⟩) 1 1 (wv (b, p)) rfl rfl ((unhide HRN) wq) (unhide HON) hm1 hm2 hb4 ?_); intro v5 w5 ho_ hc_ hat_; (have HO5 := hide ho_); (have HC5 := hide ((unhide HCH).trans (((Chg.refl (fun k => (Value.slice B L.length c5).ownBlock = some k) wq).alloc (.cells #[bv b, .int .i64 (p : Int)] 80)).trans hc_ (fun _ _ h => h)) (fun i hi e => by have := ((unhide HO4).lt i e).1; omega))); clear ho_ hc_ hat_))
        go_ret
        have hO := unhide HO5
        obtain ⟨A, c, rfl⟩ := own_val hO
        have hl : WW = L ++ [(b, p)] := by rw [← unhide HE, if_neg (unhide HBN)]
        rw [hl]
        first
        | refine ⟨A, ⟨c, by rw [List.length_append]; rfl⟩, ?_, unhide HC5⟩
        | refine ⟨A, c, by rw [List.length_append]; rfl, ?_, unhide HC5⟩
        have := (own_rd hO (by omega)).mono (T' := fun k => w.heap.size ≤ k) (fun k hk => (hO.lt k hk).1)
        rw [List.flatMap_append, List.flatMap_singleton]
        exact this
end Go.Proofs.YtgonllogaiiicaaDoor
