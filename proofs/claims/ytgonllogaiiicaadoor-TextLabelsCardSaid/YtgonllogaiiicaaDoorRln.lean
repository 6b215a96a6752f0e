/-
  Layer 17, the document's side: lines of a text: the walk.
-/
import Derived.Test.YtgonllogaiiicaaDoorRc
namespace Go.Proofs.YtgonllogaiiicaaDoor
open Go.RowKit
set_option maxHeartbeats 2000000
set_option maxRecDepth 100000
theorem own_start {w : World} {g e size : Nat} {base : Nat} (h : Blk w g e #[]) (hb : base ≤ g) : w.ownsRow base e size (.slice (some ⟨g, 0, none⟩) 0 0) 0 [] :=
  ⟨by simp, .inr ⟨g, 0, #[], rfl, hb, h, Nat.le_refl _, by simp only [maxLen]; omega, by simp, by simp⟩⟩
theorem bv_one (s : Bs) : ∀ u ∈ [bv s], u.oneCell' = true := by intro u hu; simp at hu; subst hu; rfl
theorem refLines_any (s : ByteArray) (w : World) (hs : s.size ≤ 100000000) : Calls Tryd.prog 18 #[.string s] w fun e w' => ∃ A c, e = .returned (.slice A (linesL s.data.toList).length c) ∧ Rd (fun k => w.heap.size ≤ k) w' A ((linesL s.data.toList).map bv) ∧ Chg (fun _ => False) w w' := by
  obtain ⟨i3, hi3, hz3', hs3, hb3⟩ := info_parts infoSt
  have HO0 := hide (own_start (base := w.heap.size) (size := 1) (Blk.new w 9 #[]) (Nat.le_refl _))
  have HC0 := hide ((Chg.refl (fun _ => False) w).alloc (.cells #[] 9))
  have HL := hide (lnS_lines s.data.toList)
  have hsl : s.data.toList.length = s.size := rfl
  have HSL := hide hsl
  clear hsl
  generalize linesL s.data.toList = LL at *
  go_enter Tryd.func18, Tryd.ntmps18
  go_wp2_with fail
  go_loopw [3, 4, 5] (fun out now i wr => ∃ k : Nat, i = .int .i64 (k : Int) ∧ k ≤ s.size ∧ wr.ownsRow w.heap.size 9 1 out (lnS (s.data.toList.take k)).1.length ((lnS (s.data.toList.take k)).1.map bv) ∧ now = .string ⟨(lnS (s.data.toList.take k)).2.toArray⟩ ∧ Chg (fun _ => False) w wr) (fun _ _ i _ => s.size - (intOf i).toNat)
  case atStart => exact ⟨0, rfl, Nat.zero_le _, unhide HO0, rfl, unhide HC0⟩
  case round =>
    clear HO0 HC0
    obtain ⟨wq, rfl⟩ : ∃ wq : World, wq = wr := ⟨_, rfl⟩
    obtain ⟨k, rfl, hk, hown, rfl, hch⟩ := hrel
    obtain ⟨B, c5, rfl⟩ := own_val hown
    have hlen := lnS_len (s.data.toList.take k)
    rw [List.length_take, unhide HSL] at hlen
    have hvl : (lnS (s.data.toList.take k)).1.length ≤ 100000000 := by omega
    have hvn : (lnS (s.data.toList.take k)).2.length ≤ 100000000 := by omega
    clear hlen
    by_cases hlt : k < s.size
    · have HSN := hide (lnS_snoc (s.data.toList.take k) s[k])
      have HTK := hide (take_snoc' (byte_at s k hlt))
      obtain ⟨v, hv⟩ : ∃ v, s[k] = v := ⟨_, rfl⟩
      rw [hv] at HSN HTK
      by_cases h10 : v = 10
      · have hv10 : ((s[k]).toNat : Int) = 10 := by rw [hv, h10]; rfl
        have HS2 := hide (show lnS (s.data.toList.take (k + 1)) = ((lnS (s.data.toList.take k)).1 ++ [(lnS (s.data.toList.take k)).2], []) by rw [unhide HTK, unhide HSN, if_pos h10])
        clear HSN HTK hv h10
        generalize lnS (s.data.toList.take k) = p at *
        obtain ⟨L, now⟩ := p
        simp only at hvl hvn hown
        have HO4 := hide hown
        have HCH := hide hch
        have hm1 : L.length + 1 ≤ maxLen := by simp only [maxLen]; omega
        have hm2 : (L.length + 1) * 16 ≤ 140737488355328 := by omega
        have HRN := hide (fun W : World => (rd_new W W.heap.size 9 [bv now] rfl).mono (T' := fun _ => True) (fun _ _ => trivial))
        have hb4 : w.heap.size ≤ (wq.alloc (.cells #[bv now] 9)).heap.size := (hch.alloc (.cells #[bv now] 9)).size
        clear hown hch hvl
        go_wp2_with (first
          | (at_builtin
             refine wpList_append_rd _ rfl (.tmp 17) (.tmp 19) 35 rfl w.heap.size 9 i3 (.string ⟨#[]⟩) 1 16 Tryd.underlying35 hi3 hz3' hs3 hb3 rfl (Nat.succ_pos 0) _ L.length _ rfl ((unhide HO4).alloc _) (fun _ => True) (some ⟨wq.heap.size, 0, none⟩) 1 1 [bv now] rfl rfl ((unhide HRN) wq) (bv_one now) hm1 hm2 hb4 ?_
             intro v5 w5 ho5 hc5 hat
             have HO5 := hide ho5
             have HC5 := hide ((unhide HCH).trans (((Chg.refl (fun k => (Value.slice B L.length c5).ownBlock = some k) wq).alloc (.cells #[bv now] 9)).trans hc5 (fun _ _ h => h)) (fun i hi e => by have := ((unhide HO4).lt i e).1; omega))
             clear ho5 hc5 hat))
        go_roundw
        case rel =>
          refine ⟨k + 1, by go_num, by omega, ?_, ?_, unhide HC5⟩
          · rw [unhide HS2, List.map_append, List.length_append]
            exact unhide HO5
          · rw [unhide HS2]
        case measure => simp [intOf]; omega
      · have hv10 : ¬ ((s[k]).toNat : Int) = 10 := by
          rw [hv]; intro e
          exact h10 (UInt8.toNat_inj.1 (by show v.toNat = 10; omega))
        have HS2 := hide (show lnS (s.data.toList.take (k + 1)) = ((lnS (s.data.toList.take k)).1, (lnS (s.data.toList.take k)).2 ++ [v]) by rw [unhide HTK, unhide HSN, if_neg h10])
        have HEX := hide (show (⟨(lnS (s.data.toList.take k)).2.toArray⟩ : ByteArray) ++ s.extract k (k + 1) = ⟨((lnS (s.data.toList.take k)).2 ++ [v]).toArray⟩ by rw [extract_one s k hlt, hv, str_cat])
        have hexs : (s.extract k (k + 1)).size = 1 := by rw [extract_one s k hlt]; rfl
        clear HSN HTK hv h10
        generalize lnS (s.data.toList.take k) = p at *
        obtain ⟨L, now⟩ := p
        simp only at hvl hvn hown HEX HS2
        have HO4 := hide hown
        have HCH := hide hch
        clear hown hch hvl
        go_wp2_with fail
        go_roundw
        case rel =>
          refine ⟨k + 1, by go_num, by omega, ?_, ?_, unhide HCH⟩
          · rw [unhide HS2]
            exact unhide HO4
          · rw [unhide HS2]
            exact congrArg Value.string (unhide HEX)
        case measure => simp [intOf]; omega
    · obtain rfl : k = s.size := by omega
      have hfull : s.data.toList.take s.size = s.data.toList := List.take_of_length_le (by rw [unhide HSL]; omega)
      rw [hfull] at hown hvl hvn ⊢
      clear hfull
      have HL2 := HL
      generalize lnS s.data.toList = p at *
      obtain ⟨L, now⟩ := p
      simp only at hvl hvn hown HL2
      have HO4 := hide hown
      have HCH := hide hch
      have hm1 : L.length + 1 ≤ maxLen := by simp only [maxLen]; omega
      have hm2 : (L.length + 1) * 16 ≤ 140737488355328 := by omega
      have HRN := hide (fun W : World => (rd_new W W.heap.size 9 [bv now] rfl).mono (T' := fun _ => True) (fun _ _ => trivial))
      have hb4 : w.heap.size ≤ (wq.alloc (.cells #[bv now] 9)).heap.size := (hch.alloc (.cells #[bv now] 9)).size
      clear hown hch hvl
      go_wp2_with (first
          | (at_builtin
             refine wpList_append_rd _ rfl (.tmp 28) (.tmp 30) 35 rfl w.heap.size 9 i3 (.string ⟨#[]⟩) 1 16 Tryd.underlying35 hi3 hz3' hs3 hb3 rfl (Nat.succ_pos 0) _ L.length _ rfl ((unhide HO4).alloc _) (fun _ => True) (some ⟨wq.heap.size, 0, none⟩) 1 1 [bv now] rfl rfl ((unhide HRN) wq) (bv_one now) hm1 hm2 hb4 ?_
             intro v5 w5 ho5 hc5 hat
             have HO5 := hide ho5
             have HC5 := hide ((unhide HCH).trans (((Chg.refl (fun k => (Value.slice B L.length c5).ownBlock = some k) wq).alloc (.cells #[bv now] 9)).trans hc5 (fun _ _ h => h)) (fun i hi e => by have := ((unhide HO4).lt i e).1; omega))
             clear ho5 hc5 hat))
      go_ret
      have hO := unhide HO5
      obtain ⟨A, c, rfl⟩ := own_val hO
      have hl : LL = L ++ [now] := (unhide HL2).symm
      rw [hl]
      refine ⟨A, ⟨c, by rw [List.length_append]; rfl⟩, ?_, unhide HC5⟩
      have := (own_rd hO (by omega)).mono (T' := fun k => w.heap.size ≤ k) (fun k hk => (hO.lt k hk).1)
      rw [List.map_append]
      exact this
end Go.Proofs.YtgonllogaiiicaaDoor
