/-
  Layer 17: text.words: the words of a line.
-/
import Derived.Test.YtgonllogaiiicaaDoorWf
import Derived.RangeFuncBox
import Derived.RangeFuncLeaves
import Derived.OwnWalkIn
import Derived.TacticsInMore
import Derived.LoopNIn
import Derived.LoopIn
namespace Go.Proofs.YtgonllogaiiicaaDoor
open Go Go.RowKit Go.Shelf
attribute [local go_sem] Oper.semAt_some
set_option maxHeartbeats 4000000
set_option maxRecDepth 100000
def wordsS (s : Bs) : List Bs := (wordsL s).map Prod.fst
def someW (s : Bs) (k : Nat) : List Value := (((pieces s).take k).filter (fun x => decide (x ≠ []))).map fun b => Value.string ⟨b.toArray⟩
theorem someW_succ {s : Bs} {k : Nat} (h : k < (pieces s).length) : someW s (k + 1) = if (pieces s).getD k [] = [] then someW s k else someW s k ++ [.string ⟨((pieces s).getD k []).toArray⟩] := by
  unfold someW
  rw [List.take_succ_eq_append_getElem h, List.filter_append, List.map_append, List.getD_eq_getElem?_getD, List.getElem?_eq_getElem h, Option.getD_some]
  by_cases he : (pieces s)[k] = []
  · rw [if_pos he, he]; simp
  · rw [if_neg he]; simp [he]
theorem blanksA_len : ∀ (s now : Bs), (blanksA s now).length ≤ s.length + 1
  | [], now => by simp [blanksA]
  | c :: r, now => by
    rw [blanksA]; split
    · have := blanksA_len r []; simp; omega
    · have := blanksA_len r (now ++ [c]); simp; omega
theorem someW_len (s : Bs) (k : Nat) : (someW s k).length ≤ s.length + 1 := by
  unfold someW
  rw [List.length_map]
  refine Nat.le_trans (List.length_filter_le _ _) ?_
  have h2 : (pieces s).length ≤ s.length + 1 := blanksA_len s []
  have h3 : ((pieces s).take k).length ≤ (pieces s).length := by rw [List.length_take]; omega
  omega
theorem cut_len (s sep : List UInt8) : (Lib.cut s sep).1.length ≤ s.length := by
  unfold Lib.cut
  split
  · simp only [List.length_take]; omega
  · exact Nat.le_refl _
theorem someW_all (s : Bs) : someW (Lib.cut s [59]).1 (pieces (Lib.cut s [59]).1).length = (wordsS s).map fun b => Value.string ⟨b.toArray⟩ := by
  unfold someW
  rw [List.take_length]
  unfold pieces wordsS
  rw [words_prog]
theorem own_ne {w : World} {base : Nat} {e : TypeId} {size n : Nat} {v : Value} {xs : List Value} (h : w.ownsRow base e size v n xs) {b : Nat} (hb : b < base) : v.ownBlock ≠ some b := fun e => by
  have := (h.lt b e).1
  omega
/-- How things stand ahead of a round. -/
def InvW (w : World) (f : List Value) (g : Value) (W : World) : Prop := ∃ v, Boxed W w.heap.size 35 v ∧ W.ownsRow (w.heap.size + 4) 9 1 v f.length f ∧ Boxed W (w.heap.size + 1) 9 g ∧ Below w.heap.size w W ∧ w.heap.size + 4 ≤ W.heap.size
theorem holdsI (w : World) (B : Nat) (hB : w.heap.size + 2 ≤ B) (f : Nat → List Value) (g : Nat → Value) : Holds B fun k W => InvW w (f k) (g k) W := by
  rintro k W r o ob hr hob hc ⟨v, hv, hrow, hb, hw, hz⟩
  refine ⟨v, hv.kept (grownBy_putObj' W r o) (fun e => by injection e with e; omega), ownsRow_putObj hrow o hob hc, hb.kept (grownBy_putObj' W r o) (fun e => by injection e with e; omega), ?_, ?_⟩
  · exact hw.trans ((Below.refl _ W).grown (grownBy_putObj' W r o) (by have := hw.size; omega) (fun j e => by cases e; omega))
  · exact Nat.le_trans hz (grownBy_putObj' W r o).size
theorem infoStr : (Tryd.prog.info? 9).map (fun i => (i.zero, i.size, i.bytes)) = some (some (.string ⟨#[]⟩), 1, 16) := by kernel_rfl
theorem words_any (s : ByteArray) (w : World) (hl : Lay w) (hs : s.size < 4294967281) : Calls Tryd.prog 47 #[.string s] w fun e W' =>
    ∃ v, e = .returned v ∧ W'.ownsRow w.heap.size 9 1 v (wordsS s.data.toList).length ((wordsS s.data.toList).map fun b => Value.string ⟨b.toArray⟩) ∧ Below w.heap.size w W' := by
  obtain ⟨m, hm⟩ := hl.max
  obtain ⟨i0, hi, hz0, hz1, hz2⟩ := info_parts infoStr
  refine (callsIn_wide (n := 3)).1 ?_
  refine callsIn_of_wp_marks Tryd.func47 rfl trivial ?_ rfl
  simp only [Tryd.ntmps47, List.size_toArray, List.length_cons, List.length_nil, Nat.reduceAdd, Nat.reduceSub, Array.replicate_succ, Array.replicate_zero, List.push_toArray, List.append_toArray, List.nil_append, List.cons_append]
  have HALL := hide (someW_all s.data.toList)
  have hcl := cut_len s.data.toList [59]
  have hsl : s.data.toList.length = s.size := rfl
  have HC := hide (Tryd.strings_Cut s ⟨#[59]⟩ m w hs hm)
  generalize wordsS s.data.toList = WS at *
  obtain ⟨c, hc⟩ : ∃ c, (Lib.cut s.data.toList [59]).1 = c := ⟨_, rfl⟩
  obtain ⟨c2, hc2⟩ : ∃ c2, (Lib.cut s.data.toList [59]).2.1 = c2 := ⟨_, rfl⟩
  obtain ⟨c3, hc3⟩ : ∃ c3, (Lib.cut s.data.toList [59]).2.2 = c3 := ⟨_, rfl⟩
  have HC2 : Hid (Calls Tryd.prog 62 #[.string s, .string ⟨#[59]⟩] w fun e w' => e = .returned (.tuple #[.string ⟨c.toArray⟩, .string ⟨c2.toArray⟩, .bool c3]) ∧ ∃ n, w' = w.drewN n) := hide (by
    rw [← hc, ← hc2, ← hc3]
    exact unhide HC)
  rw [hc] at hcl HALL
  have hcs : c.length < 4294967281 := by omega
  clear HC hc hc2 hc3 hcl hsl
  gi_wp2_with (first
    | (refine ⟨trivial, ?_⟩; gi_at_call 62; refine (callsIn_wide.2 (unhide HC2)).mono ?_; rintro e w' ⟨rfl, n, rfl⟩)
    | (refine ⟨trivial, ?_⟩; gi_at_call 63; refine (callsIn_wide.2 (splitSeq_any _ _)).mono ?_; rintro e w' ⟨rfl, rfl⟩))
  refine wpIn_rangeFunc_cell (F := Fence.wide) rfl (by decide) (gf := 87) (lb := #[.pointer (some ⟨w.heap.size + 1 + 1, 0, none⟩), .pointer (some ⟨w.heap.size + 1, 0, none⟩), .pointer (some ⟨w.heap.size + 1 + 2, 0, none⟩)]) rfl trivial (enters_of Tryd.func87 (by kernel_rfl) rfl)
    (seq_gives c hcs (w.heap.size + 1 + 1) (w.heap.size + 1) (w.heap.size + 1 + 2) (seqW ⟨c.toArray⟩ ((w.drewN n).alloc (Obj.cells #[Value.slice none 0 0] 35))) ?_ ?_ (by omega) (by omega)) ⟨rfl, rfl⟩ rfl ?_ ?_ ?_
    (fun k W => InvW w (someW c k) (.string (restB c k)) W)
    (fun k W => InvW w (someW c (k + 1)) (.string (restB c k)) W)
    ?_ ?_ ?_ ?_ ?_ ?_ ?_
    (fun k => { tmps := #[.string ⟨c.toArray⟩, undef, .slice none 0 0, .pointer (some ⟨w.heap.size, 0, none⟩), .string (pieceB c k), .tuple #[.string ⟨c.toArray⟩, .string ⟨c2.toArray⟩, .bool c3], .string s, .tuple #[.string ⟨c.toArray⟩, .string ⟨c2.toArray⟩, .bool c3], .string ⟨c.toArray⟩, .string ⟨c2.toArray⟩, .bool c3, .string ⟨c.toArray⟩, .func (.func 87) #[] #[.pointer (some ⟨w.heap.size + 1 + 1, 0, none⟩), .pointer (some ⟨w.heap.size + 1, 0, none⟩), .pointer (some ⟨w.heap.size + 1 + 2, 0, none⟩)], .string (pieceB c k), undef, undef, undef, undef, undef, undef, undef], defers := [] }) ?_ ?_ ?_
  · have h := ((Boxed.new (((w.drewN n).alloc (Obj.cells #[Value.slice none 0 0] 35)).alloc (.cells #[.string ⟨c.toArray⟩] 9)) 9 (.string ⟨#[32]⟩)).alloc (.cells #[.int .i64 0] 3)).cell
    rw [World.size_alloc, World.size_alloc] at h
    exact h
  · have h := (Boxed.new ((((w.drewN n).alloc (Obj.cells #[Value.slice none 0 0] 35)).alloc (.cells #[.string ⟨c.toArray⟩] 9)).alloc (.cells #[.string ⟨#[32]⟩] 9)) 3 (.int .i64 0)).cell
    rw [World.size_alloc, World.size_alloc, World.size_alloc] at h
    exact h
  · simp [seqW]
  · simp [seqW]
  · simp [seqW]
  · exact holdsI w _ (by simp [seqW]) (someW c) (fun k => .string (restB c k))
  · exact holdsI w _ (by simp [seqW]) (fun k => someW c (k + 1)) (fun k => .string (restB c k))
  · rintro W o ⟨v, hv, hrow, hb, hw, hz⟩
    exact ⟨v, hv.alloc o, hrow.alloc o, hb.alloc o, hw.alloc hw.size o, by simp; omega⟩
  · have h1 := (((Boxed.new (w.drewN n) 35 (.slice none 0 0)).alloc (.cells #[.string ⟨c.toArray⟩] 9)).alloc (.cells #[.string ⟨#[32]⟩] 9)).alloc (.cells #[.int .i64 0] 3)
    have h2 := ((Boxed.new ((w.drewN n).alloc (Obj.cells #[Value.slice none 0 0] 35)) 9 (.string ⟨c.toArray⟩)).alloc (.cells #[.string ⟨#[32]⟩] 9)).alloc (.cells #[.int .i64 0] 3)
    rw [World.size_alloc] at h2
    have hd : Below w.heap.size w (w.drewN n) := by
      have h := Below.refl w.heap.size w
      exact ⟨h.os, h.tape, h.output, h.size, h.block⟩
    refine ⟨_, h1, World.ownsRow_nil _ _ _ _, h2, (((hd.alloc (by simp) _).alloc ?_ _).alloc ?_ _).alloc ?_ _, ?_⟩ <;> (simp [seqW]; try omega)
  · rintro k W hk ⟨v, hv, hrow, hb, hw, hz⟩
    exact ⟨v, hv.kept (grownBy_setCell' W _ _) (by simp), hrow.kept (grownBy_setCell' W _ _) (.inr (own_ne hrow (by omega))), hb.set _, hw.setCell (p := ⟨w.heap.size + 1, 0, none⟩) (Nat.le_succ _) _, by simpa [World.setCell] using hz⟩
  · rintro k W ⟨v, hv, hrow, hb, hw, hz⟩
    exact ⟨hb.cell, hb.frozen⟩
  · rintro k W ⟨v, hv, hrow, hb, hw, hz⟩
    exact ⟨hb.cell, hb.frozen⟩
  · intro l k W K hk hK
    gi_wp2
    exact hK
  · rintro l k W hk ⟨v, hv, hrow, hb, hw, hz⟩
    have hlen := someW_len c k
    have HSU := hide (someW_succ hk)
    have hpb : pieceB c k = ⟨((pieces c).getD k []).toArray⟩ := rfl
    rw [hpb]
    generalize (pieces c).getD k [] = X at *
    have hcl := hv.cell
    have hfr := hv.frozen
    have HPB := hide hpb
    clear hpb
    cases hxe : List.isEmpty X with
    | true =>
      have hx0 : X = [] := List.isEmpty_iff.1 hxe
      have HS1 := hide (show someW c (k + 1) = someW c k by rw [unhide HSU, if_pos hx0])
      clear HSU hx0
      gi_wp2
      refine ⟨KeepsFrom.refl _ _, ⟨rfl, rfl⟩, ?_⟩
      rw [unhide HS1]
      exact ⟨v, hv, hrow, hb, hw, hz⟩
    | false =>
      have hx0 : X ≠ [] := fun e => by rw [e] at hxe; cases hxe
      have HS1 := hide (show someW c (k + 1) = someW c k ++ [.string ⟨X.toArray⟩] by rw [unhide HSU, if_neg hx0])
      clear HSU hx0
      generalize someW c k = F at *
      have hm1 : F.length + 1 ≤ maxLen := by simp only [maxLen]; omega
      have hm2 : (F.length + 1) * 16 ≤ 140737488355328 := by omega
      have hzb : w.heap.size + 4 ≤ (W.alloc (.cells #[.string ⟨X.toArray⟩] 9)).heap.size := by simp; omega
      gi_wp2_with (gi_at_builtin; refine wpListIn_append_own _ rfl _ _ 35 rfl (w.heap.size + 4) 9 i0 (.string ⟨#[]⟩) 1 16 Tryd.underlying35 hi hz0 hz1 hz2 rfl (by decide) _ _ _ rfl (hrow.alloc _) ⟨W.heap.size, 0, none⟩ 1 1 [.string ⟨X.toArray⟩] rfl rfl (cell_one_new _ _ _) (by simp [Value.oneCell']) hm1 hm2 hzb ?_; intro v' w1 hown' hgrow _; obtain ⟨g', cap', rfl⟩ := ownsRow_succ hown'; have hv1 := (hv.alloc (.cells #[.string ⟨X.toArray⟩] 9)).kept hgrow (own_ne hrow (by omega)).symm; have hc1 := hv1.cell; have hf1 := hv1.frozen)
      have hgrow : (W.alloc (.cells #[.string ⟨X.toArray⟩] 9)).grownBy w1 v.ownBlock := hgrow
      obtain ⟨V1, hV1⟩ : ∃ V1, (Value.slice (some ⟨g', 0, none⟩) (F.length + 1) cap') = V1 := ⟨_, rfl⟩
      rw [hV1] at hown' ⊢
      have h1 : Boxed (w1.setCell ⟨w.heap.size, 0, none⟩ V1) (w.heap.size + 1) 9 (.string (restB c k)) := ((hb.alloc (.cells #[.string ⟨X.toArray⟩] 9)).kept hgrow (own_ne hrow (by omega)).symm).kept (grownBy_setCell' w1 w.heap.size V1) (by simp)
      have hg2 : ∀ b, b < W.heap.size → v.ownBlock ≠ some b → b ≠ w.heap.size → (w1.setCell ⟨w.heap.size, 0, none⟩ V1).heap[b]? = W.heap[b]? := fun b hbw hne hb0 =>
        ((Below.heap_setCell w1 ⟨w.heap.size, 0, none⟩ V1 b hb0).trans (hgrow.block b (by simp; omega) hne.symm)).trans (Below.heap_alloc W _ b hbw)
      refine ⟨?_, ⟨hg2 _ (by omega) (own_ne hrow (by omega)) (by omega), hg2 _ (by omega) (own_ne hrow (by omega)) (by omega)⟩, ?_⟩
      · refine KeepsOthers.from (((KeepsOthers.alloc W _).trans (KeepsOthers.of_grownBy hgrow fun j o ej hj => ?_)).trans (KeepsOthers.setCell _ _ _)) _
        rcases (hrow.alloc (.cells #[.string ⟨X.toArray⟩] 9)).2 with ⟨rfl, _⟩ | ⟨g, cap, cur, rfl, _, hgb, _⟩
        · simp [Value.ownBlock] at ej
        · obtain rfl : g = j := by simpa [Value.ownBlock] using ej
          rw [hgb] at hj; cases hj; rfl
      · rw [unhide HS1]
        refine ⟨V1, hv1.set V1, ?_, h1, ?_, ?_⟩
        · rw [List.length_append]
          exact hown'.kept (grownBy_setCell' w1 w.heap.size V1) (.inr (own_ne hown' (by omega)))
        · refine hw.trans ((((Below.refl w.heap.size W).alloc (by omega) (.cells #[.string ⟨X.toArray⟩] 9)).grown hgrow (by simp; omega) fun j ej => ?_).setCell (p := ⟨w.heap.size, 0, none⟩) (Nat.le_refl _) V1)
          have := (hrow.lt j ej).1
          omega
        · have h5 := hgrow.size
          simp [World.setCell] at h5 ⊢
          omega
  · rintro D W hD ⟨v, hv, hrow, hb, hw, hz⟩ hK
    have hpn := pieces_ne c
    rw [show (pieces c).length - 1 + 1 = (pieces c).length by omega] at hrow
    have HP := hide (unhide HALL)
    rw [unhide HP] at hrow
    have hcl := hv.cell
    have hfr := hv.frozen
    have HROW := hide hrow
    clear hpn HALL hb
    gi_wp2
    refine ⟨by simp, .inl ⟨_, _, rfl, run_takeDeferred hK, ?_⟩⟩
    refine ⟨_, results_tmp rfl _ _ _, v, rfl, ?_, ?_⟩
    · have h := ownsRow_putObj (unhide HROW) (.deferred none) hK rfl
      rw [List.length_map] at h
      exact ⟨h.1, h.2.imp id fun ⟨g, cap, cur, e1, e2, e3⟩ => ⟨g, cap, cur, e1, Nat.le_trans (Nat.le_add_right _ _) e2, e3⟩⟩
    · exact hw.trans (belowK_b (w := w) (Nat.le_refl _) W D _ _ (by simp [seqW] at hD; omega) hK rfl rfl)
end Go.Proofs.YtgonllogaiiicaaDoor
