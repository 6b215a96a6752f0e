/-
  Layer 17: lines by strings.Split; text.Labels.
-/
import Derived.Test.YtgonllogaiiicaaDoorWl
import Derived.Test.YtgonllogaiiicaaDoorRsm
namespace Go.Proofs.YtgonllogaiiicaaDoor
open Go.RowKit
set_option maxHeartbeats 4000000
set_option maxRecDepth 100000
theorem lines_countN : ∀ (fuel : Nat) (s : Bs), s.length < fuel → (linesL s).length = Lib.countFrom [10] fuel s + 1
  | 0, _, h => by omega
  | fuel + 1, s, h => by
    rw [Lib.countFrom]
    rcases index_one 10 s with ⟨h1, h2⟩ | ⟨u, v, rfl, h2, h3⟩
    · rw [if_pos (by rw [h1]; rfl), linesL_one s h2]; rfl
    · have hn : ¬ ((Lib.index (u ++ 10 :: v) [10] == -1) = true) := by rw [h3]; simp
      have e1 : (u ++ 10 :: v).drop ((Lib.index (u ++ 10 :: v) [10]).toNat + [(10 : UInt8)].length) = v := by
        rw [h3]
        have : u ++ (10 : UInt8) :: v = (u ++ [10]) ++ v := by simp
        rw [this]
        have : (Int.toNat (u.length : Int)) + [(10 : UInt8)].length = (u ++ [(10 : UInt8)]).length := by simp
        rw [this, List.drop_left]
      rw [if_neg hn, e1, linesL_line u v h2, List.length_cons, lines_countN fuel v (by simp at h; omega), Nat.add_comm 1]
theorem lines_count (s : Bs) : (linesL s).length = Lib.count s [10] + 1 := lines_countN _ s (by omega)
/-- The lines of a text, as a new row. -/
theorem split_row (s : ByteArray) (w : World) (hl : Lay w) (hs : s.size ≤ 1000000000) : Calls Tryd.prog 40 #[.string s, .string ⟨#[10]⟩] w fun e w' =>
    e = .returned (.slice (some ⟨w.heap.size, 0, none⟩) (linesL s.data.toList).length (linesL s.data.toList).length) ∧ w' = w.alloc (.cells ((linesL s.data.toList).map bv).toArray 9) := by
  obtain ⟨m, hm⟩ := hl.max
  refine (Tryd.strings_Split s ⟨#[10]⟩ m w (by omega) hm (by decide)).mono fun e w' ⟨h1, h2⟩ => ?_
  have hd : (ByteArray.data ⟨#[10]⟩).toList = [10] := rfl
  have hc : Lib.countB s ⟨#[10]⟩ = Lib.count s.data.toList [10] := rfl
  have hx := Lib.splitB_data ⟨#[10]⟩ 0 (Lib.countB s ⟨#[10]⟩) s
  rw [hd, hc, split_lines] at hx
  have hm2 : (Lib.splitB ⟨#[10]⟩ 0 (Lib.countB s ⟨#[10]⟩) s).map Value.string = (linesL s.data.toList).map bv := by
    rw [hc, ← hx, List.map_map]
    refine List.map_congr_left fun x _ => ?_
    simp [bv]
  rw [h1, h2, hm2, lines_count, hc]
  exact ⟨rfl, rfl⟩
/-- A line of a text isn't longer than it. -/
theorem line_len {s x : Bs} (h : x ∈ linesL s) : x.length ≤ s.length := by
  have key : ∀ (r now : Bs), ∀ y ∈ linesA r now, y.length ≤ now.length + r.length := by
    intro r
    induction r with
    | nil => intro now y hy; rw [linesA, List.mem_singleton] at hy; subst hy; simp
    | cons c r ih =>
      intro now y hy
      rw [linesA] at hy
      split at hy
      · rcases List.mem_cons.1 hy with rfl | hy
        · simp
        · have := ih [] y hy; simp at this ⊢; omega
      · have := ih _ y hy; simp at this ⊢; omega
  have := key s [] x h
  simpa using this
/-- The labels of lines, and where: k is the first line's number. -/
def labsA : Nat → List Ln → List (Bs × Nat)
  | _, [] => []
  | k, x :: r => if x.kind = 2 then (x.label, k) :: labsA (k + 1) r else labsA (k + 1) r
theorem labsA_snoc : ∀ (xs : List Ln) (k : Nat) (x : Ln), labsA k (xs ++ [x]) = labsA k xs ++ (if x.kind = 2 then [(x.label, k + xs.length)] else [])
  | [], k, x => by rw [List.nil_append, labsA, labsA]; split <;> rfl
  | y :: xs, k, x => by
    rw [List.cons_append, labsA, labsA, labsA_snoc xs (k + 1) x, List.length_cons]
    have e : k + 1 + xs.length = k + (xs.length + 1) := by omega
    rw [e]
    split <;> simp
theorem labsA_len : ∀ (xs : List Ln) (k : Nat), (labsA k xs).length ≤ xs.length
  | [], _ => Nat.le_refl _
  | x :: xs, k => by
    have := labsA_len xs (k + 1)
    rw [labsA]
    split <;> simp <;> omega
/-- The labels of the first lines. -/
def labs (ls : List Bs) (k : Nat) : List (Bs × Nat) := labsA 0 ((ls.take k).map readL)
theorem labs_next {ls : List Bs} {k : Nat} {x : Bs} (h : ls[k]? = some x) : labs ls (k + 1) = labs ls k ++ (if (readL x).kind = 2 then [((readL x).label, k)] else []) := by
  obtain ⟨hk, _⟩ := List.getElem?_eq_some_iff.1 h
  unfold labs
  rw [take_snoc' h, List.map_append, List.map_singleton, labsA_snoc, List.length_map, List.length_take, Nat.zero_add]
  congr 3
  simp; omega
theorem labs_len (ls : List Bs) (k : Nat) : (labs ls k).length ≤ ls.length := by
  unfold labs
  refine Nat.le_trans (labsA_len _ _) ?_
  rw [List.length_map, List.length_take]; omega
def lab1 (p : Bs × Nat) : Value := bv p.1
def lab2 (p : Bs × Nat) : Value := .int .i64 (p.2 : Int)
theorem infoIn : (Tryd.prog.info? 3).map (fun i => (i.zero, i.size, i.bytes)) = some (some (.int .i64 0), 1, 8) := by kernel_rfl
theorem lab1_one (p : Bs × Nat) : ∀ u ∈ [lab1 p], u.oneCell' = true := by intro u hu; simp at hu; subst hu; rfl
theorem lab2_one (p : Bs × Nat) : ∀ u ∈ [lab2 p], u.oneCell' = true := by intro u hu; simp at hu; subst hu; rfl
theorem own_own_ne {w : World} {base base' : Nat} {e e' : TypeId} {size size' n n' : Nat} {v v' : Value} {xs xs' : List Value} (h : w.ownsRow base e size v n xs) (h' : w.ownsRow base' e' size' v' n' xs') (hne : e ≠ e') : ∀ k, v.ownBlock = some k → ¬ v'.ownBlock = some k := by
  intro k hk hk'
  rcases h'.2 with ⟨rfl, _⟩ | ⟨g', cap, cur, rfl, _, hh, _⟩
  · simp [Value.ownBlock] at hk'
  · obtain rfl : g' = k := by simpa [Value.ownBlock] using hk'
    exact own_blk_ne h (show Blk w g' e' cur from hh) hne hk
/-- What text.Labels hands back. -/
def LabOut (w : World) (V : List (Bs × Nat)) (e : Ending) (w' : World) : Prop :=
  ∃ A c B d, e = .returned (.tuple #[.slice A V.length c, .slice B V.length d]) ∧ Rd (fun k => w.heap.size ≤ k) w' A (V.map lab1) ∧ Rd (fun k => w.heap.size ≤ k) w' B (V.map lab2) ∧ Chg (fun _ => False) w w'
theorem labels_any (s : ByteArray) (w : World) (hl : Lay w) (hs : s.size ≤ 100000000) : Calls Tryd.prog 17 #[.string s] w fun e w' =>
    LabOut w (labs (linesL s.data.toList) (linesL s.data.toList).length) e w' := by
  obtain ⟨q_i, q_hi, q_hz, q_hs, q_hb⟩ := info_parts infoStr
  obtain ⟨i_i, i_hi, i_hz, i_hs, i_hb⟩ := info_parts infoIn
  have HSP := hide (split_row s w hl (by omega))
  have hll : (linesL s.data.toList).length ≤ 100000001 := by
    have h1 := linesA_length s.data.toList []
    have h2 : s.data.toList.length = s.size := rfl
    unfold linesL
    omega
  have HLE := hide (fun x (hx : x ∈ linesL s.data.toList) => show x.length ≤ 100000000 from by
    have h1 := line_len hx
    have h2 : s.data.toList.length = s.size := rfl
    omega)
  generalize linesL s.data.toList = LS at *
  have HRD0 := hide (rd_new w w.heap.size 9 (LS.map bv) rfl)
  have HC0 := hide ((Chg.refl (fun _ => False) w).alloc (.cells (LS.map bv).toArray 9))
  have HLY := hide (fun W (hW : Chg (fun _ => False) w W) => hl.chg hW (fun _ _ => id))
  clear hl
  go_enter Tryd.func17, Tryd.ntmps17
  go_wp2_with (go_at_call 40; (with_reducible refine (unhide HSP).mono ?_); rintro e w2 ⟨rfl, hw2⟩; subst hw2)
  obtain ⟨wa, hwa⟩ : ∃ wa, w.alloc (.cells (LS.map bv).toArray 9) = wa := ⟨_, rfl⟩
  have hrd0 := unhide HRD0
  have hc0 := unhide HC0
  rw [hwa] at hrd0 hc0 ⊢
  have HR := hide (hrd0.low)
  have HCA := hide hc0
  clear HRD0 HC0 hrd0 hc0 hwa HSP
  have HCL := hide (fun W (hW : Chg (fun _ => False) wa W) (k : Nat) (x : Bs) (hx : LS[k]? = some x) => show W.cell? ⟨w.heap.size, k, none⟩ = some (.string ⟨x.toArray⟩) from by
    have h := (unhide HR).chg hW (fun _ _ _ => id)
    obtain ⟨ad, e, _, hc⟩ := h (by intro e; have := List.map_eq_nil_iff.1 e; rw [this] at hx; cases hx)
    injection e with e
    subst e
    have := hc k (bv x) (by rw [List.getElem?_map, hx]; rfl)
    rw [add_flat, Nat.zero_add] at this
    exact this)
  clear HR
  go_loopw [4, 5, 14] (fun na li i wr => ∃ k : Nat, i = .int .i64 (k : Int) ∧ k ≤ LS.length ∧ wr.ownsRow wa.heap.size 9 1 na (labs LS k).length ((labs LS k).map lab1) ∧ wr.ownsRow wa.heap.size 3 1 li (labs LS k).length ((labs LS k).map lab2) ∧ Chg (fun _ => False) wa wr) (fun _ _ i _ => LS.length - (intOf i).toNat)
  case atStart => exact ⟨0, rfl, Nat.zero_le _, World.ownsRow_nil _ _ _ _, World.ownsRow_nil _ _ _ _, Chg.refl _ _⟩
  case round =>
    obtain ⟨wq, rfl⟩ : ∃ wq : World, wq = wr := ⟨_, rfl⟩
    obtain ⟨k, rfl, hk, hown, hown2, hch⟩ := hrel
    obtain ⟨B, c5, rfl⟩ := own_val hown
    obtain ⟨B2, c6, rfl⟩ := own_val hown2
    have HCH := hide hch
    by_cases hlt : k < LS.length
    · have hki : (k : Int) < (LS.length : Int) := by omega
      have hx := List.getElem?_eq_getElem hlt
      generalize LS[k] = x at *
      have k1 := (unhide HCL) _ hch k x hx
      have HRE := hide (read_any x wq ((unhide HLY) _ ((unhide HCA).trans' hch)) ((unhide HLE) x (List.mem_of_getElem? hx)))
      have HLN := hide (labs_next hx)
      have hll2 := labs_len LS k
      unfold rdV insV at HRE
      generalize labs LS k = V at *
      generalize (readL x).label = lb at *
      generalize (readL x).kind = kd at *
      generalize (readL x).i = ii at *
      obtain ⟨io, ia, ib⟩ := ii
      simp only at HRE
      have HO3 := hide hown
      have HP3 := hide hown2
      clear hown hown2 hch hx
      go_upto_region 7 with (go_at_call 41; (with_reducible refine (unhide HRE).mono ?_); rintro e w3 ⟨rfl, hc3⟩; have HC3 := hide hc3; clear hc3)
      obtain ⟨w4, hw4⟩ : ∃ w4, w3.alloc (.cells #[.int .i64 io, .int .i64 ia, .int .i64 ib] 42) = w4 := ⟨_, rfl⟩
      have hc4 : Chg (fun _ => False) w3 (w3.alloc (.cells #[.int .i64 io, .int .i64 ia, .int .i64 ib] 42)) := (Chg.refl _ w3).alloc _
      rw [hw4] at hc4 ⊢
      have hc34 := (unhide HC3).trans' hc4
      have HO4 := hide (own_chg (unhide HO3) hc34 (fun _ _ => id))
      have HP4 := hide (own_chg (unhide HP3) hc34 (fun _ _ => id))
      have HC4 := hide ((unhide HCH).trans' hc34)
      clear HO3 HP3 HCH hc34 hc4 hw4 HC3 HRE k1
      by_cases hk2 : kd = 2
      · have hkd : ((kd : Int) == 2) = true := beq_iff_eq.2 (by omega)
        have HLN2 := hide (show labs LS (k + 1) = V ++ [(lb, k)] by rw [unhide HLN, if_pos hk2])
        have hkI : (kd : Int) = 2 := by omega
        clear HLN hk2 hkI
        have hm1 : V.length + 1 ≤ maxLen := by simp only [maxLen]; omega
        have hm2 : (V.length + 1) * 16 ≤ 140737488355328 := by omega
        have hm3 : (V.length + 1) * 8 ≤ 140737488355328 := by omega
        have hb4 : wa.heap.size ≤ (w4.alloc (.cells #[lab1 (lb, k)] 9)).heap.size := ((unhide HC4).alloc (.cells #[lab1 (lb, k)] 9)).size
        have HRN := hide (fun W : World => (rd_new W W.heap.size 9 [lab1 (lb, k)] rfl).mono (T' := fun _ => True) (fun _ _ => trivial))
        have HRM := hide (fun W : World => (rd_new W W.heap.size 3 [lab2 (lb, k)] rfl).mono (T' := fun _ => True) (fun _ _ => trivial))
        have HON1 := hide (lab1_one (lb, k))
        have HON2 := hide (lab2_one (lb, k))
        go_upto_region 9 with (first
          | (at_builtin; (refine wpList_append_rd _ rfl (.tmp 27) (.tmp 29) 35 rfl wa.heap.size 9 q_i (.string ⟨#[]⟩) 1 16 Tryd.underlying35 q_hi q_hz q_hs q_hb rfl (by decide) _ V.length _ rfl ((unhide HO4).alloc _) (fun _ => True) (some ⟨w4.heap.size, 0, none⟩) 1 1 [lab1 (lb, k)] rfl rfl ((unhide HRN) w4) (unhide HON1) hm1 hm2 hb4 ?_); intro v5 w5 ho_ hc_ hat_; (have HP5 := hide (own_chg ((unhide HP4).alloc (.cells #[lab1 (lb, k)] 9)) hc_ (fun j h1 h2 => own_own_ne ((unhide HO4).alloc (.cells #[lab1 (lb, k)] 9)) ((unhide HP4).alloc (.cells #[lab1 (lb, k)] 9)) (by decide) j h2 h1))); (have HO5 := hide ho_); (have HC5 := hide ((unhide HC4).trans (((Chg.refl (fun k => (Value.slice B V.length c5).ownBlock = some k) w4).alloc (.cells #[lab1 (lb, k)] 9)).trans hc_ (fun _ _ h => h)) (fun i hi e => by have := ((unhide HO4).lt i e).1; omega))); clear ho_ hc_ hat_))
        have hb5 : wa.heap.size ≤ (w5.alloc (.cells #[lab2 (lb, k)] 3)).heap.size := ((unhide HC5).alloc (.cells #[lab2 (lb, k)] 3)).size
        go_wp2_with (first
          | (at_builtin; (refine wpList_append_rd _ rfl (.tmp 31) (.tmp 33) 36 rfl wa.heap.size 3 i_i (.int .i64 0) 1 8 Tryd.underlying36 i_hi i_hz i_hs i_hb rfl (by decide) _ V.length _ rfl ((unhide HP5).alloc _) (fun _ => True) (some ⟨w5.heap.size, 0, none⟩) 1 1 [lab2 (lb, k)] rfl rfl ((unhide HRM) w5) (unhide HON2) hm1 hm3 hb5 ?_); intro v6 w6 ho_ hc_ hat_; (have HO6 := hide (own_chg ((unhide HO5).alloc (.cells #[lab2 (lb, k)] 3)) hc_ (fun j h1 h2 => own_own_ne ((unhide HP5).alloc (.cells #[lab2 (lb, k)] 3)) ((unhide HO5).alloc (.cells #[lab2 (lb, k)] 3)) (by decide) j h2 h1))); (have HP6 := hide ho_); (have HC6 := hide ((unhide HC5).trans (((Chg.refl (fun k => (Value.slice B2 V.length c6).ownBlock = some k) w5).alloc (.cells #[lab2 (lb, k)] 3)).trans hc_ (fun _ _ h => h)) (fun i hi e => by have := ((unhide HP5).lt i e).1; omega))); clear ho_ hc_ hat_))
        go_roundw
        case rel =>
          refine ⟨k + 1, by go_num, by omega, ?_, ?_, unhide HC6⟩
          · rw [unhide HLN2, List.length_append, List.map_append]
            exact unhide HO6
          · rw [unhide HLN2, List.length_append, List.map_append]
            exact unhide HP6
        case measure => simp [intOf]; omega
      · have hkd : ((kd : Int) == 2) = false := beq_eq_false_iff_ne.2 (by omega)
        have HLN2 := hide (show labs LS (k + 1) = V by rw [unhide HLN, if_neg hk2, List.append_nil])
        clear HLN hk2
        go_wp2_with fail
        go_roundw
        case rel =>
          refine ⟨k + 1, by go_num, by omega, ?_, ?_, unhide HC4⟩
          · rw [unhide HLN2]
            exact unhide HO4
          · rw [unhide HLN2]
            exact unhide HP4
        case measure => simp [intOf]; omega
    · obtain rfl : k = LS.length := by omega
      have hki : ¬ (LS.length : Int) < (LS.length : Int) := by omega
      have HO4 := hide hown
      have HP4 := hide hown2
      have HWA := hide (show w.heap.size ≤ wa.heap.size from (unhide HCA).size)
      clear hown hown2 hch
      go_wp2_with fail
      go_ret2
      have hO := unhide HO4
      have hP := unhide HP4
      have hwa := unhide HWA
      refine ⟨B, c5, B2, c6, rfl, (own_rd hO (by omega)).mono (fun j hj => ?_), (own_rd hP (by omega)).mono (fun j hj => ?_), (unhide HCA).trans' (unhide HCH)⟩
      · have := (hO.lt j hj).1; omega
      · have := (hP.lt j hj).1; omega
end Go.Proofs.YtgonllogaiiicaaDoor
