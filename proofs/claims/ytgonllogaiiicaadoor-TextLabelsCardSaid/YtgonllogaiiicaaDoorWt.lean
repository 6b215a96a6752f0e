/-
  Layer 17: text.Rename.
-/
import Derived.Test.YtgonllogaiiicaaDoorWs
namespace Go.Proofs.YtgonllogaiiicaaDoor
open Go.RowKit
set_option maxHeartbeats 4000000
set_option maxRecDepth 100000
/-- The lines of which the first k have the other label. -/
def renA (a b : Bs) (ls : List Bs) (k : Nat) : List Bs := (ls.take k).map (renLine a b) ++ ls.drop k
theorem renA_len (a b : Bs) (ls : List Bs) (k : Nat) : (renA a b ls k).length = ls.length := by
  unfold renA
  simp; omega
theorem renA_at {a b : Bs} {ls : List Bs} {k : Nat} {x : Bs} (h : ls[k]? = some x) : (renA a b ls k)[k]? = some x := by
  obtain ⟨hk, _⟩ := List.getElem?_eq_some_iff.1 h
  unfold renA
  rw [List.getElem?_append_right (by simp; omega), List.length_map, List.length_take, Nat.min_eq_left (by omega), Nat.sub_self, List.getElem?_drop, Nat.add_zero, h]
theorem renA_next {a b : Bs} {ls : List Bs} {k : Nat} {x : Bs} (h : ls[k]? = some x) : renA a b ls (k + 1) = (renA a b ls k).set k (renLine a b x) := by
  obtain ⟨hk, he⟩ := List.getElem?_eq_some_iff.1 h
  unfold renA
  rw [take_snoc' h, List.map_append, List.set_append_right _ _ (by simp; omega), List.length_map, List.length_take, Nat.min_eq_left (by omega), Nat.sub_self]
  rw [List.drop_eq_getElem_cons hk, he, List.set_cons_zero]
  simp
theorem renA_end (a b : Bs) (ls : List Bs) : renA a b ls ls.length = ls.map (renLine a b) := by
  unfold renA
  simp
theorem renA_zero (a b : Bs) (ls : List Bs) : renA a b ls 0 = ls := by
  unfold renA
  simp
theorem joinL_len (n : Nat) : ∀ ls : List Bs, (∀ x ∈ ls, x.length ≤ n) → (joinL ls).length ≤ ls.length * (n + 1)
  | [], _ => by simp [joinL]
  | [x], h => by have := h x (by simp); simp [joinL]; omega
  | x :: y :: r, h => by
    have h1 := h x (by simp)
    have h2 := joinL_len n (y :: r) (fun z hz => h z (by simp [hz]))
    rw [joinL, List.length_append, List.length_cons, List.length_cons, Nat.succ_mul]
    · omega
    · intro e; cases e
theorem renLine_len (a b x : Bs) : (renLine a b x).length ≤ x.length + b.length := by
  unfold renLine
  split
  · rw [List.length_append, List.length_append, List.length_take, List.length_drop]; omega
  · omega
theorem join_joinL : ∀ ls : List Bs, Lib.join ls [10] = joinL ls
  | [] => rfl
  | [x] => by rw [Lib.join_one]; rfl
  | x :: y :: r => by
    have ih := join_joinL (y :: r)
    rw [Lib.join_cons] at ih ⊢
    rw [joinL, ← ih]
    · simp [Lib.joinTail]
    · intro e; cases e
theorem idx_at {x : Bs} {m : Nat} {c : UInt8} (h : x[m]? = some c) (w : World) : (Instr.index 9 (.string ⟨x.toArray⟩) (.int .i64 (m : Int))).run Tryd.prog w = .ok (.int .u8 (c.toNat : Int)) w := by
  obtain ⟨hm, he⟩ := List.getElem?_eq_some_iff.1 h
  have hsz : (⟨x.toArray⟩ : ByteArray).size = x.length := by show x.toArray.size = _; rw [List.size_toArray]
  have hi : 0 ≤ (m : Int) ∧ (m : Int) < ((⟨x.toArray⟩ : ByteArray).size : Int) := by rw [hsz]; omega
  rw [run_index_string w 9 ⟨x.toArray⟩ .i64 m Tryd.underlying9, dif_pos hi]
  rw [← he]
  rfl
theorem cut_eq (x : Bs) (n : Nat) : (⟨x.toArray⟩ : ByteArray).extract 0 n = ⟨(x.take n).toArray⟩ := by
  apply ByteArray.ext
  apply Array.ext'
  rw [ByteArray.data_extract, Array.toList_extract]
  simp [List.extract]
theorem rest_eq (x : Bs) (n : Nat) : (⟨x.toArray⟩ : ByteArray).extract n (⟨x.toArray⟩ : ByteArray).size = ⟨(x.drop n).toArray⟩ := by
  apply ByteArray.ext
  apply Array.ext'
  have hsz : (⟨x.toArray⟩ : ByteArray).size = x.length := by show x.toArray.size = _; rw [List.size_toArray]
  rw [ByteArray.data_extract, Array.toList_extract, hsz]
  simp only [List.extract]
  exact List.take_of_length_le (by rw [List.length_drop]; exact Nat.le_refl _)
theorem put_eq (x b : Bs) (n m : Nat) : (⟨x.toArray⟩ : ByteArray).extract 0 n ++ ⟨b.toArray⟩ ++ (⟨x.toArray⟩ : ByteArray).extract m (⟨x.toArray⟩ : ByteArray).size = ⟨(x.take n ++ (b ++ x.drop m)).toArray⟩ := by
  rw [cut_eq, rest_eq, ByteArray.mk_append_mk, ByteArray.mk_append_mk]
  simp
theorem ren_yes {a b x lb : Bs} {kd at_ : Nat} {i : Ins} (h : readL x = ⟨kd, lb, at_, i⟩) (hk : 2 ≤ kd) (hl : lb ≠ []) (ha : lb = a) : renLine a b x = x.take at_ ++ (b ++ x.drop (at_ + lb.length)) := by
  unfold renLine
  rw [h]
  rw [if_pos ⟨hk, hl, ha⟩, ha]
theorem ren_no {a b x lb : Bs} {kd at_ : Nat} {i : Ins} (h : readL x = ⟨kd, lb, at_, i⟩) (hn : ¬ (2 ≤ kd ∧ lb ≠ [] ∧ lb = a)) : renLine a b x = x := by
  unfold renLine
  rw [h]
  exact if_neg hn
theorem same_set {xs : List Bs} {k : Nat} {x : Bs} (h : xs[k]? = some x) : xs.set k x = xs := by
  apply List.ext_getElem?
  intro j
  rw [List.getElem?_set]
  split
  · rename_i e
    subst e
    split
    · rw [h]
    · rename_i hn
      rw [List.getElem?_eq_none (by omega)] at h; cases h
  · rfl
theorem skip_at {x u t v : Bs} (e : x = u ++ (t ++ v)) (hu : ∀ d ∈ u, d = 32) (ht : t ≠ []) (hc : Clean t) (w : World) : Calls Tryd.prog 45 #[.string ⟨x.toArray⟩, .func (.func 46) #[] #[]] w fun e w' => e = .returned (.int .i64 (u.length : Int)) ∧ Chg (fun _ => False) w w' := by
  subst e
  cases t with
  | nil => exact absurd rfl ht
  | cons c t => exact skip_blanks u (t ++ v) c hu (hc c (by simp)).1 w
theorem blank_at {x u q r t : Bs} {m : Nat} (e : x = u ++ (q ++ (r ++ t))) (hr : ∀ d ∈ r, d = 32) (h1 : u.length + q.length ≤ m) (h2 : m < u.length + q.length + r.length) : x[m]? = some 32 := by
  subst e
  rw [List.getElem?_append_right (by omega), List.getElem?_append_right (by omega), List.getElem?_append_left (by omega), List.getElem?_eq_getElem (by omega)]
  exact congrArg some (hr _ (List.getElem_mem _))
theorem head_at {x u q r t v : Bs} (e : x = u ++ (q ++ (r ++ (t ++ v)))) (ht : t ≠ []) (hc : Clean t) : ∃ c, x[u.length + q.length + r.length]? = some c ∧ c ≠ 32 := by
  subst e
  cases t with
  | nil => exact absurd rfl ht
  | cons c t =>
    refine ⟨c, ?_, (hc c (by simp)).1⟩
    rw [List.getElem?_append_right (by omega), List.getElem?_append_right (by omega), List.getElem?_append_right (by omega)]
    rw [show u.length + q.length + r.length - u.length - q.length - r.length = 0 by omega]
    rfl
theorem bs_size (x : Bs) : (⟨x.toArray⟩ : ByteArray).size = x.length := by show x.toArray.size = _; rw [List.size_toArray]
/-- text.Rename: a text in which a label has another name. -/
theorem rename_any (s a b : Bs) (w : World) (hl : Lay w) (hs : s.length ≤ 100000000) (hln : (linesL s).length ≤ 20000) (hb : b.length ≤ 1000000) (bm n : Nat) (hm : MapS w bm n (fun z => if z = a then some b else none)) :
    Calls Tryd.prog 22 #[.string ⟨s.toArray⟩, .map (some bm)] w fun e w' => e = .returned (.string ⟨(renT s a b).toArray⟩) ∧ Chg (fun _ => False) w w' := by
  have hd : (ByteArray.data ⟨s.toArray⟩).toList = s := by simp
  have hz : (⟨s.toArray⟩ : ByteArray).size ≤ 100000000 := by
    show s.toArray.size ≤ _
    rw [List.size_toArray]; exact hs
  have HSP := hide (split_row ⟨s.toArray⟩ w hl (by omega))
  rw [hd] at HSP
  have HLE := hide (fun x (hx : x ∈ linesL s) => show x.length ≤ 100000000 from by
    have h1 := line_len hx
    omega)
  have HRT := hide (show renT s a b = joinL ((linesL s).map (renLine a b)) from rfl)
  generalize renT s a b = RT at *
  generalize linesL s = LS at *
  generalize (⟨s.toArray⟩ : ByteArray) = SS at *
  have HBK0 := hide (Blk.new w 9 (LS.map bv).toArray)
  have HC0 := hide ((Chg.refl (fun _ => False) w).alloc (.cells (LS.map bv).toArray 9))
  have HLY := hide (fun W (hW : Chg (fun _ => False) w W) => hl.chg hW (fun _ _ => id))
  have HM0 := hide hm
  have HBML := hide hm.lt
  have hVs : (⟨b.toArray⟩ : ByteArray).size ≤ 1000000 := by
    show b.toArray.size ≤ _
    rw [List.size_toArray]; exact hb
  clear hl hm hd hz hs
  go_enter Tryd.func22, Tryd.ntmps22
  go_wp2_with (go_at_call 40; (with_reducible refine (unhide HSP).mono ?_); rintro e w2 ⟨rfl, hw2⟩; subst hw2)
  obtain ⟨wa, hwa⟩ : ∃ wa, w.alloc (.cells (LS.map bv).toArray 9) = wa := ⟨_, rfl⟩
  have hbk0 := unhide HBK0
  have hc0 := unhide HC0
  rw [hwa] at hbk0 hc0 ⊢
  have HBK := hide hbk0
  have HCA := hide hc0
  have HMA := hide ((unhide HM0).chg hc0 id)
  clear HBK0 HC0 hbk0 hc0 hwa HSP HM0
  go_loopw [18] (fun i wr => ∃ k : Nat, i = .int .i64 (k : Int) ∧ k ≤ LS.length ∧ Blk wr w.heap.size 9 ((renA a b LS k).map bv).toArray ∧ Chg (fun j => j = w.heap.size) wa wr ∧ True) (fun i _ => LS.length - (intOf i).toNat)
  case atStart => exact ⟨0, rfl, Nat.zero_le _, by rw [renA_zero]; exact unhide HBK, Chg.refl _ _, trivial⟩
  case round =>
    obtain ⟨wq, rfl⟩ : ∃ wq : World, wq = wr := ⟨_, rfl⟩
    obtain ⟨k, rfl, hk, hblk, hch, _⟩ := hrel
    have HCH := hide hch
    have HBQ := hide hblk
    by_cases hlt : k < LS.length
    · have hki : (k : Int) < (LS.length : Int) := by omega
      have hx := List.getElem?_eq_getElem hlt
      generalize LS[k] = x at *
      have hxl := (unhide HLE) x (List.mem_of_getElem? hx)
      have HRK := hide (show ((renA a b LS k).map bv).toArray[k]? = some (.string ⟨x.toArray⟩) by rw [List.getElem?_toArray, List.getElem?_map, renA_at hx]; rfl)
      have k1 := hblk.cell' (unhide HRK)
      have HCW := hide (hch.trans (Chg.refl (fun _ => False) wq) (fun _ _ h => h.elim))
      have hcw : Chg (fun _ => False) w wq := (unhide HCA).trans hch (fun i hi h => by have : i = w.heap.size := h; omega)
      have HRE := hide (read_any x wq ((unhide HLY) _ hcw) hxl)
      have HMQ := hide ((unhide HMA).chg hch (show ¬ bm = w.heap.size by have := unhide HBML; omega))
      have HLB := hide (show (readL x).label.length ≤ 1000000000 from label_len hxl)
      have hkd3 := readL_kind x
      have HSPL := hide (ren_split x)
      have HNXT := hide (show renA a b LS (k + 1) = (renA a b LS k).set k (renLine a b x) from renA_next hx)
      have HNX := hide (fun (h : renLine a b x = x) => show renA a b LS (k + 1) = renA a b LS k from by rw [renA_next hx, h]; exact same_set (renA_at hx))
      obtain ⟨X0, hX0⟩ : ∃ X0, readL x = X0 := ⟨_, rfl⟩
      obtain ⟨kd, lb, at_, ii⟩ := X0
      have HYES := hide (fun h1 h2 h3 => ren_yes (a := a) (b := b) hX0 h1 h2 h3)
      have HNOT := hide (fun h => ren_no (a := a) (b := b) hX0 h)
      rw [hX0] at HRE HLB hkd3 HSPL
      unfold rdV insV at HRE
      obtain ⟨io, ia, ib⟩ := ii
      simp only at HRE hkd3 HLB HSPL
      have HKY := hide (key9 lb (unhide HLB))
      clear hch hblk hx hX0 hcw
      go_upto_region 6 with (go_at_call 41; (with_reducible refine (unhide HRE).mono ?_); rintro e w3 ⟨rfl, hc3⟩; have HC3 := hide hc3; clear hc3)
      obtain ⟨w4, hw4⟩ : ∃ w4, w3.alloc (.cells #[.int .i64 io, .int .i64 ia, .int .i64 ib] 42) = w4 := ⟨_, rfl⟩
      have hc4 : Chg (fun _ => False) w3 (w3.alloc (.cells #[.int .i64 io, .int .i64 ia, .int .i64 ib] 42)) := (Chg.refl _ w3).alloc _
      rw [hw4] at hc4 ⊢
      have HC34 := hide ((unhide HC3).trans' hc4)
      have HM4 := hide ((unhide HMQ).chg (unhide HC34) id)
      have HB4 := hide ((unhide HBQ).chg (unhide HC34) id)
      have HC4 := hide ((unhide HCH).trans (unhide HC34) (fun _ _ h => h.elim))
      clear hc4 hw4 HC3 HRE k1 HMQ HBQ HCH
      by_cases hab : lb = a
      · have HF1 := hide (show (if lb = a then some b else none).getD [] = b by rw [if_pos hab]; rfl)
        have HF2 := hide (show (if lb = a then some b else none).isSome = true by rw [if_pos hab]; rfl)
        have HAB := hide hab
        clear hab
        cases hbe : List.isEmpty lb with
        | true =>
          have HNO := hide (unhide HNOT (fun h => h.2.1 (List.isEmpty_iff.1 hbe)))
          obtain rfl | rfl | rfl | rfl : kd = 0 ∨ kd = 1 ∨ kd = 2 ∨ kd = 3 := by omega
          all_goals
            go_wp2_with (at_lookup; refine wpList_lookup_s rfl (.tmp 30) (.tmp 31) 49 rfl Tryd.underlying49 rfl (unhide HM4) _ lb rfl (unhide HKY) ?_; rw [unhide HF1, unhide HF2])
            go_roundw
            case rel =>
              refine ⟨k + 1, by go_num, by omega, ?_, unhide HC4, ?_⟩
              · rw [unhide HNX (unhide HNO)]; exact unhide HB4
              · trivial
            case measure => simp [intOf]; omega
        | false =>
          have hne : lb ≠ [] := fun e => by rw [e] at hbe; cases hbe
          have HNE := hide hne
          clear hne
          obtain rfl | rfl | rfl | rfl : kd = 0 ∨ kd = 1 ∨ kd = 2 ∨ kd = 3 := by omega
          · have HNO := hide (unhide HNOT (fun h => by omega))
            go_wp2_with (at_lookup; refine wpList_lookup_s rfl (.tmp 30) (.tmp 31) 49 rfl Tryd.underlying49 rfl (unhide HM4) _ lb rfl (unhide HKY) ?_; rw [unhide HF1, unhide HF2])
            go_roundw
            case rel =>
              refine ⟨k + 1, by go_num, by omega, ?_, unhide HC4, ?_⟩
              · rw [unhide HNX (unhide HNO)]; exact unhide HB4
              · trivial
            case measure => simp [intOf]; omega
          · have HNO := hide (unhide HNOT (fun h => by omega))
            go_wp2_with (at_lookup; refine wpList_lookup_s rfl (.tmp 30) (.tmp 31) 49 rfl Tryd.underlying49 rfl (unhide HM4) _ lb rfl (unhide HKY) ?_; rw [unhide HF1, unhide HF2])
            go_roundw
            case rel =>
              refine ⟨k + 1, by go_num, by omega, ?_, unhide HC4, ?_⟩
              · rw [unhide HNX (unhide HNO)]; exact unhide HB4
              · trivial
            case measure => simp [intOf]; omega
          · have hne := unhide HNE
            go_upto_region 8 with (at_lookup; refine wpList_lookup_s rfl (.tmp 30) (.tmp 31) 49 rfl Tryd.underlying49 rfl (unhide HM4) _ lb rfl (unhide HKY) ?_; rw [unhide HF1, unhide HF2])
            have hsp := unhide HSPL (by omega) hne
            rcases hsp with ⟨_, u, v, e, hat, hu, hcl⟩ | ⟨h3, _⟩
            · have HSK := hide (fun W => skip_at e hu hne hcl W)
              have hlx : u.length + lb.length ≤ x.length := by rw [e, List.length_append, List.length_append]; omega
              have hput := put_eq x b u.length (u.length + lb.length)
              rw [← hat, ← unhide HYES (by omega) hne (unhide HAB), hat, ← bs_size lb] at hput
              rw [← bs_size x] at hlx hxl
              rw [← bs_size lb] at hlx
              have HPUT := hide hput
              clear hput e hat hu hcl hne HSPL HYES HNOT HNX
              generalize u.length = ul at *
              generalize (⟨x.toArray⟩ : ByteArray) = X at *
              generalize (⟨lb.toArray⟩ : ByteArray) = L at *
              generalize (⟨b.toArray⟩ : ByteArray) = V at *
              go_upto_region 13 with (go_at_call 45; (with_reducible refine (unhide HSK _).mono ?_); rintro e w5 ⟨rfl, hc5⟩; have HC5 := hide hc5; clear hc5)
              have hb5 := (unhide HB4).chg (unhide HC5) id
              have c0 := hb5.cell' (i := k) (v := .string X) (unhide HRK)
              have f0 := hb5.frozen k
              have HC6 := hide (((((unhide HC4).trans (unhide HC5) (fun _ _ h => h.elim))).setCell (p := ⟨w.heap.size, k, none⟩) (fun _ => rfl) (.string (X.extract 0 (ul) ++ V ++ X.extract (ul + L.size) X.size))).drew)
              have HB6 := hide ((hb5.set_ k (.string (X.extract 0 (ul) ++ V ++ X.extract (ul + L.size) X.size))).drew)
              clear hb5 HSK
              refine r22_13 _ _ _ _ _ _ _ _ _ _ _ _ _ _ _ _ _ _ _ _ _ _ _ _ _ _ _ _ _ _ _ _ _ _ _ _ _ _ _ _ _ _ _ _ _ _ _ _ _ _ _ _ _ _ _ _ _ _ _ _ _ _ _ _ _ _ _ _ _ _ _ _ _ _ _ _ _ _ w5 w.heap.size LS.length k (ul) X L V hlt hki (by omega) (by omega) (by omega) (by omega) c0 f0 (by omega) (by omega) _ ?_
              intro y66 y67 y68 y69 y70 y71 y72 y73 y74 y75 y76 y77 y78 y79 y80
              have hb6 := unhide HB6
              have hc6 := unhide HC6
              generalize ((w5).setCell ⟨w.heap.size, k, none⟩ (.string (X.extract 0 (ul) ++ V ++ X.extract (ul + L.size) X.size))).drew = w9 at hb6 hc6 ⊢
              have HB9 := hide hb6
              have HC9 := hide hc6
              clear HB6 HC6 hb6 hc6 c0 f0
              go_wp2_with fail
              go_roundw
              case rel =>
                refine ⟨k + 1, by go_num, by omega, ?_, unhide HC9, trivial⟩
                have h := unhide HB9
                rw [unhide HPUT, List.setIfInBounds_toArray] at h
                rw [unhide HNXT, List.map_set]
                exact h
              case measure => simp [intOf]; omega
            · exact absurd h3 (by decide)
          · have hne := unhide HNE
            go_upto_region 8 with (at_lookup; refine wpList_lookup_s rfl (.tmp 30) (.tmp 31) 49 rfl Tryd.underlying49 rfl (unhide HM4) _ lb rfl (unhide HKY) ?_; rw [unhide HF1, unhide HF2])
            have hsp := unhide HSPL (by omega) hne
            rcases hsp with ⟨h3, _⟩ | ⟨_, u, q, r, v, rs, e, hat, hu, hr, hq, hcq, hcl, hwl⟩
            · exact absurd h3 (by decide)
            · have HSK := hide (fun W => skip_at e hu hq hcq W)
              have HW := hide (fun W (hW : Lay W) => words_row ⟨x.toArray⟩ W hW (by rw [bs_size]; omega))
              rw [show (ByteArray.data ⟨x.toArray⟩).toList = x by simp, words_fst hwl] at HW
              have hlx : u.length + q.length + r.length + lb.length ≤ x.length := by rw [e]; simp only [List.length_append]; omega
              have HBL := hide (fun m h1 h2 W => idx_at (m := m) (blank_at (m := m) e hr h1 h2) W)
              obtain ⟨c, hc, hc32⟩ := head_at e hne hcl
              have HHD := hide (fun W => idx_at hc W)
              have hcz : (((c.toNat : Int)) == 32) = false := beq_eq_false_iff_ne.2 (fun h => hc32 (UInt8.toNat_inj.1 (by show c.toNat = 32; omega)))
              have hput := put_eq x b (u.length + q.length + r.length) (u.length + q.length + r.length + lb.length)
              rw [← hat, ← unhide HYES (by omega) hne (unhide HAB), hat, ← bs_size lb] at hput
              rw [← bs_size x] at hlx hxl
              rw [← bs_size lb] at hlx
              have HPUT := hide hput
              clear hput e hat hu hcl hne HSPL HYES HNOT HNX hc hc32 hwl hq hcq hr
              generalize u.length = ul at *
              generalize r.length = rl at *
              generalize (⟨x.toArray⟩ : ByteArray) = X at *
              generalize (⟨lb.toArray⟩ : ByteArray) = L at *
              generalize (⟨b.toArray⟩ : ByteArray) = V at *
              generalize ((c.toNat : Int)) = cn at *
              have HLW := hide (fun W (hW : Chg (fun _ => False) w4 W) => ((unhide HLY) _ ((unhide HCA).trans (unhide HC4) (fun i hi h => by have : i = w.heap.size := h; omega))).chg hW (fun _ _ => id))
              go_upto_region 10 with (go_at_call 45; (with_reducible refine (unhide HSK _).mono ?_); rintro e w5 ⟨rfl, hc5⟩; have HC5 := hide hc5; clear hc5)
              have HW5 := hide (unhide HW _ (unhide HLW _ (unhide HC5)))
              clear HW HSK
              go_wp2_with (go_at_call 47; (refine (unhide HW5).mono ?_); rintro e w6 ⟨A, c6, rfl, hcc, hr6, hc6⟩; have HC6 := hide ((unhide HC5).trans' hc6); (obtain ⟨b6, o6, rfl, hT6, k6⟩ := row_head hr6); clear hcc hr6 hc6 hT6)
              generalize q.length = ql at *
              go_loopw [13] (fun fr wr2 => ∃ m : Nat, fr = .int .i64 (m : Int) ∧ ul + ql ≤ m ∧ m ≤ ul + ql + rl ∧ wr2 = w6) (fun fr _ => ul + ql + rl - (intOf fr).toNat)
              case atStart => exact ⟨ul + ql, by go_num, Nat.le_refl _, Nat.le_add_right _ _, rfl⟩
              case round =>
                obtain ⟨wv, rfl⟩ : ∃ wv : World, wv = wr := ⟨_, rfl⟩
                obtain ⟨m, rfl, hm1, hm2, hww⟩ := hrel
                subst hww
                by_cases hml : m < ul + ql + rl
                · have hix := fun W => unhide HBL m hm1 hml W
                  go_wp2_with fail
                  go_roundw
                  case rel => exact ⟨m + 1, by go_num, by omega, by omega, by first | rfl | trivial⟩
                  case measure => simp [intOf]; omega
                · obtain rfl : m = ul + ql + rl := by omega
                  have hix := fun W => unhide HHD W
                  clear HBL HHD hml hm1 hm2
                  obtain ⟨fm, hfm⟩ : ∃ fm, ul + ql + rl = fm := ⟨_, rfl⟩
                  rw [hfm] at hix HPUT hlx
                  rw [hfm]
                  go_upto_region 13 with fail
                  have hb5 := (unhide HB4).chg (unhide HC6) id
                  have c0 := hb5.cell' (i := k) (v := .string X) (unhide HRK)
                  have f0 := hb5.frozen k
                  have HC6 := hide (((((unhide HC4).trans (unhide HC6) (fun _ _ h => h.elim))).setCell (p := ⟨w.heap.size, k, none⟩) (fun _ => rfl) (.string (X.extract 0 (fm) ++ V ++ X.extract (fm + L.size) X.size))).drew)
                  have HB6 := hide ((hb5.set_ k (.string (X.extract 0 (fm) ++ V ++ X.extract (fm + L.size) X.size))).drew)
                  clear hb5 k6
                  refine r22_13 _ _ _ _ _ _ _ _ _ _ _ _ _ _ _ _ _ _ _ _ _ _ _ _ _ _ _ _ _ _ _ _ _ _ _ _ _ _ _ _ _ _ _ _ _ _ _ _ _ _ _ _ _ _ _ _ _ _ _ _ _ _ _ _ _ _ _ _ _ _ _ _ _ _ _ _ _ _ wv w.heap.size LS.length k (fm) X L V hlt hki (by omega) (by omega) (by omega) (by omega) c0 f0 (by omega) (by omega) _ ?_
                  intro y66 y67 y68 y69 y70 y71 y72 y73 y74 y75 y76 y77 y78 y79 y80
                  have hb6 := unhide HB6
                  have hc6 := unhide HC6
                  generalize ((wv).setCell ⟨w.heap.size, k, none⟩ (.string (X.extract 0 (fm) ++ V ++ X.extract (fm + L.size) X.size))).drew = w9 at hb6 hc6 ⊢
                  have HB9 := hide hb6
                  have HC9 := hide hc6
                  clear HB6 HC6 hb6 hc6 c0 f0
                  go_wp2_with fail
                  go_roundw
                  case rel =>
                    refine ⟨k + 1, by go_num, by omega, ?_, unhide HC9, trivial⟩
                    have h := unhide HB9
                    rw [unhide HPUT, List.setIfInBounds_toArray] at h
                    rw [unhide HNXT, List.map_set]
                    exact h
                  case measure => simp [intOf]; omega
      · have HF1 := hide (show (if lb = a then some b else none).getD [] = [] by rw [if_neg hab]; rfl)
        have HF2 := hide (show (if lb = a then some b else none).isSome = false by rw [if_neg hab]; rfl)
        have HNO := hide (unhide HNOT (fun h => hab h.2.2))
        clear hab
        cases hbe : List.isEmpty lb with
        | true =>
          obtain rfl | rfl | rfl | rfl : kd = 0 ∨ kd = 1 ∨ kd = 2 ∨ kd = 3 := by omega
          all_goals
            go_wp2_with (at_lookup; refine wpList_lookup_s rfl (.tmp 30) (.tmp 31) 49 rfl Tryd.underlying49 rfl (unhide HM4) _ lb rfl (unhide HKY) ?_; rw [unhide HF1, unhide HF2])
            go_roundw
            case rel =>
              refine ⟨k + 1, by go_num, by omega, ?_, unhide HC4, ?_⟩
              · rw [unhide HNX (unhide HNO)]; exact unhide HB4
              · trivial
            case measure => simp [intOf]; omega
        | false =>
          obtain rfl | rfl | rfl | rfl : kd = 0 ∨ kd = 1 ∨ kd = 2 ∨ kd = 3 := by omega
          all_goals
            go_wp2_with (at_lookup; refine wpList_lookup_s rfl (.tmp 30) (.tmp 31) 49 rfl Tryd.underlying49 rfl (unhide HM4) _ lb rfl (unhide HKY) ?_; rw [unhide HF1, unhide HF2])
            go_roundw
            case rel =>
              refine ⟨k + 1, by go_num, by omega, ?_, unhide HC4, ?_⟩
              · rw [unhide HNX (unhide HNO)]; exact unhide HB4
              · trivial
            case measure => simp [intOf]; omega
    · obtain rfl : k = LS.length := by omega
      have hcw : Chg (fun _ => False) w wq := (unhide HCA).trans hch (fun i hi h => by have : i = w.heap.size := h; omega)
      rw [renA_end] at hblk
      have HJN := hide (show Calls Tryd.prog 48 #[.slice (some ⟨w.heap.size, 0, none⟩) LS.length LS.length, .string ⟨#[10]⟩] wq fun e w' => e = .returned (.string ⟨RT.toArray⟩) ∧ Chg (fun _ => False) w w' from by
        obtain ⟨xs, hxs⟩ : ∃ xs : List ByteArray, (LS.map (renLine a b)).map (fun x => (⟨x.toArray⟩ : ByteArray)) = xs := ⟨_, rfl⟩
        have hxl : xs.length = LS.length := by rw [← hxs, List.length_map, List.length_map]
        have hjn : Lib.join (xs.map (·.data.toList)) (ByteArray.data ⟨#[10]⟩).toList = RT := by
          rw [unhide HRT, ← join_joinL, ← hxs, List.map_map]
          congr 1
          rw [List.map_congr_left (g := id) (fun x _ => by simp), List.map_id]
        have hlen := joinL_len 101000000 (LS.map (renLine a b)) (fun y hy => by
          obtain ⟨x, hx, rfl⟩ := List.mem_map.1 hy
          have h1 := renLine_len a b x
          have h2 := unhide HLE x hx
          omega)
        rw [← unhide HRT, List.length_map] at hlen
        have h := Tryd.strings_Join w.heap.size 0 LS.length xs ⟨#[10]⟩ wq (fun j x hx => by
          rw [Nat.zero_add]
          refine hblk.cell' ?_
          rw [← hxs, List.getElem?_map] at hx
          rw [List.getElem?_toArray, List.getElem?_map]
          cases hy : (LS.map (renLine a b))[j]? with
          | none => rw [hy] at hx; cases hx
          | some y => rw [hy] at hx; injection hx with hx; subst hx; rfl) hblk.lt (by omega) (by omega) (by rw [hjn]; omega)
        rw [hjn, hxl] at h
        exact h.mono fun e w' ⟨h1, h2⟩ => ⟨h1, hcw.trans' (Chg.of_below h2 _)⟩)
      clear hblk hch hcw HBQ HCH
      go_wp2_with (go_at_call 48; (with_reducible refine (unhide HJN).mono ?_); rintro e w3 ⟨rfl, hc3⟩; have HC3 := hide hc3; clear hc3)
      go_ret
      exact ⟨rfl, unhide HC3⟩
end Go.Proofs.YtgonllogaiiicaaDoor
