/-
  Layer 23, the document's side: what is still to be read; a number is taken. Layer 23, the document's side: how many there are in a row; a text is taken. Layer 23, the document's side: a type is taken.
-/
import Derived.Test.YtinekmjengckdaaGreatDoorA30
import Derived.Test.YtinekmjengckdaaGreatDoorA16
import Derived.Deep.QuietTactic
import Derived.BigQuiet
import Derived.RegionTactic
import Derived.Test.YtinekmjengckdaaGreatDoorA31
namespace Go.Proofs.YtinekmjengckdaaGreatDoor
open Go.RowKit
set_option maxHeartbeats 4000000
set_option maxRecDepth 100000
def rstV (s : ByteArray) (b : Bool) : Option (List UInt8) := if b then none else some s.data.toList
def GotD {α : Type} (p : Tk α) (ok : α → Prop) (R : Nat → World → Value → α → Prop) (st : Option (List UInt8)) (w : World) (e : Ending) (w' : World) : Prop :=
  ∃ v x s b, e = .returned (.tuple #[v, .agg #[.string s, .bool b]]) ∧ R w.heap.size w' v x ∧ ok x ∧ s.size ≤ 800000000 ∧ Chg (fun _ => False) w w' ∧ NextSt p st x (rstV s b)
def RNum (_ : Nat) (_ : World) (v : Value) (n : Nat) : Prop := v = .int .i64 (n : Int)
def RStr (_ : Nat) (_ : World) (v : Value) (x : ByteArray) : Prop := v = .string x
theorem NextSt.bad {α : Type} {p : Tk α} {s t : ByteArray} {x : α} (h : p s.data.toList = none) : NextSt p (rstV s false) x (rstV t true) := by
  unfold NextSt
  have e : (rstV s false).bind p = none := h
  rw [e]
  rfl
theorem NextSt.was {α : Type} {p : Tk α} {s t : ByteArray} {x : α} : NextSt p (rstV s true) x (rstV t true) := rfl
theorem NextSt.good {α : Type} {p : Tk α} {s t : ByteArray} {x : α} (h : p s.data.toList = some (x, t.data.toList)) : NextSt p (rstV s false) x (rstV t false) := by
  unfold NextSt
  have e : (rstV s false).bind p = some (x, t.data.toList) := h
  rw [e]
  exact ⟨rfl, rfl⟩
theorem pNum_short {m : Nat} {s : ByteArray} (h : s.size < m) : pNum m s.data.toList = none := by
  unfold pNum
  rw [if_pos (by rw [toList_size]; exact h)]
theorem pNum_long {m : Nat} {s : ByteArray} (h : m ≤ s.size) : pNum m s.data.toList = some (valB (s.data.toList.take m), (s.extract m s.size).data.toList) := by
  unfold pNum
  rw [if_neg (by rw [toList_size]; omega), ext_list, List.take_of_length_le (l := s.data.toList.drop m) (by rw [List.length_drop, toList_size]; omega)]
theorem valB_step {l : List UInt8} {m k : Nat} {b : UInt8} (h : l[k]? = some b) (hk : k < m) : valB ((l.take m).drop k) = b.toNat + 256 * valB ((l.take m).drop (k + 1)) := by
  have h1 : (l.take m)[k]? = some b := by rw [List.getElem?_take_of_lt hk]; exact h
  obtain ⟨h2, h3⟩ := List.getElem?_eq_some_iff.1 h1
  rw [List.drop_eq_getElem_cons h2, h3]
  rfl
theorem valB_small {l : List UInt8} {m k : Nat} (hm : m ≤ 4) : valB ((l.take m).drop k) < 4294967296 := by
  have h := valB_lt ((l.take m).drop k)
  have hl : ((l.take m).drop k).length ≤ 4 := by rw [List.length_drop, List.length_take]; omega
  exact Nat.lt_of_lt_of_le h (Nat.pow_le_pow_right (by decide) hl)
theorem valB_num {s : ByteArray} {m : Nat} (h : m ≤ s.size) : valB (s.data.toList.take m) < 256 ^ m := by
  have h1 := valB_lt (s.data.toList.take m)
  rw [List.length_take, toList_size, Nat.min_eq_left h] at h1
  exact h1
theorem ext_le {s : ByteArray} {a b N : Nat} (h : s.size ≤ N) : (s.extract a b).size ≤ N := by
  have e := ext_list s a b
  have h1 := congrArg List.length e
  rw [toList_size, List.length_take, List.length_drop, toList_size] at h1
  omega
theorem num_next {b : UInt8} {V X : Nat} (h : X = b.toNat + 256 * V ∧ V < 4294967296 ∧ X < 4294967296) : Value.int .i64 (wrap64 (wrap64 (256 * (V : Int)) + wrap64 (b.toNat : Int))) = .int .i64 (X : Int) := by
  have hb := b.toNat_lt
  rw [w64 (256 * (V : Int)) (by omega), w64 (b.toNat : Int) (by omega), w64 _ (by omega)]
  congr 1
  omega
theorem refNum_any (m : Nat) (s : ByteArray) (b : Bool) (w : World) (hs : s.size ≤ 800000000) (h1 : 1 ≤ m) (hm : m ≤ 4) :
    Calls Tryz.prog 68 #[.agg #[.string s, .bool b], .int .i64 (m : Int)] w (GotD (pNum m) (fun n => n < 256 ^ m) RNum (rstV s b) w) := by
  have hb := (Blk.new w 104 #[.string s, .bool b]).alloc (.cells #[.string ⟨#[]⟩, .bool false] 104)
  have hr := Blk.new_at (w.alloc (.cells #[.string s, .bool b] 104)) (w.heap.size + 1) 104 #[.string ⟨#[]⟩, .bool false] (size_alloc _ _).symm
  have hc0 : Chg (fun _ => False) w ((w.alloc (.cells #[.string s, .bool b] 104)).alloc (.cells #[.string ⟨#[]⟩, .bool false] 104)) := ((Chg.refl _ w).alloc _).alloc _
  have q0 := hb.cell 0
  have q1 := hb.cell 1
  have r0 := hr.cell 0
  have r1 := hr.cell 1
  have f0 := hr.frozen 0
  have f1 := hr.frozen 1
  simp only [List.getElem?_toArray, List.getElem?_cons_zero, List.getElem?_cons_succ] at q0 q1 r0 r1
  have HC0 := hH hc0
  have HR := hH hr
  have HPOS := hH (show 0 < 256 ^ m from Nat.pow_pos (by decide))
  have hmi : (1 : Int) ≤ (m : Int) := by omega
  clear hb hr hc0
  cases b
  · by_cases hsz : s.size < m
    · have hsz' : (s.size : Int) < (m : Int) := by omega
      have HP := hH (pNum_short hsz)
      have hp := Blk.new_at (w.alloc (.cells #[.string s, .bool false] 104)) (w.heap.size + 1) 104 #[.string ⟨#[]⟩, .bool true] (size_alloc _ _).symm
      have p0 := hp.cell 0
      have p1 := hp.cell 1
      simp only [List.getElem?_toArray, List.getElem?_cons_zero, List.getElem?_cons_succ] at p0 p1
      have HC1 := hH (show Chg (fun _ => False) w ((w.alloc (.cells #[.string s, .bool false] 104)).alloc (.cells #[.string ⟨#[]⟩, .bool true] 104)) from ((Chg.refl _ w).alloc _).alloc _)
      clear hp hsz
      go_enter Tryz.func68, Tryz.ntmps68
      go_wp2_with fail
      exact bodyPost_ret (v := .tuple #[.int .i64 0, .agg #[.string ⟨#[]⟩, .bool true]]) (by simp [results, Tryz.results68, go_sem, p0, p1]) rfl ⟨_, 0, ⟨#[]⟩, true, rfl, rfl, uH HPOS, by decide, uH HC1, NextSt.bad (uH HP)⟩
    · have hsz' : ¬ (s.size : Int) < (m : Int) := by omega
      have hms : m ≤ s.size := by omega
      have HP := hH (pNum_long hms)
      have HV0 := hH (show valB ((s.data.toList.take m).drop m) = 0 by
        rw [List.drop_eq_nil_of_le (by rw [List.length_take]; omega)]
        rfl)
      have HVS := hH (fun (k : Nat) (hk : k < m) => valB_step (l := s.data.toList) (m := m) (k := k) (b := s[k]'(by omega)) (by rw [List.getElem?_eq_getElem (by rw [toList_size]; omega)]; rfl) hk)
      have HVL := hH (fun k => valB_small (l := s.data.toList) (m := m) (k := k) hm)
      have HVE := hH (show valB ((s.data.toList.take m).drop 0) = valB (s.data.toList.take m) by rw [List.drop_zero])
      generalize hW : (w.alloc (.cells #[.string s, .bool false] 104)).alloc (.cells #[.string ⟨#[]⟩, .bool false] 104) = W at *
      have HW := hH hW
      clear hW
      go_enter Tryz.func68, Tryz.ntmps68
      go_upto_region 3 with fail
      rw [uH HW]
      go_wp2_with fail
      go_loopw [6, 7] (fun n i wr => ∃ (k : Nat) (j : Int), i = .int .i64 j ∧ j = (k : Int) - 1 ∧ k ≤ m ∧ n = .int .i64 (valB ((s.data.toList.take m).drop k) : Int) ∧ wr = W) (fun _ i _ => (intOf i + 1).toNat)
      case atStart => exact ⟨m, _, rfl, rfl, Nat.le_refl _, by rw [uH HV0]; rfl, rfl⟩
      case round =>
        obtain ⟨k, j, rfl, hj, hk, rfl, rfl⟩ := hrel
        rcases k with _ | k
        · obtain rfl : j = -1 := by omega
          clear hj
          rw [uH HVE]
          have hms2 : (m : Int) ≤ (s.size : Int) := by omega
          have hm0 : (0 : Int) ≤ (m : Int) := by omega
          go_wp2_with fail
          go_region
          have hp := (((uH HR).set_ 0 (.string (s.extract m s.size))).set_ 1 (.bool false)).drew
          have HC5 := hH ((((uH HC0).setCell (p := ⟨w.heap.size + 1, 0, none⟩) (fun h => by dsimp only at h; omega) (.string (s.extract m s.size))).setCell (p := ⟨w.heap.size + 1, 1, none⟩) (fun h => by dsimp only at h; omega) (.bool false)).drew)
          generalize ((wr.setCell ⟨w.heap.size + 1, 0, none⟩ (.string (s.extract m s.size))).setCell ⟨w.heap.size + 1, 1, none⟩ (.bool false)).drew = W5 at *
          have p0 := hp.cell 0
          have p1 := hp.cell 1
          simp only [List.setIfInBounds_toArray, List.set_cons_zero, List.set_cons_succ, List.getElem?_toArray, List.getElem?_cons_zero, List.getElem?_cons_succ] at p0 p1
          clear hp
          go_wp2_with fail
          exact bodyPost_ret (v := .tuple #[.int .i64 (valB (s.data.toList.take m) : Int), .agg #[.string (s.extract m s.size), .bool false]]) (by simp [results, Tryz.results68, go_sem, p0, p1]) rfl ⟨_, _, _, _, rfl, rfl, valB_num hms, ext_le hs, uH HC5, NextSt.good (uH HP)⟩
        · obtain rfl : j = (k : Int) := by omega
          clear hj
          have hv1 := uH HVS k (by omega)
          have hv2 := uH HVL (k + 1)
          have hv3 := uH HVL k
          have hks : (k : Int) < (s.size : Int) := by omega
          have hkn : k < s.size := by omega
          generalize valB ((s.data.toList.take m).drop (k + 1)) = V at *
          have HV1 := hH (And.intro hv1 (And.intro hv2 hv3))
          clear hv1 hv2 hv3
          go_wp2_with fail
          go_roundw
          case rel =>
            exact ⟨k, _, rfl, rfl, by omega, num_next (uH HV1), by first | rfl | trivial⟩
          case measure => simp [intOf]
  · have hp := Blk.new_at (w.alloc (.cells #[.string s, .bool true] 104)) (w.heap.size + 1) 104 #[.string ⟨#[]⟩, .bool true] (size_alloc _ _).symm
    have p0 := hp.cell 0
    have p1 := hp.cell 1
    simp only [List.getElem?_toArray, List.getElem?_cons_zero, List.getElem?_cons_succ] at p0 p1
    have HC1 := hH (show Chg (fun _ => False) w ((w.alloc (.cells #[.string s, .bool true] 104)).alloc (.cells #[.string ⟨#[]⟩, .bool true] 104)) from ((Chg.refl _ w).alloc _).alloc _)
    clear hp
    go_enter Tryz.func68, Tryz.ntmps68
    go_wp2_with fail
    exact bodyPost_ret (v := .tuple #[.int .i64 0, .agg #[.string ⟨#[]⟩, .bool true]]) (by simp [results, Tryz.results68, go_sem, p0, p1]) rfl ⟨_, 0, ⟨#[]⟩, true, rfl, rfl, uH HPOS, by decide, uH HC1, NextSt.was⟩
theorem refNum_1 (s : ByteArray) (b : Bool) (w : World) (hs : s.size ≤ 800000000) : Calls Tryz.prog 68 #[.agg #[.string s, .bool b], .int .i64 1] w (GotD (pNum 1) (fun n => n < 256) RNum (rstV s b) w) := refNum_any 1 s b w hs (by decide) (by decide)
theorem refNum_2 (s : ByteArray) (b : Bool) (w : World) (hs : s.size ≤ 800000000) : Calls Tryz.prog 68 #[.agg #[.string s, .bool b], .int .i64 2] w (GotD (pNum 2) (fun n => n < 65536) RNum (rstV s b) w) := refNum_any 2 s b w hs (by decide) (by decide)
theorem refNum_4 (s : ByteArray) (b : Bool) (w : World) (hs : s.size ≤ 800000000) : Calls Tryz.prog 68 #[.agg #[.string s, .bool b], .int .i64 4] w (GotD (pNum 4) (fun n => n < 4294967296) RNum (rstV s b) w) := refNum_any 4 s b w hs (by decide) (by decide)
end Go.Proofs.YtinekmjengckdaaGreatDoor

namespace Go.Proofs.YtinekmjengckdaaGreatDoor
open Go.RowKit
set_option maxHeartbeats 4000000
set_option maxRecDepth 100000
def someN (n : Nat) : Tk Nat := fun r => if 4000 < n then none else some (n, r)
def manyN : Tk Nat := seqT (pNum 2) someN
theorem someN_bad {n : Nat} (h : 4000 < n) (st : Option (List UInt8)) (x : Nat) : NextSt (someN n) st x none := by
  cases st with
  | none => rfl
  | some r =>
    unfold NextSt
    have e : (some r).bind (someN n) = none := by show someN n r = none; unfold someN; rw [if_pos h]
    rw [e]
theorem someN_good {n : Nat} (h : ¬ 4000 < n) (st : Option (List UInt8)) : NextSt (someN n) st n st := by
  cases st with
  | none => rfl
  | some r =>
    unfold NextSt
    have e : (some r).bind (someN n) = some (n, r) := by show someN n r = _; unfold someN; rw [if_neg h]
    rw [e]
    exact ⟨rfl, rfl⟩
theorem row_of_many {α : Type} {p : Tk α} {n : Nat} {l : List α} {st st1 st2 : Option (List UInt8)} (h1 : NextSt manyN st n st1) (h2 : NextSt (manyT p n) st1 l st2) : NextSt (pRow p) st l st2 := by
  cases st with
  | none =>
    have e : st1 = none := h1
    subst e
    exact h2
  | some r =>
    unfold NextSt at h1 ⊢
    rw [Option.bind_some] at h1 ⊢
    unfold manyN at h1
    unfold pRow
    cases e : pNum 2 r with
    | none =>
      rw [seqT_none e] at h1 ⊢
      have e1 : st1 = none := h1
      subst e1
      exact h2
    | some y =>
      rw [seqT_run (x := y.1) (r := y.2) e] at h1 ⊢
      unfold someN at h1
      by_cases h4 : 4000 < y.1
      · rw [if_pos h4] at h1
        have e1 : st1 = none := h1
        subst e1
        have e2 : manyT p y.1 y.2 = none := by unfold manyT; rw [if_pos h4]
        rw [e2]
        exact h2
      · rw [if_neg h4] at h1
        obtain ⟨rfl, rfl⟩ := h1
        exact h2
theorem textT_short {n : Nat} {s : ByteArray} (h : s.size < n) : textT n s.data.toList = none := by
  unfold textT
  rw [if_pos (by rw [toList_size]; exact h)]
theorem textT_long {n : Nat} {s : ByteArray} (h : n ≤ s.size) : textT n s.data.toList = some (s.extract 0 n, (s.extract n s.size).data.toList) := by
  unfold textT
  have e : (⟨(s.data.toList.take n).toArray⟩ : ByteArray) = s.extract 0 n := by
    apply ByteArray.ext
    apply Array.toList_inj.1
    rw [ext_list]
    simp
  rw [if_neg (by rw [toList_size]; omega), ext_list s n, List.take_of_length_le (l := s.data.toList.drop n) (by rw [List.length_drop, toList_size]; omega), e]
theorem ext_size {s : ByteArray} {n : Nat} (h : n ≤ s.size) : (s.extract 0 n).size = n := by
  have e := ext_list s 0 n
  have h1 := congrArg List.length e
  rw [toList_size, List.length_take, List.length_drop, toList_size] at h1
  omega
theorem put2 {W : World} {g : Nat} {t : TypeId} {a0 b0 : Value} (h : Blk W g t #[a0, b0]) (a b : Value) : Blk ((W.setCell ⟨g, 0, none⟩ a).setCell ⟨g, 1, none⟩ b) g t #[a, b] ∧ Chg (· = g) W ((W.setCell ⟨g, 0, none⟩ a).setCell ⟨g, 1, none⟩ b) :=
  ⟨(h.set_ 0 a).set_ 1 b, ((Chg.refl (· = g) W).setCell (p := ⟨g, 0, none⟩) (fun _ => rfl) a).setCell (p := ⟨g, 1, none⟩) (fun _ => rfl) b⟩
theorem refMany_any (s : ByteArray) (b : Bool) (w : World) (hs : s.size ≤ 800000000) :
    Calls Tryz.prog 67 #[.agg #[.string s, .bool b]] w (GotD manyN (fun n => n ≤ 4000) RNum (rstV s b) w) := by
  have hb := (Blk.new w 104 #[.string s, .bool b]).alloc (.cells #[.string ⟨#[]⟩, .bool false] 104)
  have hr := Blk.new_at (w.alloc (.cells #[.string s, .bool b] 104)) (w.heap.size + 1) 104 #[.string ⟨#[]⟩, .bool false] (size_alloc _ _).symm
  have hc0 : Chg (fun _ => False) w ((w.alloc (.cells #[.string s, .bool b] 104)).alloc (.cells #[.string ⟨#[]⟩, .bool false] 104)) := ((Chg.refl _ w).alloc _).alloc _
  have HN := hH (refNum_2 s b ((w.alloc (.cells #[.string s, .bool b] 104)).alloc (.cells #[.string ⟨#[]⟩, .bool false] 104)) hs)
  have q0 := hb.cell 0
  have q1 := hb.cell 1
  simp only [List.getElem?_toArray, List.getElem?_cons_zero, List.getElem?_cons_succ] at q0 q1
  have HC0 := hH hc0
  have HB := hH hb
  have HR := hH hr
  clear hb hr hc0
  go_enter Tryz.func67, Tryz.ntmps67
  go_upto_region 2 with (go_at_call 68; refine (uH HN).mono ?_; rintro e w2 ⟨v, n, s1, b1, rfl, rfl, hok, hs1, hc2, hnx⟩; have HOK := hH (And.intro hok (And.intro hs1 hnx)); have HC2 := hH ((uH HC0).trans' hc2); have HB2 := hH ((uH HB).chg hc2 id); have HR2 := hH ((uH HR).chg hc2 id); have q2 := (uH HB2).cell 0; have q3 := (uH HB2).cell 1; have f2 := (uH HB2).frozen 0; have f3 := (uH HB2).frozen 1; simp only [List.getElem?_toArray, List.getElem?_cons_zero, List.getElem?_cons_succ] at q2 q3; clear q0 q1 hok hs1 hc2 hnx)
  obtain ⟨hb5, hc5⟩ := put2 (uH HB2) (.string s1) (.bool b1)
  have HB5 := hH hb5
  have HR5 := hH ((uH HR2).chg hc5 (by omega))
  have HC5 := hH ((uH HC2).trans hc5 (fun j hj e => by omega))
  generalize (w2.setCell ⟨w.heap.size, 0, none⟩ (.string s1)).setCell ⟨w.heap.size, 1, none⟩ (.bool b1) = W5 at *
  obtain ⟨hok, hs1, hnx⟩ := uH HOK
  clear hb5 hc5 q2 q3 f2 f3 HB2 HR2 HOK
  have q0 := (uH HB5).cell 0
  have q1 := (uH HB5).cell 1
  have r0 := (uH HR5).cell 0
  have r1 := (uH HR5).cell 1
  have f0 := (uH HR5).frozen 0
  have f1 := (uH HR5).frozen 1
  simp only [List.getElem?_toArray, List.getElem?_cons_zero, List.getElem?_cons_succ] at q0 q1 r0 r1
  by_cases h4 : 4000 < n
  · have h4' : (4000 : Int) < (n : Int) := by omega
    have HX := hH (NextSt.seq hnx (someN_bad h4 _ 0))
    obtain ⟨hp, hcp⟩ := put2 (uH HR5) (.string ⟨#[]⟩) (.bool true)
    have HC7 := hH ((uH HC5).trans hcp (fun j hj e => by omega))
    clear hnx h4 hcp
    go_wp2_with fail
    generalize (W5.setCell ⟨w.heap.size + 1, 0, none⟩ (.string ⟨#[]⟩)).setCell ⟨w.heap.size + 1, 1, none⟩ (.bool true) = W7 at *
    have p0 := hp.cell 0
    have p1 := hp.cell 1
    simp only [List.getElem?_toArray, List.getElem?_cons_zero, List.getElem?_cons_succ] at p0 p1
    exact bodyPost_ret (v := .tuple #[.int .i64 0, .agg #[.string ⟨#[]⟩, .bool true]]) (by simp [results, Tryz.results67, go_sem, p0, p1]) rfl ⟨_, 0, ⟨#[]⟩, true, rfl, rfl, Nat.zero_le _, by decide, uH HC7, uH HX⟩
  · have h4' : ¬ (4000 : Int) < (n : Int) := by omega
    have HX := hH (NextSt.seq hnx (someN_good h4 _))
    have HOK := hH (show n ≤ 4000 by omega)
    obtain ⟨hp, hcp⟩ := put2 (uH HR5) (.string s1) (.bool b1)
    have HC7 := hH (((uH HC5).trans hcp (fun j hj e => by omega)).drew)
    have hp := hp.drew
    clear hnx h4 hcp
    go_wp2_with fail
    go_region
    generalize ((W5.setCell ⟨w.heap.size + 1, 0, none⟩ (.string s1)).setCell ⟨w.heap.size + 1, 1, none⟩ (.bool b1)).drew = W7 at *
    have p0 := hp.cell 0
    have p1 := hp.cell 1
    simp only [List.getElem?_toArray, List.getElem?_cons_zero, List.getElem?_cons_succ] at p0 p1
    clear hp
    go_wp2_with fail
    exact bodyPost_ret (v := .tuple #[.int .i64 (n : Int), .agg #[.string s1, .bool b1]]) (by simp [results, Tryz.results67, go_sem, p0, p1]) rfl ⟨_, n, s1, b1, rfl, rfl, uH HOK, hs1, uH HC7, uH HX⟩
theorem refStr_any (s : ByteArray) (b : Bool) (w : World) (hs : s.size ≤ 800000000) :
    Calls Tryz.prog 66 #[.agg #[.string s, .bool b]] w (GotD pText (fun x => x.size < 65536) RStr (rstV s b) w) := by
  have hb := (Blk.new w 104 #[.string s, .bool b]).alloc (.cells #[.string ⟨#[]⟩, .bool false] 104)
  have hr := Blk.new_at (w.alloc (.cells #[.string s, .bool b] 104)) (w.heap.size + 1) 104 #[.string ⟨#[]⟩, .bool false] (size_alloc _ _).symm
  have hc0 : Chg (fun _ => False) w ((w.alloc (.cells #[.string s, .bool b] 104)).alloc (.cells #[.string ⟨#[]⟩, .bool false] 104)) := ((Chg.refl _ w).alloc _).alloc _
  have HN := hH (refNum_2 s b ((w.alloc (.cells #[.string s, .bool b] 104)).alloc (.cells #[.string ⟨#[]⟩, .bool false] 104)) hs)
  have q0 := hb.cell 0
  have q1 := hb.cell 1
  simp only [List.getElem?_toArray, List.getElem?_cons_zero, List.getElem?_cons_succ] at q0 q1
  have HC0 := hH hc0
  have HB := hH hb
  have HR := hH hr
  clear hb hr hc0
  go_enter Tryz.func66, Tryz.ntmps66
  go_upto_region 2 with (go_at_call 68; refine (uH HN).mono ?_; rintro e w2 ⟨v, n, s1, b1, rfl, rfl, hok, hs1, hc2, hnx⟩; have HOK := hH (And.intro hok (And.intro hs1 hnx)); have HC2 := hH ((uH HC0).trans' hc2); have HB2 := hH ((uH HB).chg hc2 id); have HR2 := hH ((uH HR).chg hc2 id); have q2 := (uH HB2).cell 0; have q3 := (uH HB2).cell 1; have f2 := (uH HB2).frozen 0; have f3 := (uH HB2).frozen 1; simp only [List.getElem?_toArray, List.getElem?_cons_zero, List.getElem?_cons_succ] at q2 q3; clear q0 q1 hok hs1 hc2 hnx)
  obtain ⟨hb5, hc5⟩ := put2 (uH HB2) (.string s1) (.bool b1)
  have HB5 := hH hb5
  have HR5 := hH ((uH HR2).chg hc5 (by omega))
  have HC5 := hH ((uH HC2).trans hc5 (fun j hj e => by omega))
  generalize (w2.setCell ⟨w.heap.size, 0, none⟩ (.string s1)).setCell ⟨w.heap.size, 1, none⟩ (.bool b1) = W5 at *
  obtain ⟨hok, hs1, hnx⟩ := uH HOK
  clear hb5 hc5 q2 q3 f2 f3 HB2 HR2 HOK
  have q0 := (uH HB5).cell 0
  have q1 := (uH HB5).cell 1
  have r0 := (uH HR5).cell 0
  have r1 := (uH HR5).cell 1
  have f0 := (uH HR5).frozen 0
  have f1 := (uH HR5).frozen 1
  simp only [List.getElem?_toArray, List.getElem?_cons_zero, List.getElem?_cons_succ] at q0 q1 r0 r1
  have hbad : ∀ (hn : NextSt (textT n) (rstV s1 b1) ⟨#[]⟩ none), NextSt pText (rstV s b) ⟨#[]⟩ (rstV ⟨#[]⟩ true) := fun hn => NextSt.seq hnx hn
  cases b1
  · by_cases h4 : s1.size < n
    · have h4' : (s1.size : Int) < (n : Int) := by omega
      have HX := hH (hbad (NextSt.bad (t := ⟨#[]⟩) (textT_short h4)))
      obtain ⟨hp, hcp⟩ := put2 (uH HR5) (.string ⟨#[]⟩) (.bool true)
      have HC7 := hH ((uH HC5).trans hcp (fun j hj e => by omega))
      clear hnx h4 hcp hbad
      go_wp2_with fail
      generalize (W5.setCell ⟨w.heap.size + 1, 0, none⟩ (.string ⟨#[]⟩)).setCell ⟨w.heap.size + 1, 1, none⟩ (.bool true) = W7 at *
      have p0 := hp.cell 0
      have p1 := hp.cell 1
      simp only [List.getElem?_toArray, List.getElem?_cons_zero, List.getElem?_cons_succ] at p0 p1
      exact bodyPost_ret (v := .tuple #[.string ⟨#[]⟩, .agg #[.string ⟨#[]⟩, .bool true]]) (by simp [results, Tryz.results66, go_sem, p0, p1]) rfl ⟨_, ⟨#[]⟩, ⟨#[]⟩, true, rfl, rfl, by decide, by decide, uH HC7, uH HX⟩
    · have h4' : ¬ (s1.size : Int) < (n : Int) := by omega
      have h5' : (n : Int) ≤ (s1.size : Int) := by omega
      have h6' : n ≤ s1.size := by omega
      have hn0 : (0 : Int) ≤ (n : Int) := by omega
      have HX := hH (show NextSt pText (rstV s b) (s1.extract 0 n) (rstV (s1.extract n s1.size) false) from NextSt.seq hnx (NextSt.good (textT_long h6')))
      have HOK := hH (show (s1.extract 0 n).size < 65536 by rw [ext_size h6']; exact hok)
      have HOK2 := hH (ext_le (a := n) (b := s1.size) hs1)
      obtain ⟨hp, hcp⟩ := put2 (uH HR5) (.string (s1.extract n s1.size)) (.bool false)
      have HC7 := hH (((uH HC5).trans hcp (fun j hj e => by omega)).drew)
      have hp := hp.drew
      clear hnx h4 hcp hbad
      go_wp2_with fail
      go_region
      generalize ((W5.setCell ⟨w.heap.size + 1, 0, none⟩ (.string (s1.extract n s1.size))).setCell ⟨w.heap.size + 1, 1, none⟩ (.bool false)).drew = W7 at *
      have p0 := hp.cell 0
      have p1 := hp.cell 1
      simp only [List.getElem?_toArray, List.getElem?_cons_zero, List.getElem?_cons_succ] at p0 p1
      clear hp
      go_wp2_with fail
      exact bodyPost_ret (v := .tuple #[.string (s1.extract 0 n), .agg #[.string (s1.extract n s1.size), .bool false]]) (by simp [results, Tryz.results66, go_sem, p0, p1]) rfl ⟨_, s1.extract 0 n, s1.extract n s1.size, false, rfl, rfl, uH HOK, uH HOK2, uH HC7, uH HX⟩
  · have HX := hH (hbad rfl)
    obtain ⟨hp, hcp⟩ := put2 (uH HR5) (.string ⟨#[]⟩) (.bool true)
    have HC7 := hH ((uH HC5).trans hcp (fun j hj e => by omega))
    clear hnx hcp hbad
    go_wp2_with fail
    generalize (W5.setCell ⟨w.heap.size + 1, 0, none⟩ (.string ⟨#[]⟩)).setCell ⟨w.heap.size + 1, 1, none⟩ (.bool true) = W7 at *
    have p0 := hp.cell 0
    have p1 := hp.cell 1
    simp only [List.getElem?_toArray, List.getElem?_cons_zero, List.getElem?_cons_succ] at p0 p1
    exact bodyPost_ret (v := .tuple #[.string ⟨#[]⟩, .agg #[.string ⟨#[]⟩, .bool true]]) (by simp [results, Tryz.results66, go_sem, p0, p1]) rfl ⟨_, ⟨#[]⟩, ⟨#[]⟩, true, rfl, rfl, by decide, by decide, uH HC7, uH HX⟩
end Go.Proofs.YtinekmjengckdaaGreatDoor

namespace Go.Proofs.YtinekmjengckdaaGreatDoor
open Go.RowKit
set_option maxHeartbeats 4000000
set_option maxRecDepth 100000
def RTyp (base : Nat) (W : World) (v : Value) (x : List Nd) : Prop := RdN (fun b => base ≤ b) W v x ∧ capOk v
theorem nd4_snoc (l : List Nd) (x : Nd) : (l ++ [x]).flatMap nd4 = l.flatMap nd4 ++ [.int .i64 x.kind, .string x.text, .int .i64 x.num, .int .i64 x.kids] := by
  rw [List.flatMap_append]
  simp [nd4]
theorem next_var {s1 s2 s3 : Option (List UInt8)} {y : Nat} (h1 : NextSt (pNum 1) s1 0 s2) (h2 : NextSt (pNum 4) s2 y s3) : NextSt pNode s1 ⟨31, ⟨#[]⟩, (y : Int), 0⟩ s3 := by
  refine NextSt.seq (q := nodeT) h1 ?_
  unfold nodeT
  rw [if_pos rfl]
  exact h2.map (fun (y : Nat) => (⟨31, ⟨#[]⟩, (y : Int), 0⟩ : Nd))
theorem next_con {s1 s2 s3 s4 : Option (List UInt8)} {n y : Nat} {x : ByteArray} (hn : ¬ n = 0) (h1 : NextSt (pNum 1) s1 n s2) (h2 : NextSt pText s2 x s3) (h3 : NextSt (pNum 1) s3 y s4) : NextSt pNode s1 ⟨32, x, 0, (y : Int)⟩ s4 := by
  refine NextSt.seq (q := nodeT) h1 ?_
  unfold nodeT
  rw [if_neg hn]
  exact NextSt.seq h2 (h3.map (fun (z : Nat) => (⟨32, x, 0, (z : Int)⟩ : Nd)))
theorem refNodes_any (s : ByteArray) (b : Bool) (w : World) (hs : s.size ≤ 800000000) :
    Calls Tryz.prog 70 #[.agg #[.string s, .bool b]] w (GotD pTyp (fun x => x.length ≤ 4000 ∧ ∀ n ∈ x, ndOk n) RTyp (rstV s b) w) := by
  obtain ⟨i_, hi, hz, hsz_, hbb⟩ := info_parts infoNd
  have hb := (Blk.new w 104 #[.string s, .bool b]).alloc (.cells #[.string ⟨#[]⟩, .bool false] 104)
  have hr := Blk.new_at (w.alloc (.cells #[.string s, .bool b] 104)) (w.heap.size + 1) 104 #[.string ⟨#[]⟩, .bool false] (size_alloc _ _).symm
  have hc0 : Chg (fun _ => False) w ((w.alloc (.cells #[.string s, .bool b] 104)).alloc (.cells #[.string ⟨#[]⟩, .bool false] 104)) := ((Chg.refl _ w).alloc _).alloc _
  have HN := hH (refMany_any s b ((w.alloc (.cells #[.string s, .bool b] 104)).alloc (.cells #[.string ⟨#[]⟩, .bool false] 104)) hs)
  have q0 := hb.cell 0
  have q1 := hb.cell 1
  simp only [List.getElem?_toArray, List.getElem?_cons_zero, List.getElem?_cons_succ] at q0 q1
  have HC0 := hH hc0
  have HB := hH hb
  have HR := hH hr
  have HZ0 := hH (show w.heap.size + 2 = ((w.alloc (.cells #[.string s, .bool b] 104)).alloc (.cells #[.string ⟨#[]⟩, .bool false] 104)).heap.size by rw [size_alloc, size_alloc])
  clear hb hr hc0
  go_enter Tryz.func70, Tryz.ntmps70
  go_upto_region 2 with (go_at_call 67; refine (uH HN).mono ?_; rintro e w2 ⟨v, n, s1, b1, rfl, rfl, hok, hs1, hc2, hnx⟩; have HOK := hH (And.intro hs1 hnx); have HLO := hH (show w.heap.size + 2 ≤ w2.heap.size from by have := hc2.size; have := uH HZ0; omega); have HC2 := hH ((uH HC0).trans' hc2); have HB2 := hH ((uH HB).chg hc2 id); have HR2 := hH ((uH HR).chg hc2 id); have q0 := (uH HB2).cell 0; have q1 := (uH HB2).cell 1; simp only [List.getElem?_toArray, List.getElem?_cons_zero, List.getElem?_cons_succ] at q0 q1; have f2 := (uH HB2).frozen 0; have f3 := (uH HB2).frozen 1; clear hs1 hc2 hnx)
  obtain ⟨hb5, hc5⟩ := put2 (uH HB2) (.string s1) (.bool b1)
  have HB5 := hH hb5
  have HR5 := hH ((uH HR2).chg hc5 (by omega))
  have HC5 := hH ((uH HC2).trans hc5 (fun j hj e => by omega))
  have HL5 := hH (show w.heap.size + 2 ≤ ((w2.setCell ⟨w.heap.size, 0, none⟩ (.string s1)).setCell ⟨w.heap.size, 1, none⟩ (.bool b1)).heap.size from by rw [size_set, size_set]; exact uH HLO)
  generalize (w2.setCell ⟨w.heap.size, 0, none⟩ (.string s1)).setCell ⟨w.heap.size, 1, none⟩ (.bool b1) = W5 at *
  obtain ⟨hs1, hnx⟩ := uH HOK
  have HNX := hH hnx
  have hn4 : (n : Int) ≤ 4000 := by omega
  clear hb5 hc5 q0 q1 f2 f3 HB2 HR2 HOK hnx HLO
  have HO0 := hH (own_start (base := W5.heap.size) (size := 4) (Blk.new W5 59 #[]) (Nat.le_refl _))
  have HBA := hH ((uH HB5).alloc (.cells #[] 59))
  have HRA := hH ((uH HR5).alloc (.cells #[] 59))
  have HCA := hH ((uH HC5).alloc (.cells #[] 59))
  have HMA := hH (ManyAt.start (p := pNode) (n := n) (st0 := rstV s1 b1) hok)
  go_wp2_with fail
  go_loopw [5, 6] (fun out i wr => ∃ (k : Nat) (l : List Nd) (s2 : ByteArray) (b2 : Bool), i = .int .i64 (k : Int) ∧ k ≤ n ∧ l.length = k ∧ s2.size ≤ 800000000 ∧ Blk wr w.heap.size 104 #[.string s2, .bool b2] ∧ Blk wr (w.heap.size + 1) 104 #[.string ⟨#[]⟩, .bool false] ∧ wr.ownsRow W5.heap.size 59 4 out k (l.flatMap nd4) ∧ Chg (fun _ => False) w wr ∧ (∀ x ∈ l, ndOk x) ∧ W5.heap.size ≤ wr.heap.size ∧ ManyAt pNode n (rstV s1 b1) k l (rstV s2 b2)) (fun _ i _ => n - (intOf i).toNat)
  case atStart => exact ⟨0, [], s1, b1, rfl, Nat.zero_le _, rfl, hs1, uH HBA, uH HRA, uH HO0, uH HCA, fun _ h => absurd h List.not_mem_nil, by rw [size_alloc]; omega, uH HMA⟩
  case round =>
    clear HO0 HBA HRA HCA HMA
    obtain ⟨wq, rfl⟩ : ∃ wq : World, wq = wr := ⟨_, rfl⟩
    obtain ⟨k, l, s2, b2, rfl, hk, hll, hs2, hbx, hrs, hown, hch, hokl, hlo, hma⟩ := hrel
    obtain ⟨OA, oc, rfl⟩ := own_val hown
    have q0 := hbx.cell 0
    have q1 := hbx.cell 1
    simp only [List.getElem?_toArray, List.getElem?_cons_zero, List.getElem?_cons_succ] at q0 q1
    have HBX := hH hbx
    have HRS := hH hrs
    have HOWN := hH hown
    have HCH := hH hch
    have HMA := hH hma
    have HLW := hH hlo
    have HOKL := hH hokl
    have HL5' := uH HL5
    have hlt0 : w.heap.size < wq.heap.size := by omega
    clear hbx hrs hown hch hma hokl HL5'
    by_cases hend : b2 = true ∨ n ≤ k
    · have HFIN := hH (row_of_many (uH HNX) ((uH HMA).fin (hend.imp (fun h => by rw [h]; rfl) id)))
      have hgu : ¬ (k : Int) < (n : Int) ∨ ((k : Int) < (n : Int) ∧ b2 = true) := by
        rcases hend with h | h
        · by_cases h2 : k < n
          · exact .inr ⟨by omega, h⟩
          · exact .inl (by omega)
        · exact .inl (by omega)
      clear hend
      obtain ⟨hp, hcp⟩ := put2 (uH HRS) (.string s2) (.bool b2)
      have HC7 := hH (((uH HCH).trans hcp (fun j hj e => by omega)).drew)
      have hp := hp.drew
      have HO7 := hH (own_chg (uH HOWN) hcp.drew (fun j hj e => by have := ((uH HOWN).lt j hj).1; have := uH HL5; omega))
      have r0 := (uH HRS).cell 0
      have r1 := (uH HRS).cell 1
      have f0 := (uH HRS).frozen 0
      have f1 := (uH HRS).frozen 1
      simp only [List.getElem?_toArray, List.getElem?_cons_zero, List.getElem?_cons_succ] at r0 r1
      clear hcp
      rcases hgu with hgu | ⟨hgu, rfl⟩
      all_goals
        go_wp2_with fail
        go_region
        generalize ((wq.setCell ⟨w.heap.size + 1, 0, none⟩ (.string s2)).setCell ⟨w.heap.size + 1, 1, none⟩ _).drew = W7 at *
        have p0 := hp.cell 0
        have p1 := hp.cell 1
        simp only [List.getElem?_toArray, List.getElem?_cons_zero, List.getElem?_cons_succ] at p0 p1
        have hrn : RdN (fun b => w.heap.size ≤ b) W7 (.slice OA l.length oc) l := RdN.mk (by
          by_cases h0 : l.length = 0
          · obtain rfl := List.eq_nil_of_length_eq_zero h0
            exact Rd.nil_ _ _ _
          · have ho := uH HO7
            rw [← hll] at ho
            exact (own_rd ho (by omega)).mono (fun j hj => by have := (ho.lt j hj).1; have := uH HL5; omega)) (uH HOKL) (by omega)
        rw [hll] at hrn
        have hcap := own_cap (uH HO7)
        clear hp
        go_wp2_with fail
        exact bodyPost_ret (v := .tuple #[.slice OA k oc, .agg #[.string s2, .bool _]]) (by simp [results, Tryz.results70, go_sem, p0, p1]) rfl ⟨_, l, s2, _, rfl, ⟨hrn, hcap⟩, ⟨by omega, uH HOKL⟩, hs2, uH HC7, uH HFIN⟩
    · have hkn : k < n := by omega
      have hki : (k : Int) < (n : Int) := by omega
      obtain rfl : b2 = false := by
        cases b2
        · rfl
        · exact absurd (.inl rfl) hend
      clear hend
      have HN1 := hH (refNum_1 s2 false wq hs2)
      have f0 := (uH HBX).frozen 0
      have f1 := (uH HBX).frozen 1
      go_upto_region 8 with (go_at_call 68; refine (uH HN1).mono ?_; rintro e w3 ⟨v, n0, s3, b3, rfl, rfl, hok3, hs3, hc3, hnx3⟩; have HNX3 := hH hnx3; have HZ3 := hH hc3.size; have hc3' := (Chg.refl (fun _ => False) wq).trans' (hc3.alloc (.cells #[.string s3, .bool b3] 104)); have hb3 := (uH HBX).chg hc3' id; have g0 := hb3.cell 0; have g1 := hb3.cell 1; have f2 := hb3.frozen 0; have f3 := hb3.frozen 1; have hx3 := Blk.new w3 104 #[.string s3, .bool b3]; have e0 := hx3.cell 0; have e1 := hx3.cell 1; simp only [List.getElem?_toArray, List.getElem?_cons_zero, List.getElem?_cons_succ] at g0 g1 e0 e1; have HB3 := hH hb3; have HC3 := hH hc3'; clear hnx3 hc3 hc3' hb3 hx3 q0 q1 f0 f1)
      obtain ⟨hb4, hc4⟩ := put2 (uH HB3) (.string s3) (.bool b3)
      have HB4 := hH hb4
      have HC4 := hH (((uH HC3).mono (fun _ _ h => h.elim)).trans' (S := (· = w.heap.size)) hc4)
      have HZ4 := hH (show wq.heap.size < (((w3.alloc (.cells #[.string s3, .bool b3] 104)).setCell ⟨w.heap.size, 0, none⟩ (.string s3)).setCell ⟨w.heap.size, 1, none⟩ (.bool b3)).heap.size from by rw [size_set, size_set, size_alloc]; have := uH HZ3; omega)
      generalize ((w3.alloc (.cells #[.string s3, .bool b3] 104)).setCell ⟨w.heap.size, 0, none⟩ (.string s3)).setCell ⟨w.heap.size, 1, none⟩ (.bool b3) = W8 at *
      clear hb4 hc4 g0 g1 e0 e1 f2 f3 HB3 HC3 HN1
      have HX8 := hH (Blk.new W8 59 #[.int .i64 31, .string ⟨#[]⟩, .int .i64 0, .int .i64 0])
      have HB9 := hH ((uH HB4).alloc (.cells #[.int .i64 31, .string ⟨#[]⟩, .int .i64 0, .int .i64 0] 59))
      have HC9 := hH ((uH HC4).alloc (.cells #[.int .i64 31, .string ⟨#[]⟩, .int .i64 0, .int .i64 0] 59))
      have HZ9 := hH (show wq.heap.size < (W8.alloc (.cells #[.int .i64 31, .string ⟨#[]⟩, .int .i64 0, .int .i64 0] 59)).heap.size from by rw [size_alloc]; have := uH HZ4; omega)
      go_upto_region 9 with fail
      generalize hG9 : W8.heap.size = g9 at *
      have HG9 := hH (show wq.heap.size < g9 from uH HZ4)
      generalize W8.alloc (.cells #[.int .i64 31, .string ⟨#[]⟩, .int .i64 0, .int .i64 0] 59) = W9 at *
      clear hG9
      have q0 := (uH HB9).cell 0
      have q1 := (uH HB9).cell 1
      simp only [List.getElem?_toArray, List.getElem?_cons_zero, List.getElem?_cons_succ] at q0 q1
      clear HB4 HC4
      by_cases hn0 : n0 = 0
      · subst hn0
        have HN4 := hH (refNum_4 s3 b3 W9 hs3)
        go_upto_region 11 with (go_at_call 68; refine (uH HN4).mono ?_; rintro e w4 ⟨v, y, s4, b4, rfl, rfl, hok4, hs4, hc4, hnx4⟩; have HNX4 := hH hnx4; have HOK4 := hH hok4; have HZ10 := hH hc4.size; have hc4' := (Chg.refl (fun _ => False) W9).trans' (hc4.alloc (.cells #[.string s4, .bool b4] 104)); have HBE := hH ((uH HB9).chg hc4' id); have HXE := hH ((uH HX8).chg hc4' id); have HC10 := hH ((uH HC9).trans' (hc4'.mono (fun _ _ h => h.elim))); have hx4 := Blk.new w4 104 #[.string s4, .bool b4]; have e0 := hx4.cell 0; have e1 := hx4.cell 1; have g0 := (uH HBE).cell 0; have g1 := (uH HBE).cell 1; have f0 := (uH HBE).frozen 0; have f1 := (uH HBE).frozen 1; have x2 := (uH HXE).cell 2; have f2 := (uH HXE).frozen 2; simp only [List.getElem?_toArray, List.getElem?_cons_zero, List.getElem?_cons_succ] at e0 e1 g0 g1 x2; clear hnx4 hc4 hc4' hx4 q0 q1)
        have hne1 : ¬ w.heap.size = g9 := by have := uH HG9; omega
        have hne2 : ¬ g9 = w.heap.size := by have := uH HG9; omega
        have hne3 : ¬ g9 = w4.heap.size := by have := (uH HX8).lt; have := uH HZ10; omega
        have hne4 : ¬ w.heap.size = w4.heap.size := by have := uH HZ10; have := uH HZ9; omega
        generalize w4.alloc (.cells #[.string s4, .bool b4] 104) = W10 at *
        go_region
        have hx11 := (((((uH HXE).set_ 2 (.int .i64 (y : Int))).far (p := ⟨w.heap.size, 0, none⟩) hne2 (.string s4)).far (p := ⟨w.heap.size, 1, none⟩) hne2 (.bool b4)).drew)
        have hb11 := (((((uH HBE).far (p := ⟨g9, 2, none⟩) hne1 (.int .i64 (y : Int))).set_ 0 (.string s4)).set_ 1 (.bool b4)).drew)
        have hc11 := ((((uH HC10).setCell (p := ⟨g9, 2, none⟩) (fun h => by dsimp only at h; have := uH HG9; omega) (.int .i64 (y : Int))).setCell (p := ⟨w.heap.size, 0, none⟩) (fun _ => rfl) (.string s4)).setCell (p := ⟨w.heap.size, 1, none⟩) (fun _ => rfl) (.bool b4)).drew
        generalize (((W10.setCell ⟨g9, 2, none⟩ (.int .i64 (y : Int))).setCell ⟨w.heap.size, 0, none⟩ (.string s4)).setCell ⟨w.heap.size, 1, none⟩ (.bool b4)).drew = W11 at *
        have HX := hH (next_var (uH HNX3) (uH HNX4))
        simp only [List.setIfInBounds_toArray, List.set_cons_zero, List.set_cons_succ] at hx11 hb11
        have HRS11 := hH ((uH HRS).chg hc11 (by omega))
        have hown11 := own_chg (uH HOWN) hc11 (fun j hj e => by have := ((uH HOWN).lt j hj).1; have := uH HL5; omega)
        have HOW := hH (hown11.alloc (.cells #[.int .i64 31, .string ⟨#[]⟩, .int .i64 (y : Int), .int .i64 0] 59))
        have HRN := hH ((rd_new W11 W11.heap.size 59 [.int .i64 31, .string ⟨#[]⟩, .int .i64 (y : Int), .int .i64 0] rfl).mono (T' := fun _ => True) (fun _ _ => trivial))
        have hbw : W5.heap.size ≤ (W11.alloc (.cells #[.int .i64 31, .string ⟨#[]⟩, .int .i64 (y : Int), .int .i64 0] 59)).heap.size := by rw [size_alloc]; have := hc11.size; have := uH HLW; omega
        have HLO11 := hH (fun j hj => (hown11.lt j hj).1)
        have HB11 := hH (hb11.alloc (.cells #[.int .i64 31, .string ⟨#[]⟩, .int .i64 (y : Int), .int .i64 0] 59))
        have HR11 := hH ((uH HRS11).alloc (.cells #[.int .i64 31, .string ⟨#[]⟩, .int .i64 (y : Int), .int .i64 0] 59))
        have HC11 := hH (((uH HCH).trans hc11 (fun j hj e => by omega)).alloc (.cells #[.int .i64 31, .string ⟨#[]⟩, .int .i64 (y : Int), .int .i64 0] 59))
        have x0 := hx11.cell 0
        have x1 := hx11.cell 1
        have x2 := hx11.cell 2
        have x3 := hx11.cell 3
        simp only [List.getElem?_toArray, List.getElem?_cons_zero, List.getElem?_cons_succ] at x0 x1 x2 x3
        have hm1 : k + 1 ≤ maxLen := by simp only [maxLen]; omega
        have hm2 : (k + 1) * 40 ≤ 140737488355328 := by omega
        clear hx11 hb11 hc11 hown11 HRS11
        go_wp2_with (at_builtin
                     refine wpList_append_rd _ rfl (.tmp 63) (.tmp 65) 54 rfl W5.heap.size 59 i_ (.agg #[.int .i64 0, .string ⟨#[]⟩, .int .i64 0, .int .i64 0]) 4 40 Tryz.underlying54 hi hz hsz_ hbb rfl (by decide) _ k _ rfl (uH HOW) (fun _ => True) (some ⟨W11.heap.size, 0, none⟩) 1 1 [.int .i64 31, .string ⟨#[]⟩, .int .i64 (y : Int), .int .i64 0] rfl rfl (uH HRN) (by intro u hu; simp at hu; rcases hu with rfl | rfl | rfl | rfl <;> rfl) hm1 hm2 hbw ?_
                     intro v7 w7 ho7 hc7 hat
                     have HO7 := hH ho7
                     have HB7 := hH ((uH HB11).chg hc7 (fun e => by have := (uH HLO11) _ e; have := uH HL5; omega))
                     have HR7 := hH ((uH HR11).chg hc7 (fun e => by have := (uH HLO11) _ e; have := uH HL5; omega))
                     have HC7 := hH ((uH HC11).trans hc7 (fun i hi e => by have := (uH HLO11) i e; have := uH HL5; omega))
                     have HZ7 := hH (Nat.le_trans hbw hc7.size)
                     clear ho7 hc7 hat)
        go_roundw
        case rel =>
          refine ⟨k + 1, l ++ [⟨31, ⟨#[]⟩, (y : Int), 0⟩], s4, b4, by go_num, by omega, by rw [List.length_append, hll]; rfl, hs4, uH HB7, uH HR7, ?_, uH HC7, fun y hy => ?_, uH HZ7, ManyAt.step (r := s2.data.toList) (show ManyAt pNode n (rstV s1 b1) k l (some s2.data.toList) from uH HMA) hkn (show NextSt pNode (some s2.data.toList) ⟨31, ⟨#[]⟩, (y : Int), 0⟩ (rstV s4 b4) from uH HX)⟩
          · rw [nd4_snoc]
            exact uH HO7
          · rcases List.mem_append.1 hy with hy | hy
            · exact uH HOKL y hy
            · obtain rfl := List.mem_singleton.1 hy
              first | (show (⟨#[]⟩ : ByteArray).size ≤ 9223372036854775807; decide) | exact Nat.le_trans (Nat.le_of_lt (uH HOKT)) (by decide)
        case measure => simp [intOf]; omega
      · have HN4 := hH (refStr_any s3 b3 W9 hs3)
        have hnb : (n0 : Int) ≠ 0 := by omega
        have hnb1 : ((n0 : Int) == 0) = false := beq_eq_false_iff_ne.2 hnb
        have HN0 := hH hn0
        clear hn0 hnb
        go_upto_region 13 with (go_at_call 66; refine (uH HN4).mono ?_; rintro e w4 ⟨v, x4, s4, b4, rfl, rfl, hok4, hs4, hc4, hnx4⟩; have HNX4 := hH hnx4; have HOKT := hH hok4; have HZ10 := hH hc4.size; have hc4' := (Chg.refl (fun _ => False) W9).trans' (hc4.alloc (.cells #[.string s4, .bool b4] 104)); have HBD := hH ((uH HB9).chg hc4' id); have HXD := hH ((uH HX8).chg hc4' id); have HCD := hH ((uH HC9).trans' (hc4'.mono (fun _ _ h => h.elim))); have hx4 := Blk.new w4 104 #[.string s4, .bool b4]; have e0 := hx4.cell 0; have e1 := hx4.cell 1; simp only [List.getElem?_toArray, List.getElem?_cons_zero, List.getElem?_cons_succ] at e0 e1; clear hnx4 hc4 hc4' hx4 q0 q1)
        have HN5 := hH (refNum_1 s4 b4 (w4.alloc (.cells #[.string s4, .bool b4] 104)) hs4)
        have HZ11 := hH (show w4.heap.size < (w4.alloc (.cells #[.string s4, .bool b4] 104)).heap.size by rw [size_alloc]; omega)
        generalize w4.alloc (.cells #[.string s4, .bool b4] 104) = W10 at *
        go_upto_region 14 with (go_at_call 68; refine (uH HN5).mono ?_; rintro e w5 ⟨v, y, s5, b5, rfl, rfl, hok5, hs5, hc5, hnx5⟩; have HNX5 := hH hnx5; have HOK5 := hH hok5; have HZ12 := hH hc5.size; have hc5' := (Chg.refl (fun _ => False) W10).trans' (hc5.alloc (.cells #[.string s5, .bool b5] 104)); have HBE := hH ((uH HBD).chg hc5' id); have HXE := hH ((uH HXD).chg hc5' id); have HC10 := hH ((uH HCD).trans' (hc5'.mono (fun _ _ h => h.elim))); have hx5 := Blk.new w5 104 #[.string s5, .bool b5]; clear e0 e1; have e0 := hx5.cell 0; have e1 := hx5.cell 1; have g0 := (uH HBE).cell 0; have g1 := (uH HBE).cell 1; have f0 := (uH HBE).frozen 0; have f1 := (uH HBE).frozen 1; have x0 := (uH HXE).cell 0; have x1 := (uH HXE).cell 1; have x2 := (uH HXE).cell 2; have x3 := (uH HXE).cell 3; have y0 := (uH HXE).frozen 0; have y1 := (uH HXE).frozen 1; have y2 := (uH HXE).frozen 2; have y3 := (uH HXE).frozen 3; simp only [List.getElem?_toArray, List.getElem?_cons_zero, List.getElem?_cons_succ] at e0 e1 g0 g1 x0 x1 x2 x3; clear hnx5 hc5 hc5' hx5)
        have hne1 : ¬ w.heap.size = g9 := by have := uH HG9; omega
        have hne2 : ¬ g9 = w.heap.size := by have := uH HG9; omega
        have hne3 : ¬ g9 = w5.heap.size := by have := (uH HX8).lt; have := uH HZ10; have := uH HZ11; have := uH HZ12; omega
        have hne4 : ¬ w.heap.size = w5.heap.size := by have := uH HZ10; have := uH HZ9; have := uH HZ11; have := uH HZ12; omega
        generalize w5.alloc (.cells #[.string s5, .bool b5] 104) = W12 at *
        go_region
        have hx11 := (((((((uH HXE).set_ 0 (.int .i64 32)).set_ 1 (.string x4)).set_ 2 (.int .i64 0)).set_ 3 (.int .i64 (y : Int))).far (p := ⟨w.heap.size, 0, none⟩) hne2 (.string s5)).far (p := ⟨w.heap.size, 1, none⟩) hne2 (.bool b5)).drew
        have hb11 := (((((((uH HBE).far (p := ⟨g9, 0, none⟩) hne1 (.int .i64 32)).far (p := ⟨g9, 1, none⟩) hne1 (.string x4)).far (p := ⟨g9, 2, none⟩) hne1 (.int .i64 0)).far (p := ⟨g9, 3, none⟩) hne1 (.int .i64 (y : Int))).set_ 0 (.string s5)).set_ 1 (.bool b5)).drew
        have hgn : ∀ h : g9 < wq.heap.size, g9 = w.heap.size := fun h => by have := uH HG9; omega
        have hc11 := (((((((uH HC10).setCell (p := ⟨g9, 0, none⟩) hgn (.int .i64 32)).setCell (p := ⟨g9, 1, none⟩) hgn (.string x4)).setCell (p := ⟨g9, 2, none⟩) hgn (.int .i64 0)).setCell (p := ⟨g9, 3, none⟩) hgn (.int .i64 (y : Int))).setCell (p := ⟨w.heap.size, 0, none⟩) (fun _ => rfl) (.string s5)).setCell (p := ⟨w.heap.size, 1, none⟩) (fun _ => rfl) (.bool b5)).drew
        generalize ((((((W12.setCell ⟨g9, 0, none⟩ (.int .i64 32)).setCell ⟨g9, 1, none⟩ (.string x4)).setCell ⟨g9, 2, none⟩ (.int .i64 0)).setCell ⟨g9, 3, none⟩ (.int .i64 (y : Int))).setCell ⟨w.heap.size, 0, none⟩ (.string s5)).setCell ⟨w.heap.size, 1, none⟩ (.bool b5)).drew = W11 at *
        have HX := hH (next_con (uH HN0) (uH HNX3) (uH HNX4) (uH HNX5))
        clear x0 x1 x2 x3 y0 y1 y2 y3 e0 e1 g0 g1 f0 f1
        simp only [List.setIfInBounds_toArray, List.set_cons_zero, List.set_cons_succ] at hx11 hb11
        have HRS11 := hH ((uH HRS).chg hc11 (by omega))
        have hown11 := own_chg (uH HOWN) hc11 (fun j hj e => by have := ((uH HOWN).lt j hj).1; have := uH HL5; omega)
        have HOW := hH (hown11.alloc (.cells #[.int .i64 32, .string x4, .int .i64 0, .int .i64 (y : Int)] 59))
        have HRN := hH ((rd_new W11 W11.heap.size 59 [.int .i64 32, .string x4, .int .i64 0, .int .i64 (y : Int)] rfl).mono (T' := fun _ => True) (fun _ _ => trivial))
        have hbw : W5.heap.size ≤ (W11.alloc (.cells #[.int .i64 32, .string x4, .int .i64 0, .int .i64 (y : Int)] 59)).heap.size := by rw [size_alloc]; have := hc11.size; have := uH HLW; omega
        have HLO11 := hH (fun j hj => (hown11.lt j hj).1)
        have HB11 := hH (hb11.alloc (.cells #[.int .i64 32, .string x4, .int .i64 0, .int .i64 (y : Int)] 59))
        have HR11 := hH ((uH HRS11).alloc (.cells #[.int .i64 32, .string x4, .int .i64 0, .int .i64 (y : Int)] 59))
        have HC11 := hH (((uH HCH).trans hc11 (fun j hj e => by omega)).alloc (.cells #[.int .i64 32, .string x4, .int .i64 0, .int .i64 (y : Int)] 59))
        have x0 := hx11.cell 0
        have x1 := hx11.cell 1
        have x2 := hx11.cell 2
        have x3 := hx11.cell 3
        simp only [List.getElem?_toArray, List.getElem?_cons_zero, List.getElem?_cons_succ] at x0 x1 x2 x3
        have hm1 : k + 1 ≤ maxLen := by simp only [maxLen]; omega
        have hm2 : (k + 1) * 40 ≤ 140737488355328 := by omega
        clear hx11 hb11 hc11 hown11 HRS11
        go_wp2_with (at_builtin
                     refine wpList_append_rd _ rfl (.tmp 63) (.tmp 65) 54 rfl W5.heap.size 59 i_ (.agg #[.int .i64 0, .string ⟨#[]⟩, .int .i64 0, .int .i64 0]) 4 40 Tryz.underlying54 hi hz hsz_ hbb rfl (by decide) _ k _ rfl (uH HOW) (fun _ => True) (some ⟨W11.heap.size, 0, none⟩) 1 1 [.int .i64 32, .string x4, .int .i64 0, .int .i64 (y : Int)] rfl rfl (uH HRN) (by intro u hu; simp at hu; rcases hu with rfl | rfl | rfl | rfl <;> rfl) hm1 hm2 hbw ?_
                     intro v7 w7 ho7 hc7 hat
                     have HO7 := hH ho7
                     have HB7 := hH ((uH HB11).chg hc7 (fun e => by have := (uH HLO11) _ e; have := uH HL5; omega))
                     have HR7 := hH ((uH HR11).chg hc7 (fun e => by have := (uH HLO11) _ e; have := uH HL5; omega))
                     have HC7 := hH ((uH HC11).trans hc7 (fun i hi e => by have := (uH HLO11) i e; have := uH HL5; omega))
                     have HZ7 := hH (Nat.le_trans hbw hc7.size)
                     clear ho7 hc7 hat)
        go_roundw
        case rel =>
          refine ⟨k + 1, l ++ [⟨32, x4, 0, (y : Int)⟩], s5, b5, by go_num, by omega, by rw [List.length_append, hll]; rfl, hs5, uH HB7, uH HR7, ?_, uH HC7, fun y hy => ?_, uH HZ7, ManyAt.step (r := s2.data.toList) (show ManyAt pNode n (rstV s1 b1) k l (some s2.data.toList) from uH HMA) hkn (show NextSt pNode (some s2.data.toList) ⟨32, x4, 0, (y : Int)⟩ (rstV s5 b5) from uH HX)⟩
          · rw [nd4_snoc]
            exact uH HO7
          · rcases List.mem_append.1 hy with hy | hy
            · exact uH HOKL y hy
            · obtain rfl := List.mem_singleton.1 hy
              first | (show (⟨#[]⟩ : ByteArray).size ≤ 9223372036854775807; decide) | exact Nat.le_trans (Nat.le_of_lt (uH HOKT)) (by decide)
        case measure => simp [intOf]; omega
end Go.Proofs.YtinekmjengckdaaGreatDoor
