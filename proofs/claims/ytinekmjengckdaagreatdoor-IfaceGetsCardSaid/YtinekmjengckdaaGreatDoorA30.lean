/-
  Layer 23: what reads bytes: how it stands; a text and a number are taken. Copies of rows: append onto a fresh empty row. Layer 23: what reads bytes: texts, rows.
-/
import Derived.Test.YtinekmjengckdaaGreatDoorA14
import Derived.Test.YtinekmjengckdaaGreatDoorA03
import Derived.Test.YtinekmjengckdaaGreatDoorA04
import Derived.Lib.ConvBytes
import Derived.Test.YtinekmjengckdaaGreatDoorA13
namespace Go.Proofs.YtinekmjengckdaaGreatDoor
open Go.RowKit
set_option maxHeartbeats 4000000
set_option maxRecDepth 100000
def StAt (W : World) (g : Nat) (st : Option (List UInt8)) : Prop := ∃ s : ByteArray, s.size ≤ 800000000 ∧ match st with
  | some r => s.data.toList = r ∧ Blk W g 92 #[.string s, .bool false]
  | none => Blk W g 92 #[.string s, .bool true]
def lenS (st : Option (List UInt8)) : Nat := match st with
  | some r => r.length
  | none => 0
def NextSt {α : Type} (p : Tk α) (st : Option (List UInt8)) (x : α) (st' : Option (List UInt8)) : Prop := match st.bind p with
  | some y => x = y.1 ∧ st' = some y.2
  | none => st' = none
def Got {α : Type} (p : Tk α) (n : α → Nat) (C : Nat) (ok : α → Prop) (R : Nat → Nat → World → Value → α → Prop) (g : Nat) (st : Option (List UInt8)) (w : World) (e : Ending) (w' : World) : Prop :=
  ∃ v x st', e = .returned v ∧ R w.heap.size g w' v x ∧ ok x ∧ StAt w' g st' ∧ Chg (· = g) w w' ∧ NextSt p st x st' ∧ n x + lenS st' ≤ lenS st + C
theorem StAt.chg {S : Nat → Prop} {W W' : World} {g : Nat} {st : Option (List UInt8)} (h : StAt W g st) (hc : Chg S W W') (hg : ¬ S g) : StAt W' g st := by
  obtain ⟨s, hs, h⟩ := h
  refine ⟨s, hs, ?_⟩
  cases st with
  | none => exact Blk.chg h hc hg
  | some r => exact ⟨h.1, h.2.chg hc hg⟩
theorem StAt.lt {W : World} {g : Nat} {st : Option (List UInt8)} (h : StAt W g st) : g < W.heap.size := by
  obtain ⟨s, hs, h⟩ := h
  cases st with
  | none => exact Blk.lt h
  | some r => exact h.2.lt
section
variable {α β : Type} {p : Tk α} {q : α → Tk β} {s s1 s2 : Option (List UInt8)} {a : α} {b : β}
theorem NextSt.seq (h1 : NextSt p s a s1) (h2 : NextSt (q a) s1 b s2) : NextSt (seqT p q) s b s2 := by
  cases s with
  | none =>
    have e : s1 = none := h1
    subst e
    exact h2
  | some r =>
    unfold NextSt at h1 ⊢
    rw [Option.bind_some] at h1 ⊢
    cases e : p r with
    | none =>
      rw [e] at h1
      have e1 : s1 = none := h1
      subst e1
      rw [seqT_none e]
      exact h2
    | some y =>
      rw [e] at h1
      obtain ⟨rfl, rfl⟩ := h1
      rw [seqT_run (x := y.1) (r := y.2) e]
      exact h2
theorem NextSt.map (f : α → β) (h : NextSt p s a s1) : NextSt (mapT f p) s (f a) s1 := by
  cases s with
  | none => exact h
  | some r =>
    unfold NextSt at h ⊢
    rw [Option.bind_some] at h ⊢
    cases e : p r with
    | none =>
      rw [e] at h
      rw [mapT_none e]
      exact h
    | some y =>
      rw [e] at h
      rw [mapT_run (x := y.1) (r := y.2) e]
      exact ⟨by rw [h.1], h.2⟩
end
theorem ext_list (s : ByteArray) (a b : Nat) : (s.extract a b).data.toList = (s.data.toList.drop a).take (b - a) := by
  rw [ByteArray.data_extract]
  simp [Array.toList_extract]
theorem toList_size (s : ByteArray) : s.data.toList.length = s.size := by rw [Array.length_toList]; rfl
def RTx (_ _ : Nat) (_ : World) (v : Value) (x : ByteArray) : Prop := v = .string x
theorem take_any (n : Nat) (st : Option (List UInt8)) (g : Nat) (w : World) (h : StAt w g st) :
    Calls Tryz.prog 56 #[.pointer (some ⟨g, 0, none⟩), .int .i64 (n : Int)] w (Got (textT n) (fun x => x.size) 0 (fun x => x.size ≤ n) RTx g st w) := by
  obtain ⟨s, hs, h⟩ := h
  cases st with
  | none =>
    have hb : Blk w g 92 #[.string s, .bool true] := h
    have q0 := hb.cell 0
    have q1 := hb.cell 1
    have f0 := hb.frozen 1
    simp only [List.getElem?_toArray, List.getElem?_cons_zero, List.getElem?_cons_succ] at q0 q1
    have HB := hH hb
    clear h hb
    go_enter Tryz.func56, Tryz.ntmps56
    go_wp2_with fail
    go_ret
    exact ⟨_, ⟨#[]⟩, none, rfl, rfl, Nat.zero_le _, ⟨s, hs, by have := (uH HB).set_ 1 (.bool true); simpa using this⟩, (Chg.refl (· = g) w).setCell (p := ⟨g, 1, none⟩) (fun _ => rfl) _, rfl, Nat.zero_le _⟩
  | some r =>
    obtain ⟨hr, hb⟩ := h
    subst hr
    have q0 := hb.cell 0
    have q1 := hb.cell 1
    have f0 := hb.frozen 0
    have f1 := hb.frozen 1
    simp only [List.getElem?_toArray, List.getElem?_cons_zero, List.getElem?_cons_succ] at q0 q1
    have hsl := toList_size s
    have HB := hH hb
    clear hb
    by_cases hn : n ≤ s.size
    rotate_left
    · have hns : (s.size : Int) < (n : Int) := by omega
      have hnx : textT n s.data.toList = none := by unfold textT; rw [if_pos (by omega)]
      have HX := hH hnx
      clear hnx
      go_enter Tryz.func56, Tryz.ntmps56
      go_wp2_with fail
      go_ret
      exact ⟨_, ⟨#[]⟩, none, rfl, rfl, Nat.zero_le _, ⟨s, hs, by have := (uH HB).set_ 1 (.bool true); simpa using this⟩, (Chg.refl (· = g) w).setCell (p := ⟨g, 1, none⟩) (fun _ => rfl) _, by unfold NextSt; rw [Option.bind_some, uH HX], Nat.zero_le _⟩
    · have hns : ¬ (s.size : Int) < (n : Int) := by omega
      have hns2 : (n : Int) ≤ (s.size : Int) := by omega
      have hnx : textT n s.data.toList = some (⟨(s.data.toList.take n).toArray⟩, s.data.toList.drop n) := by unfold textT; rw [if_neg (by omega)]
      have HX := hH hnx
      have HSL := hH hsl
      clear hnx hsl
      go_enter Tryz.func56, Tryz.ntmps56
      go_wp2_with fail
      go_ret
      have e1 : (s.extract 0 n).data.toList = s.data.toList.take n := by rw [ext_list, Nat.sub_zero]; rfl
      have e2 : (s.extract n s.size).data.toList = s.data.toList.drop n := by
        rw [ext_list, List.take_of_length_le (by rw [List.length_drop, uH HSL]; omega)]
      have z1 : (s.extract 0 n).size = n := by rw [← toList_size, e1, List.length_take, uH HSL]; omega
      have z2 : (s.extract n s.size).size = s.size - n := by rw [← toList_size, e2, List.length_drop, uH HSL]
      refine ⟨_, s.extract 0 n, some (s.data.toList.drop n), rfl, rfl, by omega, ⟨s.extract n s.size, by omega, e2, by have := (uH HB).set_ 0 (.string (s.extract n s.size)); simpa using this⟩, (Chg.refl (· = g) w).setCell (p := ⟨g, 0, none⟩) (fun _ => rfl) _, ?_, ?_⟩
      · unfold NextSt
        rw [Option.bind_some, uH HX]
        refine ⟨?_, rfl⟩
        rw [← e1]
      · show (s.extract 0 n).size + (s.data.toList.drop n).length ≤ s.data.toList.length + 0
        rw [z1, List.length_drop, uH HSL]
        omega
def RNm (_ _ : Nat) (_ : World) (v : Value) (x : Nat) : Prop := v = .int .i64 (x : Int)
theorem valB_snoc : ∀ (l : List UInt8) (b : UInt8), valB (l ++ [b]) = valB l + b.toNat * 256 ^ l.length
  | [], b => by simp [valB]
  | a :: l, b => by
    rw [List.cons_append, valB, valB_snoc l b, valB, List.length_cons, Nat.pow_succ, Nat.mul_add, Nat.add_assoc, Nat.mul_comm (256 ^ l.length) 256, Nat.mul_left_comm]
theorem or_shl (v b k : Nat) (hv : v < 256 ^ k) (_hb : b < 256) (_hk : k < 4) : v ||| (b * 256 ^ k) = v + b * 256 ^ k := by
  have e : (256 : Nat) ^ k = 2 ^ (8 * k) := by rw [Nat.pow_mul]
  rw [e] at hv ⊢
  rw [Nat.or_comm, ← Nat.shiftLeft_eq, ← Nat.shiftLeft_add_eq_or_of_lt hv, Nat.add_comm]
theorem i64_or_nat (a b : Nat) (ha : a < 4611686018427387904) (hb : b < 4611686018427387904) : bits .or .i64 (a : Int) (b : Int) = ((a ||| b : Nat) : Int) := by
  have hx : a ||| b < 2 ^ 62 := Nat.or_lt_two_pow (by omega) (by omega)
  have h1 : ∀ x : Nat, x < 4611686018427387904 → (BitVec.ofInt 64 (x : Int)).toNat = x := fun x hx => by
    rw [BitVec.ofInt_natCast, BitVec.toNat_ofNat]
    exact Nat.mod_eq_of_lt (by omega)
  show IntKind.i64.wrap ((BitVec.ofInt 64 (a : Int) ||| BitVec.ofInt 64 (b : Int)).toNat : Int) = _
  rw [BitVec.toNat_or, h1 a ha, h1 b hb]
  simp only [IntKind.wrap, IntKind.bits, IntKind.signed]
  simp
  omega
theorem or_val (v b k : Nat) (hv : v < 256 ^ k) (hb : b < 256) (hk : k < 4) : Value.int .i64 (bits .or .i64 (v : Int) (wrap64 ((b : Int) * 2 ^ (8 * k)))) = .int .i64 ((v + b * 256 ^ k : Nat) : Int) := by
  have e : (2 : Nat) ^ (8 * k) = 256 ^ k := by rw [Nat.pow_mul]
  have h4 : 256 ^ k ≤ 256 ^ 3 := Nat.pow_le_pow_right (by omega) (by omega)
  have hm : b * 256 ^ k ≤ 255 * 256 ^ 3 := Nat.mul_le_mul (by omega) h4
  have e2 : ((b : Int) * 2 ^ (8 * k)) = ((b * 256 ^ k : Nat) : Int) := by
    rw [← e]
    push_cast
    rfl
  rw [e2, w64 _ (by omega), i64_or_nat v (b * 256 ^ k) (by omega) (by omega), or_shl v b k hv hb hk]
theorem rnum_any (m : Nat) (st : Option (List UInt8)) (g : Nat) (w : World) (h : StAt w g st) (hm : m ≤ 4) :
    Calls Tryz.prog 123 #[.pointer (some ⟨g, 0, none⟩), .int .i64 (m : Int)] w (Got (pNum m) (fun _ => m) m (fun x => x < 256 ^ m) RNm g st w) := by
  have HT := hH (take_any m st g w h)
  have hglt := h.lt
  clear h
  have qc := fun (w : World) (s : ByteArray) => Lib.run_convert_string_bytes (P := Tryz.prog) w 9 46 5 s Tryz.underlying9 Tryz.underlying46 Tryz.underlying5
  go_enter Tryz.func123, Tryz.ntmps123
  go_wp2_with (go_at_call 56; refine (uH HT).mono ?_; rintro e w2 ⟨v, x, st', rfl, rfl, hok, hst, hch, hnx, hln⟩; have HST := hH hst; have HCH := hH hch; have HNX := hH hnx; have HLN := hH hln; clear hst hch hnx hln)
  generalize hWB : Lib.bytesWorld w2 5 x = WB at *
  go_loopw [5, 13] (fun n i wr => ∃ k : Nat, i = .int .i64 (k : Int) ∧ k ≤ x.size ∧ n = .int .i64 (valB (x.data.toList.take k) : Int) ∧ wr = WB) (fun _ i _ => x.size - (intOf i).toNat)
  case atStart => exact ⟨0, rfl, Nat.zero_le _, rfl, rfl⟩
  case round =>
    obtain ⟨k, rfl, hk, rfl, rfl⟩ := hrel
    by_cases hlt : k < x.size
    · have hki : (k : Int) < (x.size : Int) := by omega
      have hk8 : k = 0 ∨ k = 1 ∨ k = 2 ∨ k = 3 := by omega
      have hc0 : wr.cell? ⟨w2.heap.size, k, none⟩ = some (.int .u8 ((x.data.toList.getD k 0).toNat : Int)) := by rw [← hWB]; exact Lib.bytesWorld_cell w2 5 x k hlt
      have hlt2 : k < x.data.toList.length := by rw [toList_size]; exact hlt
      have hst : valB (x.data.toList.take (k + 1)) = valB (x.data.toList.take k) + (x.data.toList.getD k 0).toNat * 256 ^ k := by
        rw [List.take_add_one, List.getD_eq_getElem?_getD, List.getElem?_eq_getElem hlt2]
        show valB (x.data.toList.take k ++ [x.data.toList[k]]) = _
        rw [valB_snoc, List.length_take, Nat.min_eq_left (by omega)]
        rfl
      have hvl := valB_lt (x.data.toList.take k)
      rw [List.length_take, Nat.min_eq_left (by omega)] at hvl
      have hbl := (x.data.toList.getD k 0).toNat_lt
      have HSTP := hH hst
      clear hst hWB hlt2
      generalize (x.data.toList.getD k 0).toNat = bb at *
      generalize valB (x.data.toList.take k) = vv at *
      have hor := or_val vv bb k hvl hbl (by omega)
      have HOR := hH hor
      clear hor
      go_wp2_with fail
      go_roundw
      case rel => exact ⟨k + 1, by go_num, by omega, by rw [uH HSTP]; exact uH HOR, by first | rfl | trivial⟩
      case measure => simp [intOf]; omega
    · obtain rfl : k = x.size := by omega
      have hki : ¬ (x.size : Int) < (x.size : Int) := by omega
      have hfull : x.data.toList.take x.size = x.data.toList := List.take_of_length_le (by rw [toList_size]; exact Nat.le_refl _)
      rw [hfull]
      have hcw : Chg (fun _ => False) w2 wr := by
        rw [← hWB]
        exact ⟨rfl, rfl, rfl, by rw [Lib.bytesWorld_size]; omega, fun j hj _ => Lib.bytesWorld_at_old w2 5 x j hj⟩
      have HCW := hH hcw
      clear hcw hfull hWB
      go_wp2_with fail
      go_ret
      have hch := (uH HCH).trans (uH HCW) (S' := fun _ => False) (fun _ _ e => e.elim)
      have hst := (uH HST).chg (uH HCW) (fun e => e.elim)
      have hnx := uH HNX
      have hln := uH HLN
      have hvb := valB_lt x.data.toList
      rw [toList_size] at hvb
      cases st with
      | none =>
        have e : st' = none := hnx
        subst e
        have hx0 : x.size = 0 := by
          have h2 : x.size + 0 ≤ 0 + 0 := hln
          omega
        refine ⟨_, valB x.data.toList, none, rfl, rfl, Nat.lt_of_lt_of_le hvb (Nat.pow_le_pow_right (by omega) hok), hst, hch, rfl, ?_⟩
        show m + 0 ≤ 0 + m
        omega
      | some r =>
        unfold NextSt at hnx
        rw [Option.bind_some] at hnx
        by_cases hrm : r.length < m
        · have e1 : textT m r = none := by unfold textT; rw [if_pos hrm]
          rw [e1] at hnx
          have e : st' = none := hnx
          subst e
          refine ⟨_, valB x.data.toList, none, rfl, rfl, Nat.lt_of_lt_of_le hvb (Nat.pow_le_pow_right (by omega) hok), hst, hch, ?_, ?_⟩
          · unfold NextSt
            rw [Option.bind_some, show pNum m r = none by unfold pNum; rw [if_pos hrm]]
          · show m + 0 ≤ r.length + m
            omega
        · have e1 : textT m r = some (⟨(r.take m).toArray⟩, r.drop m) := by unfold textT; rw [if_neg hrm]
          rw [e1] at hnx
          obtain ⟨rfl, rfl⟩ := hnx
          refine ⟨_, valB (r.take m), some (r.drop m), rfl, by simp [RNm], ?_, hst, hch, ?_, ?_⟩
          · have := valB_lt (r.take m)
            rw [List.length_take, Nat.min_eq_left (by omega)] at this
            exact this
          · unfold NextSt
            rw [Option.bind_some, show pNum m r = some (valB (r.take m), r.drop m) by unfold pNum; rw [if_neg hrm]]
            exact ⟨rfl, rfl⟩
          · show m + (r.drop m).length ≤ r.length + m
            rw [List.length_drop]
            omega
end Go.Proofs.YtinekmjengckdaaGreatDoor

namespace Go.Proofs.YtinekmjengckdaaGreatDoor
open Go.RowKit
set_option maxHeartbeats 1000000
set_option maxRecDepth 100000
section
variable {α : Type} {P : Program} {ops : Array Oper} {rest : List Oper} {o : Oper} {a : Act} {Q : Exit → Act → World → Prop}
end
theorem infoDt : (Tryz.prog.info? 70).map (fun i => (i.zero, i.size, i.bytes)) = some (some (.agg #[.string ⟨#[]⟩, .int .i64 0, .slice none 0 0]), 3, 48) := by kernel_rfl
section
variable {ops : Array Oper} {rest : List Oper} {o : Oper} {a : Act} {Q : Exit → Act → World → Prop}
end
section
variable {ops : Array Oper} {rest : List Oper} {o : Oper} {a : Act} {Q : Exit → Act → World → Prop}
end
section
variable {ops : Array Oper} {rest : List Oper} {o : Oper} {a : Act} {Q : Exit → Act → World → Prop}
end
end Go.Proofs.YtinekmjengckdaaGreatDoor

namespace Go.Proofs.YtinekmjengckdaaGreatDoor
open Go.RowKit
set_option maxHeartbeats 4000000
set_option maxRecDepth 100000
theorem rnum1_any (st : Option (List UInt8)) (g : Nat) (w : World) (h : StAt w g st) : Calls Tryz.prog 123 #[.pointer (some ⟨g, 0, none⟩), .int .i64 1] w (Got (pNum 1) (fun _ => 1) 1 (fun x => x < 256 ^ 1) RNm g st w) := rnum_any 1 st g w h (by omega)
theorem rnum2_any (st : Option (List UInt8)) (g : Nat) (w : World) (h : StAt w g st) : Calls Tryz.prog 123 #[.pointer (some ⟨g, 0, none⟩), .int .i64 2] w (Got (pNum 2) (fun _ => 2) 2 (fun x => x < 256 ^ 2) RNm g st w) := rnum_any 2 st g w h (by omega)
theorem rnum4_any (st : Option (List UInt8)) (g : Nat) (w : World) (h : StAt w g st) : Calls Tryz.prog 123 #[.pointer (some ⟨g, 0, none⟩), .int .i64 4] w (Got (pNum 4) (fun _ => 4) 4 (fun x => x < 256 ^ 4) RNm g st w) := rnum_any 4 st g w h (by omega)
theorem rtext_any (st : Option (List UInt8)) (g : Nat) (w : World) (h : StAt w g st) :
    Calls Tryz.prog 57 #[.pointer (some ⟨g, 0, none⟩)] w (Got pText (fun x => 2 + x.size) 2 (fun x => x.size < 65536) RTx g st w) := by
  have HN := hH (rnum2_any st g w h)
  clear h
  go_enter Tryz.func57, Tryz.ntmps57
  go_wp2_with (first
    | (go_at_call 123; refine (uH HN).mono ?_; rintro e w2 ⟨v, n, st1, rfl, rfl, hok, hst, hch, hnx, hln⟩; have HT := hH (take_any n st1 g w2 hst); have HOK := hH hok; have HCH := hH hch; have HNX := hH hnx; have HLN := hH hln; clear hst hch hnx hln hok)
    | (go_at_call 56; refine (uH HT).mono ?_; rintro e w3 ⟨v, x, st2, rfl, rfl, hok2, hst2, hch2, hnx2, hln2⟩; have HG := hH (And.intro hok2 (And.intro hst2 (And.intro hch2 (And.intro hnx2 hln2)))); clear hok2 hst2 hch2 hnx2 hln2))
  go_ret
  obtain ⟨hok2, hst2, hch2, hnx2, hln2⟩ := uH HG
  have h1 := uH HOK
  have h2 := uH HLN
  (try dsimp only at h1 h2 hln2 hok2)
  exact ⟨_, x, st2, rfl, rfl, by omega, hst2, (uH HCH).trans' hch2, NextSt.seq (uH HNX) hnx2, by (try dsimp only); omega⟩
structure REok {α : Type} (RE : (Nat → Prop) → World → Value → α → Prop) : Prop where
  chg : ∀ {T S : Nat → Prop} {w w' : World} {u : Value} {x : α}, RE T w u x → Chg S w w' → (∀ b, T b → b < w.heap.size → ¬ S b) → RE T w' u x
  mono : ∀ {T T' : Nat → Prop} {w : World} {u : Value} {x : α}, RE T w u x → (∀ b, T b → T' b) → RE T' w u x
  low : ∀ {T : Nat → Prop} {w : World} {u : Value} {x : α}, RE T w u x → RE (fun b => T b ∧ b < w.heap.size) w u x
def RowIn {α : Type} (f : α → Value → List Value) (RE : (Nat → Prop) → World → Value → α → Prop) (T : TypeId) (sz base : Nat) (W : World) (vo : Value) (l : List α) : Prop :=
  ∃ ps : List (α × Value), ps.map Prod.fst = l ∧ W.ownsRow base T sz vo ps.length (ps.flatMap fun p => f p.1 p.2) ∧ ∀ p ∈ ps, RE (fun b => base ≤ b ∧ ¬ vo.ownBlock = some b) W p.2 p.1
section
variable {α : Type} {f : α → Value → List Value} {RE : (Nat → Prop) → World → Value → α → Prop} {T : TypeId} {sz base g : Nat}
theorem RowIn.nil (W : World) : RowIn f RE T sz base W (.slice none 0 0) [] := ⟨[], rfl, ⟨by simp, .inl ⟨rfl, rfl⟩⟩, fun p h => by cases h⟩
theorem RowIn.val {W : World} {vo : Value} {l : List α} (h : RowIn f RE T sz base W vo l) : ∃ A c, vo = .slice A l.length c := by
  obtain ⟨ps, h1, h2, _⟩ := h
  rw [← h1, List.length_map]
  exact own_val h2
theorem RowIn.stay (ok : REok RE) {W W' : World} {vo : Value} {l : List α} (h : RowIn f RE T sz base W vo l) (hg : g < base) (hc : Chg (· = g) W W') : RowIn f RE T sz base W' vo l := by
  obtain ⟨ps, h1, h2, h3⟩ := h
  exact ⟨ps, h1, own_chg h2 hc (fun k hk e => by have := (h2.lt k hk).1; omega), fun p hp => ok.chg (h3 p hp) hc (fun b hb _ e => by have := hb.1; omega)⟩
theorem RowIn.step (ok : REok RE) {W1 W2 W3 : World} {vo v3 u : Value} {x : α} {ps : List (α × Value)} {O : Obj} (_h2 : W2.ownsRow base T sz vo ps.length (ps.flatMap fun p => f p.1 p.2)) (h3 : ∀ p ∈ ps, RE (fun b => base ≤ b ∧ ¬ vo.ownBlock = some b) W2 p.2 p.1)
    (hlt : ∀ k, vo.ownBlock = some k → k < W1.heap.size) (hb1 : base ≤ W1.heap.size) (_hz : W1.heap.size ≤ W2.heap.size) (hu : RE (fun b => W1.heap.size ≤ b) W2 u x) (ho : W3.ownsRow base T sz v3 (ps.length + 1) ((ps.flatMap fun p => f p.1 p.2) ++ f x u)) (hc3 : Chg (fun k => vo.ownBlock = some k) (W2.alloc O) W3) (hat : v3.ownBlock = vo.ownBlock ∨ v3.ownBlock = some (W2.alloc O).heap.size) :
    RowIn f RE T sz base W3 v3 (ps.map Prod.fst ++ [x]) := by
  rw [size_alloc] at hat
  refine ⟨ps ++ [(x, u)], by rw [List.map_append]; rfl, by rw [List.length_append, List.flatMap_append]; simpa using ho, fun p hp => ?_⟩
  have keep : ∀ {y : α} {v : Value} {T0 : Nat → Prop}, RE T0 W2 v y → (∀ b, T0 b → base ≤ b) → (∀ b, T0 b → b < W2.heap.size → ¬ vo.ownBlock = some b) → RE (fun b => base ≤ b ∧ ¬ v3.ownBlock = some b) W3 v y := fun {y v T0} h hb hn => by
    refine ok.mono (ok.chg (ok.chg (ok.low h) ((Chg.refl (fun _ => False) W2).alloc O) (fun _ _ _ => id)) hc3 (fun b hb2 _ e => hn b hb2.1 hb2.2 e)) (fun b hb2 => ⟨hb b hb2.1, fun e => ?_⟩)
    rcases hat with h7 | h7
    · exact hn b hb2.1 hb2.2 (h7 ▸ e)
    · rw [h7] at e
      injection e with e
      have := hb2.2
      omega
  rcases List.mem_append.1 hp with hp | hp
  · exact keep (h3 p hp) (fun b hb => hb.1) (fun b hb _ => hb.2)
  · obtain rfl := List.mem_singleton.1 hp
    exact keep hu (fun b hb => by omega) (fun b hb _ e => by have := hlt b e; omega)
end
theorem Got.mono {α : Type} {p : Tk α} {n : α → Nat} {C : Nat} {ok : α → Prop} {R R' : Nat → Nat → World → Value → α → Prop} {g : Nat} {st : Option (List UInt8)} {w : World} {e : Ending} {w' : World} (h : Got p n C ok R g st w e w') (hR : ∀ v x, ok x → R w.heap.size g w' v x → R' w.heap.size g w' v x) : Got p n C ok R' g st w e w' := by
  obtain ⟨v, x, st', h1, h2, h3, h4⟩ := h
  exact ⟨v, x, st', h1, hR v x h3 h2, h3, h4⟩
section
variable {α : Type} {f : α → Value → List Value} {RE : (Nat → Prop) → World → Value → α → Prop} {T : TypeId} {sz base : Nat}
theorem RowIn.rd (ok : REok RE) (h0 : 0 < sz) {W : World} {vo : Value} {l : List α} (h : RowIn f RE T sz base W vo l) (hl : l.length ≤ 4000) : RdR (fun b => base ≤ b) W f (fun w u x => RE (fun b => base ≤ b) w u x) vo l ∧ capOk vo := by
  obtain ⟨ps, h1, h2, h3⟩ := h
  have hlen : ps.length = l.length := by rw [← h1, List.length_map]
  obtain ⟨A, c, rfl⟩ := own_val h2
  exact ⟨⟨A, c, ps, by rw [hlen], h1, (own_rd h2 h0).mono (fun b hb => (h2.lt b hb).1), fun p hp => ok.mono (h3 p hp) (fun b hb => hb.1), by omega⟩, own_cap h2⟩
end
def ManyAt {α : Type} (p : Tk α) (n : Nat) (st0 : Option (List UInt8)) (k : Nat) (l : List α) (st : Option (List UInt8)) : Prop := match st with
  | some r => st0.bind (manyT p n) = (pMany p (n - k) r).map fun y => (l ++ y.1, y.2)
  | none => st0.bind (manyT p n) = none
section
variable {α : Type} {p : Tk α} {n : Nat} {st0 : Option (List UInt8)}
theorem ManyAt.start (h : n ≤ 4000) : ManyAt p n st0 0 [] st0 := by
  cases st0 with
  | none => rfl
  | some r =>
    show manyT p n r = _
    unfold manyT
    rw [if_neg (by omega)]
    cases pMany p n r <;> rfl
theorem ManyAt.great (h : 4000 < n) : ManyAt p n st0 0 [] none := by
  cases st0 with
  | none => rfl
  | some r =>
    show manyT p n r = none
    unfold manyT
    rw [if_pos h]
theorem ManyAt.step {k : Nat} {l : List α} {r : List UInt8} {x : α} {st' : Option (List UInt8)} (h : ManyAt p n st0 k l (some r)) (hk : k < n) (hx : NextSt p (some r) x st') : ManyAt p n st0 (k + 1) (l ++ [x]) st' := by
  have h0 : st0.bind (manyT p n) = (pMany p (n - k) r).map fun y => (l ++ y.1, y.2) := h
  rw [show n - k = (n - (k + 1)) + 1 by omega] at h0
  have hs : pMany p (n - (k + 1) + 1) r = seqT p (fun x => mapT (x :: ·) (pMany p (n - (k + 1)))) r := rfl
  rw [hs] at h0
  unfold NextSt at hx
  rw [Option.bind_some] at hx
  cases e : p r with
  | none =>
    rw [e] at hx
    have e1 : st' = none := hx
    subst e1
    rw [seqT_none e] at h0
    exact h0
  | some y =>
    rw [e] at hx
    obtain ⟨rfl, rfl⟩ := hx
    rw [seqT_run (x := y.1) (r := y.2) e] at h0
    show st0.bind (manyT p n) = _
    rw [h0]
    unfold mapT
    cases pMany p (n - (k + 1)) y.2 with
    | none => rfl
    | some z => simp
theorem ManyAt.fin {k : Nat} {l : List α} {st : Option (List UInt8)} (h : ManyAt p n st0 k l st) (he : st = none ∨ n ≤ k) : NextSt (manyT p n) st0 l st := by
  unfold NextSt
  cases st with
  | none =>
    have h0 : st0.bind (manyT p n) = none := h
    rw [h0]
  | some r =>
    have h0 : st0.bind (manyT p n) = (pMany p (n - k) r).map fun y => (l ++ y.1, y.2) := h
    have hk : n - k = 0 := by
      rcases he with e | e
      · cases e
      · omega
    rw [hk] at h0
    rw [h0]
    simp [pMany]
end
def RNd (_ _ : Nat) (_ : World) (v : Value) (x : Nd) : Prop := v = .agg #[.int .i64 x.kind, .string x.text, .int .i64 x.num, .int .i64 x.kids]
theorem node_get (st : Option (List UInt8)) (g : Nat) (w : World) (h : StAt w g st) :
    Calls Tryz.prog 161 #[.pointer (some ⟨g, 0, none⟩)] w (Got pNode (fun x => (nodeP x).length) 5 NdFit RNd g st w) := by
  have HN := hH (rnum1_any st g (w.alloc (.cells #[.int .i64 0, .string ⟨#[]⟩, .int .i64 0, .int .i64 0] 59)) (h.chg ((Chg.refl (fun _ => False) w).alloc _) id))
  have hglt := h.lt
  have HBX := hH (Blk.new w 59 #[.int .i64 0, .string ⟨#[]⟩, .int .i64 0, .int .i64 0])
  have HC0 := hH ((Chg.refl (· = g) w).alloc (.cells #[.int .i64 0, .string ⟨#[]⟩, .int .i64 0, .int .i64 0] 59))
  have hgne : ¬ w.heap.size = g := by omega
  clear h
  go_enter Tryz.func161, Tryz.ntmps161
  go_upto_region 1 with fail
  go_wp2_with (first
    | (go_at_call 123; refine (uH HN).mono ?_; rintro e w2 ⟨v, n, st1, rfl, rfl, hok, hst, hch, hnx, hln⟩; have HST := hH hst; have H4 := hH (rnum4_any st1 g w2 hst); have HT := hH (rtext_any st1 g w2 hst); have HB2 := hH ((uH HBX).chg hch hgne); have HCH := hH ((uH HC0).trans' hch); have HNX := hH hnx; have HLN := hH hln; have HOK := hH hok; clear hst hch hnx hln hok HN HBX HC0)
    | (go_at_call 123; refine (uH H4).mono ?_; rintro e w3 ⟨v, y, st2, rfl, rfl, hok, hst, hch, hnx, hln⟩; have hb3 := (uH HB2).chg hch hgne; have q0 := hb3.cell 0; have q1 := hb3.cell 1; have q2 := hb3.cell 2; have q3 := hb3.cell 3; have f0 := hb3.frozen 0; have f1 := hb3.frozen 1; have f2 := hb3.frozen 2; have f3 := hb3.frozen 3; simp only [List.getElem?_toArray, List.getElem?_cons_zero, List.getElem?_cons_succ] at q0 q1 q2 q3; have HST3 := hH hst; have HCH3 := hH ((uH HCH).trans' hch); have HN3 := hH (And.intro hok (And.intro hnx hln)); clear hst hch hnx hln hok hb3)
    | (go_at_call 57; refine (uH HT).mono ?_; rintro e w3 ⟨v, x, st2, rfl, rfl, hok, hst, hch, hnx, hln⟩; have hal := (Chg.refl (fun _ => False) w3).alloc (.cells #[.int .i64 32, .string x, .int .i64 0, .int .i64 0] 59); have HB3 := hH (((uH HB2).chg hch hgne).chg hal id); have HN4 := hH (rnum1_any st2 g _ (hst.chg hal id)); have HB4 := hH (Blk.new w3 59 #[.int .i64 32, .string x, .int .i64 0, .int .i64 0]); have hz1 := hch.size; have hz2 := ((uH HB2).chg hch hgne).lt; have hne1 : ¬ w3.heap.size = g := (by omega); have hne2 : ¬ w3.heap.size = w.heap.size := (by omega); have hne3 : ¬ w.heap.size = w3.heap.size := (by omega); clear hz1; have HCH3 := hH (((uH HCH).trans' hch).alloc (.cells #[.int .i64 32, .string x, .int .i64 0, .int .i64 0] 59)); have HN3 := hH (And.intro hok (And.intro hnx hln)); clear hst hch hnx hln hok HT H4 hal)
    | (go_at_call 123; refine (uH HN4).mono ?_; rintro e w4 ⟨v, y, st3, rfl, rfl, hok, hst, hch, hnx, hln⟩; have hb3 := (uH HB3).chg hch hgne; have hb4 := (uH HB4).chg hch hne1; have q0 := hb3.cell 0; have q1 := hb3.cell 1; have q2 := hb3.cell 2; have q3 := hb3.cell 3; have f0 := hb3.frozen 0; have f1 := hb3.frozen 1; have f2 := hb3.frozen 2; have f3 := hb3.frozen 3; have p0 := hb4.cell 0; have p1 := hb4.cell 1; have p2 := hb4.cell 2; have p3 := hb4.cell 3; have e3 := hb4.frozen 3; simp only [List.getElem?_toArray, List.getElem?_cons_zero, List.getElem?_cons_succ] at q0 q1 q2 q3 p0 p1 p2 p3; have HST4 := hH hst; have HCH4 := hH ((uH HCH3).trans' hch); have HN5 := hH (And.intro hok (And.intro hnx hln)); clear hst hch hnx hln hok hb3 hb4)
    | (go_at_call 123; trace_state; fail))
  · obtain rfl : n = 0 := by
      rename_i hn0
      exact Int.ofNat.inj (eq_of_beq hn0)
    obtain ⟨hok3, hnx3, hln3⟩ := uH HN3
    have hln := uH HLN
    refine bodyPost_ret (v := .agg #[.int .i64 31, .string ⟨#[]⟩, .int .i64 y, .int .i64 0]) (by simp [results, Tryz.results161, go_sem, q0, q1, q2, q3]) rfl ⟨_, ⟨31, ⟨#[]⟩, (y : Int), 0⟩, st2, rfl, rfl, .inl ⟨rfl, rfl, Int.natCast_nonneg _, by show (y : Int) < 4294967296; omega, rfl⟩, ?_, ?_, NextSt.seq (q := nodeT) (uH HNX) (show NextSt (nodeT 0) st1 _ st2 from hnx3.map (fun (y : Nat) => (⟨31, ⟨#[]⟩, (y : Int), 0⟩ : Nd))), ?_⟩
    · refine StAt.chg (S := (· ≠ g)) (W := w3) (uH HST3) ?_ (fun h => h rfl)
      repeat (refine Chg.setCell ?_ (fun _ => (by first | exact hgne | exact hne1)) _)
      exact Chg.refl _ _
    · repeat (refine Chg.setCell ?_ (fun h => (by dsimp only at h; omega)) _)
      exact uH HCH3
    · have e : (nodeP ⟨31, ⟨#[]⟩, (y : Int), 0⟩).length = 5 := by unfold nodeP; rw [if_pos rfl, List.length_cons, low_len]
      (try dsimp only at hln hln3 ⊢)
      omega
  · have hn0 : ¬ n = 0 := by
      rename_i hn0
      intro h
      subst h
      cases hn0
    obtain ⟨hok3, hnx3, hln3⟩ := uH HN3
    obtain ⟨hok4, hnx4, hln4⟩ := uH HN5
    have hln := uH HLN
    refine bodyPost_ret (v := .agg #[.int .i64 32, .string x, .int .i64 0, .int .i64 y]) (by simp [results, Tryz.results161, go_sem, q0, q1, q2, q3]) rfl ⟨_, ⟨32, x, 0, (y : Int)⟩, st3, rfl, rfl, .inr ⟨rfl, rfl, Int.natCast_nonneg _, by show (y : Int) < 256; omega, hok3⟩, ?_, ?_, (uH HNX).seq ?_, ?_⟩
    · refine StAt.chg (S := (· ≠ g)) (W := w4) (uH HST4) ?_ (fun h => h rfl)
      repeat (refine Chg.setCell ?_ (fun _ => (by first | exact hgne | exact hne1)) _)
      exact Chg.refl _ _
    · repeat (refine Chg.setCell ?_ (fun h => (by dsimp only at h; omega)) _)
      exact uH HCH4
    · have e : nodeT n = seqT pText fun t => mapT (fun (z : Nat) => (⟨32, t, 0, (z : Int)⟩ : Nd)) (pNum 1) := by unfold nodeT; rw [if_neg hn0]
      rw [e]
      exact NextSt.seq (q := fun t => mapT (fun (z : Nat) => (⟨32, t, 0, (z : Int)⟩ : Nd)) (pNum 1)) hnx3 (hnx4.map (fun (z : Nat) => (⟨32, x, 0, (z : Int)⟩ : Nd)))
    · have e : (nodeP ⟨32, x, 0, (y : Int)⟩).length = 4 + x.size := by
        unfold nodeP
        rw [if_neg (show ¬ (32 : Int) = 31 by decide), List.length_cons, List.length_append, low_len, text_plen]
        (try dsimp only)
        omega
      (try dsimp only at hln hln3 hln4 ⊢)
      omega
end Go.Proofs.YtinekmjengckdaaGreatDoor
