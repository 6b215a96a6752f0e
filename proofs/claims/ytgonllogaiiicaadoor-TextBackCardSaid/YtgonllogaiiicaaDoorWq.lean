/-
  Layer 17: text.Show.
-/
import Derived.Test.YtgonllogaiiicaaDoorWp
import Derived.Test.YtgonllogaiiicaaDoorRsh
namespace Go.Proofs.YtgonllogaiiicaaDoor
open Go.RowKit
set_option maxHeartbeats 4000000
set_option maxRecDepth 100000
theorem show_bad (l : List Ins) (c : Nat) (A : Option Addr) (T : Nat → Prop) (w : World) (hr : Rd T w A (l.flatMap insv)) (hn : l.length ≤ 1000000) (hl : Lay w) (hc : checkE l ≠ 0) :
    Calls Tryd.prog 10 #[.slice A l.length c] w fun e w' => e = .returned (.tuple #[.string ⟨#[]⟩, .int .i64 (checkE l)]) ∧ Chg (fun _ => False) w w' := by
  have HC := asmCheck_any l c A T w hr hn hl
  rw [codeE_eq] at HC
  have HC1 := hide HC
  have hb : (checkE l != 0) = true := bne_iff_ne.2 hc
  generalize checkE l = E at *
  have HNE := hide hc
  clear HC hc hr hl
  go_enter Tryd.func10, Tryd.ntmps10
  go_wp2_with (go_at_call 25; (with_reducible refine (unhide HC1).mono ?_); rintro e w2 ⟨rfl, hc2⟩; have HC2 := hide hc2; clear hc2)
  go_ret2
  exact ⟨rfl, unhide HC2⟩
/-- Is it told by the first of them? -/
def toldK (l : List Ins) (k j : Nat) : Bool := (l.take k).any (toldI j)
def toldA (l : List Ins) (k : Nat) : Array Value := fnA l.length fun j => .bool (toldK l k j)
def nameA (l : List Ins) (k : Nat) : Array Value := fnA l.length fun j => .string ⟨(if j < k ∧ told l j = true then nameL l j else []).toArray⟩
theorem toldA_next {l : List Ins} {k : Nat} {x : Ins} (h : l[k]? = some x) : (if goesB x.op = true then (toldA l k).setIfInBounds x.a.toNat (.bool true) else toldA l k) = toldA l (k + 1) ∨ x.a < 0 := by
  by_cases h0 : x.a < 0
  · exact .inr h0
  refine .inl ?_
  have key : ∀ j, toldK l (k + 1) j = (toldK l k j || toldI j x) := by
    intro j
    unfold toldK
    rw [take_snoc' h, List.any_append]
    simp
  by_cases hg : goesB x.op = true
  · rw [if_pos hg]
    unfold toldA
    rw [fnA_set]
    refine fnA_ext fun j _ => ?_
    rw [key]
    unfold toldI
    rw [hg]
    by_cases hj : j = x.a.toNat
    · rw [if_pos hj]
      have : (x.a == (j : Int)) = true := beq_iff_eq.2 (by omega)
      rw [this]; simp
    · rw [if_neg hj]
      have : (x.a == (j : Int)) = false := beq_eq_false_iff_ne.2 (by omega)
      rw [this]; simp
  · rw [if_neg hg]
    unfold toldA
    refine fnA_ext fun j _ => ?_
    rw [key]
    unfold toldI
    rw [show goesB x.op = false by simpa using hg]
    simp
theorem toldK_all (l : List Ins) (j : Nat) : toldK l l.length j = told l j := by unfold toldK; rw [List.take_length]; rfl
theorem nameA_next (l : List Ins) (k : Nat) : (if told l k = true then (nameA l k).setIfInBounds k (.string ⟨(nameL l k).toArray⟩) else nameA l k) = nameA l (k + 1) := by
  by_cases hg : told l k = true
  · rw [if_pos hg]
    unfold nameA
    rw [fnA_set]
    refine fnA_ext fun j _ => ?_
    by_cases hj : j = k
    · subst hj
      rw [if_pos rfl, if_pos ⟨by omega, hg⟩]
    · rw [if_neg hj]
      by_cases hc : j < k ∧ told l j = true
      · rw [if_pos hc, if_pos ⟨by omega, hc.2⟩]
      · rw [if_neg hc, if_neg (fun h => hc ⟨by omega, h.2⟩)]
  · rw [if_neg hg]
    unfold nameA
    refine fnA_ext fun j _ => ?_
    by_cases hc : j < k ∧ told l j = true
    · rw [if_pos hc, if_pos ⟨by omega, hc.2⟩]
    · rw [if_neg hc, if_neg (fun h => hc ⟨by
        rcases Nat.lt_or_ge j k with h1 | h1
        · exact h1
        · obtain rfl : j = k := by omega
          exact absurd h.2 hg, h.2⟩)]
theorem infoB : (Tryd.prog.info? 4).map (fun i => (i.zero, i.size, i.bytes)) = some (some (.bool false), 1, 1) := by kernel_rfl
theorem own_full {w : World} {base : Nat} {e : TypeId} {g n : Nat} {cs : Array Value} (h : w.ownsRow base e 1 (.slice (some ⟨g, 0, none⟩) n n) n cs.toList) (_hc : cs.size = n) : Blk w g e cs := by
  rcases h.2 with ⟨h1, _⟩ | ⟨g', cap, cur, h1, _, h3, _, _, h5, h6⟩
  · cases h1
  · injection h1 with e1 e2 e3
    injection e1 with e1
    injection e1 with e1
    subst e1 e3
    have : cur = cs := by
      apply Array.ext'
      rw [← h6, List.take_of_length_le (by rw [Array.length_toList]; omega)]
    rw [this] at h3
    exact h3
theorem show_any (l : List Ins) (c : Nat) (A : Option Addr) (T : Nat → Prop) (w : World) (hr : Rd T w A (l.flatMap insv)) (hl : Lay w) (hc : checkE l = 0) (hlen : (showT l).length ≤ 1000000000) :
    Calls Tryd.prog 10 #[.slice A l.length c] w fun e w' => e = .returned (.tuple #[.string ⟨(showT l).toArray⟩, .int .i64 0]) ∧ Chg (fun _ => False) w w' := by
  obtain ⟨hn, hins, hto⟩ := checkE_zero hc
  have HC := asmCheck_any l c A T w hr (by omega) hl
  rw [codeE_eq, hc] at HC
  have HC1 := hide HC
  obtain ⟨b_i, b_hi, b_hz, b_hs, b_hb⟩ := info_parts infoB
  obtain ⟨q_i, q_hi, q_hz, q_hs, q_hb⟩ := info_parts infoStr
  have HR := hide hr
  have HIN := hide hins
  have HTO := hide hto
  have HLY := hide (fun W (hW : Chg (fun _ => False) w W) => hl.chg hW (fun _ _ => id))
  have hmb : b_i.bytes * l.length ≤ 281474976710656 := by rw [b_hb]; omega
  have hmq : q_i.bytes * l.length ≤ 281474976710656 := by rw [q_hb]; omega
  have hml : l.length ≤ maxLen := by simp only [maxLen]; omega
  clear hr hl hins hto HC hc
  have HS0 := hide (show ([] : Bs) ++ showK l 0 (l.drop 0) = showT l from rfl)
  have HTK := hide (show l.length ≤ l.length → showK l l.length (l.drop l.length) = [] from fun h => by rw [List.drop_eq_nil_of_le h]; rfl)
  have HTN := hide (fun k (x : Ins) (h : l[k]? = some x) => show showK l k (l.drop k) = (if told l k then nameL l k ++ [58, 10] else []) ++ (lineI l x ++ 10 :: showK l (k + 1) (l.drop (k + 1))) from by
    obtain ⟨h1, h2⟩ := List.getElem?_eq_some_iff.1 h
    rw [List.drop_eq_getElem_cons h1, h2]; rfl)
  generalize showT l = SH at *
  go_enter Tryd.func10, Tryd.ntmps10
  go_wp2_with (first
    | (go_at_call 25; (with_reducible refine (unhide HC1).mono ?_); rintro e w2 ⟨rfl, hc2⟩; have HC2 := hide hc2; clear hc2)
    | (at_make; refine wpList_make_full _ rfl (.tmp 23) (.tmp 23) 52 rfl w2.heap.size 4 b_i (.bool false) 1 Tryd.underlying52 b_hi b_hz b_hs .i64 .i64 (l.length : Int) (l.length : Int) l.length rfl rfl rfl rfl hmb hml (Nat.le_refl _) ?_; intro w3 ho3 hg3; have HO3 := hide ho3; have HG3 := hide hg3; clear ho3 hg3))
  obtain ⟨g1, hg1⟩ : ∃ g1, w2.heap.size = g1 := ⟨_, rfl⟩
  have hb3 : Blk w3 g1 4 (toldA l 0) := by
    have h := own_full (unhide HO3) (by simp [madeCells])
    rw [show (Value.bool false).cells = #[Value.bool false] from rfl, fnA_made, hg1] at h
    exact h
  have hc3 : Chg (fun _ => False) w2 w3 := (Chg.refl _ w2).grown (unhide HG3) (fun k h => by cases h)
  rw [hg1]
  have hcw3 := (unhide HC2).trans' hc3
  have HG1 := hide (show w.heap.size ≤ g1 by have := (unhide HC2).size; omega)
  have HB3 := hide hb3
  have HCW3 := hide hcw3
  have HRL := hide (unhide HR).low
  have HCL := hide (fun W (hW : Chg (fun j => w.heap.size ≤ j) w W) => (unhide HRL).chg hW (fun b hb _ h => by omega))
  clear hb3 hc3 hcw3 hg1 HO3 HG3 HC2 HC1 HR
  go_loopw [27] (fun i wr => ∃ k : Nat, i = .int .i64 (k : Int) ∧ k ≤ l.length ∧ Blk wr g1 4 (toldA l k) ∧ Chg (fun j => j = g1) w3 wr) (fun i _ => l.length - (intOf i).toNat)
  case atStart => exact ⟨0, rfl, Nat.zero_le _, unhide HB3, Chg.refl _ _⟩
  case round =>
    clear HB3
    obtain ⟨wq, rfl⟩ : ∃ wq : World, wq = wr := ⟨_, rfl⟩
    obtain ⟨k, rfl, hk, hbk, hch⟩ := hrel
    have hcw : Chg (fun j => w.heap.size ≤ j) w wq := ((unhide HCW3).mono (fun _ _ h => h.elim)).trans hch (fun i hi h => by have := unhide HG1; have : i = g1 := h; omega)
    have hcwF : Chg (fun _ => False) w wq := (unhide HCW3).trans hch (fun i hi h => by have := unhide HG1; have : i = g1 := h; omega)
    have HCH := hide hch
    have HBK := hide hbk
    have HCWF := hide hcwF
    by_cases hlt : k < l.length
    · have hki : (k : Int) < (l.length : Int) := by omega
      obtain ⟨b, o, rfl, _, hat⟩ := code_at ((unhide HCL) _ hcw) (by rintro rfl; simp at hlt)
      have hx := List.getElem?_eq_getElem hlt
      generalize l[k] = x at *
      obtain ⟨q0, q1, q2⟩ := hat k x hx
      obtain ⟨i1, i2, i3, i4, i5, i6, i7, i8⟩ := insB_parts ((unhide HIN) x (List.mem_of_getElem? hx))
      have hto := (unhide HTO) x (List.mem_of_getElem? hx)
      have HNX := hide (toldA_next hx)
      obtain ⟨xo, xa, xb⟩ := x
      simp only at i1 i2 i3 i4 i5 i6 q0 q1 q2 hto
      obtain ⟨a, rfl⟩ : ∃ a : Nat, xa = (a : Int) := ⟨xa.toNat, by omega⟩
      have HGO := hide (fun W => goes_any xo W)
      have h1 := hbk.alloc (.cells #[.int .i64 xo, .int .i64 (a : Int), .int .i64 xb] 42)
      cases hg : goesB xo with
      | false =>
        rw [hg] at HGO
        have hnx : toldA l k = toldA l (k + 1) := by
          rcases unhide HNX with h | h
          · rw [if_neg (by simp [hg])] at h; exact h
          · simp only at h; omega
        have HNX2 := hide hnx
        have HH1 := hide h1
        have HC5 := hide (hch.alloc (.cells #[.int .i64 xo, .int .i64 (a : Int), .int .i64 xb] 42))
        clear hat hx hbk hch hcw hcwF hnx h1 hg hto i7 i8
        go_wp2_with (go_at_call 26; (with_reducible refine (unhide HGO _).mono ?_); rintro e w4 ⟨rfl, rfl⟩)
        go_roundw
        case rel => exact ⟨k + 1, by go_num, by omega, by rw [← unhide HNX2]; exact unhide HH1, unhide HC5⟩
        case measure => simp [intOf]; omega
      | true =>
        rw [hg] at HGO
        have hal := hto hg
        have hnx : (toldA l k).setIfInBounds a (.bool true) = toldA l (k + 1) := by
          rcases unhide HNX with h | h
          · rw [if_pos hg] at h; simpa using h
          · simp only at h; omega
        have HNX2 := hide hnx
        have c0 := h1.cell a
        rw [show (toldA l k)[a]? = some (.bool (toldK l k a)) from fnA_get _ (by omega)] at c0
        have c1 := h1.frozen a
        have HH1 := hide h1
        have HC5 := hide (hch.alloc (.cells #[.int .i64 xo, .int .i64 (a : Int), .int .i64 xb] 42))
        generalize toldK l k a = tb at *
        clear hat hx hbk hch hcw hcwF hnx h1 hg hto i7 i8
        go_wp2_with (go_at_call 26; (with_reducible refine (unhide HGO _).mono ?_); rintro e w4 ⟨rfl, rfl⟩)
        go_roundw
        case rel => exact ⟨k + 1, by go_num, by omega, by rw [← unhide HNX2]; exact (unhide HH1).set_ a _, (unhide HC5).setCell (fun _ => rfl) _⟩
        case measure => simp [intOf]; omega
    · obtain rfl : k = l.length := by omega
      have hki : ¬ (l.length : Int) < (l.length : Int) := by omega
      clear hbk hch hcw hcwF
      go_wp2_with (first
        | (at_make; refine wpList_make_full _ rfl (.tmp 40) (.tmp 40) 35 rfl wq.heap.size 9 q_i (.string ⟨#[]⟩) 1 Tryd.underlying35 q_hi q_hz q_hs .i64 .i64 (l.length : Int) (l.length : Int) l.length rfl rfl rfl rfl hmq hml (Nat.le_refl _) ?_; intro w4 ho4 hg4; have HO4 := hide ho4; have HG4 := hide hg4; clear ho4 hg4))
      obtain ⟨g2, hg2⟩ : ∃ g2, wq.heap.size = g2 := ⟨_, rfl⟩
      have hb4 : Blk w4 g2 9 (nameA l 0) := by
        have h := own_full (unhide HO4) (by simp [madeCells])
        rw [show (Value.string ⟨#[]⟩).cells = #[Value.string ⟨#[]⟩] from rfl, fnA_made, hg2] at h
        have e : nameA l 0 = fnA l.length fun _ => Value.string ⟨#[]⟩ := fnA_ext fun j _ => by rw [if_neg (by omega)]
        rw [e]
        exact h
      have hc4 : Chg (fun _ => False) wq w4 := (Chg.refl _ wq).grown (unhide HG4) (fun k h => by cases h)
      rw [hg2]
      have HB4 := hide hb4
      have HTA := hide ((unhide HBK).chg hc4 id)
      have HCW4 := hide ((unhide HCWF).trans' hc4)
      have HG12 := hide (show g1 < g2 by have := (unhide HBK).lt; omega)
      have HG2w := hide (show w.heap.size ≤ g2 by have := unhide HG1; have := (unhide HBK).lt; omega)
      clear hb4 hc4 hg2 HO4 HG4 HBK HCH HCWF HCW3
      go_loopw [9, 44] (fun nv i wr => ∃ k : Nat, i = .int .i64 (k : Int) ∧ k ≤ l.length ∧ nv = .int .i64 ((countT l k : Nat) : Int) ∧ Blk wr g2 9 (nameA l k) ∧ Chg (fun j => j = g2) w4 wr) (fun _ i _ => l.length - (intOf i).toNat)
      case atStart => exact ⟨0, rfl, Nat.zero_le _, rfl, unhide HB4, Chg.refl _ _⟩
      case round =>
        clear HB4
        obtain ⟨wy, rfl⟩ : ∃ wy : World, wy = wr := ⟨_, rfl⟩
        obtain ⟨k, rfl, hk, rfl, hbk, hch⟩ := hrel
        have HCH := hide hch
        have HBK := hide hbk
        have hta := (unhide HTA).chg hch (show ¬ g1 = g2 by have := unhide HG12; omega)
        have hcwF : Chg (fun _ => False) w wy := (unhide HCW4).trans hch (fun i hi h => by have := unhide HG2w; have : i = g2 := h; omega)
        have HCWF := hide hcwF
        have HTA2 := hide hta
        by_cases hlt : k < l.length
        · have hki : (k : Int) < (l.length : Int) := by omega
          have hcl := countT_le l k
          have c0 := hta.cell k
          rw [show (toldA l l.length)[k]? = some (.bool (toldK l l.length k)) from fnA_get _ hlt, toldK_all] at c0
          have HCT := hide (show countT l (k + 1) = if told l k = true then countT l k + 1 else countT l k from rfl)
          have HNA := hide (nameA_next l k)
          have HNL := hide (show nameL l k = 76 :: Lib.decDigits (countT l k) from rfl)
          have HIT := hide (itoa_any (countT l k) (by omega) wy ((unhide HLY) _ hcwF))
          have hdl := dec_len1 (countT l k)
          generalize countT l k = n at *
          have HE2 := hide (show (⟨#[76]⟩ : ByteArray) ++ (⟨(Lib.decDigits n).toArray⟩ : ByteArray) = ⟨(nameL l k).toArray⟩ by
            rw [unhide HNL, show (⟨#[76]⟩ : ByteArray) = ⟨[76].toArray⟩ from rfl, str_cat]; rfl)
          generalize Lib.decDigits n = D at *
          have hgk : (nameA l k)[k]? = some (.string ⟨#[]⟩) := by
            have := fnA_get (n := l.length) (fun j => Value.string ⟨(if j < k ∧ told l j = true then nameL l j else []).toArray⟩) hlt
            rw [if_neg (by omega)] at this
            exact this
          cases htk : told l k with
          | false =>
            rw [htk] at c0 HCT HNA
            have HNA2 := hide (show nameA l k = nameA l (k + 1) by have := unhide HNA; rw [if_neg (by simp)] at this; exact this)
            have HCT2 := hide (show countT l (k + 1) = n by rw [unhide HCT, if_neg (by simp)])
            clear HCT HNA hbk hch hta hcwF hgk htk
            go_wp2_with fail
            go_roundw
            case rel => exact ⟨k + 1, by go_num, by omega, by rw [unhide HCT2], by rw [← unhide HNA2]; exact unhide HBK, unhide HCH⟩
            case measure => simp [intOf]; omega
          | true =>
            rw [htk] at c0 HCT HNA
            have HNA2 := hide (show (nameA l k).setIfInBounds k (.string ⟨(nameL l k).toArray⟩) = nameA l (k + 1) by have := unhide HNA; rw [if_pos rfl] at this; exact this)
            have HCT2 := hide (show countT l (k + 1) = n + 1 by rw [unhide HCT, if_pos rfl])
            have HGK := hide hgk
            clear HCT HNA hbk hch hta hcwF hgk htk
            go_wp2_with (go_at_call 27; (with_reducible refine (unhide HIT).mono ?_); rintro e w5 ⟨rfl, hc5⟩; have HC5 := hide hc5; have HB5 := hide ((unhide HBK).chg hc5 id); have c1 := (unhide HB5).cell k; rw [unhide HGK] at c1; have c2 := (unhide HB5).frozen k; clear hc5)
            go_roundw
            case rel =>
              refine ⟨k + 1, by go_num, by omega, by rw [unhide HCT2]; go_num, ?_, ((unhide HCH).trans (unhide HC5) (fun _ _ h => h.elim)).setCell (fun _ => rfl) _⟩
              rw [← unhide HNA2, unhide HE2]
              exact (unhide HB5).set_ k _
            case measure => simp [intOf]; omega
        · obtain rfl : k = l.length := by omega
          have hki : ¬ (l.length : Int) < (l.length : Int) := by omega
          clear hbk hch hta hcwF
          go_wp2_with fail
          obtain ⟨b, hb⟩ : ∃ b, wy.heap.size = b := ⟨_, rfl⟩
          obtain ⟨wc, hwc⟩ : ∃ wc, wy.alloc (.cells #[.pointer none, .slice none 0 0] 58) = wc := ⟨_, rfl⟩
          have hcc : Chg (fun _ => False) wy (wy.alloc (.cells #[.pointer none, .slice none 0 0] 58)) := (Chg.refl _ wy).alloc _
          have bkb := Blk.new wy 58 #[.pointer none, .slice none 0 0]
          rw [hwc] at hcc bkb ⊢
          rw [hb] at bkb ⊢
          have hbld : Bld b [] wc := Lib.IsBuilderF.of (.inl ⟨Nat.le_refl _, .slice none 0 0, bkb, World.ownsRow_nil _ _ _ _, by simp [Value.ownBlock]⟩)
          have hsz := (unhide HCWF).size
          have hg2b := (unhide HBK).lt
          have HBG := hide (show w.heap.size ≤ b ∧ g1 < b ∧ g2 < b by have := unhide HG12; omega)
          have HLOW := hide (fun W (hW : Chg (fun j => b ≤ j) wc W) => show Blk W g1 4 (toldA l l.length) ∧ Blk W g2 9 (nameA l l.length) ∧ Rd (fun b => b < w.heap.size) W A (l.flatMap insv) ∧ Lay W from by
            obtain ⟨h1, h2, h3⟩ := unhide HBG
            have hcw := ((unhide HCWF).trans' hcc)
            have hW2 : Chg (fun _ => False) w W := hcw.trans hW (fun i hi h => by omega)
            refine ⟨((unhide HTA2).chg hcc id).chg hW (by omega), ((unhide HBK).chg hcc id).chg hW (by omega), (unhide HRL).chg hW2 (fun _ _ _ => id), unhide HLY _ hW2⟩)
          have HFIN := hide (fun W (hW : Chg (fun j => b ≤ j) wc W) => show Chg (fun _ => False) w W from ((unhide HCWF).trans' hcc).trans hW (fun i hi h => by have := (unhide HBG).1; omega))
          have HBLD := hide hbld
          clear hcc bkb hbld hsz hg2b hb hwc HCH HBK HTA HTA2 HCW4 HCWF HG12 HG2w HG1 HRL HCL
          go_loopw [62] (fun i wr => ∃ (k : Nat) (bs : Bs), i = .int .i64 (k : Int) ∧ k ≤ l.length ∧ Bld b bs wr ∧ bs ++ showK l k (l.drop k) = SH ∧ Chg (fun j => b ≤ j) wc wr) (fun i _ => l.length - (intOf i).toNat)
          case atStart => exact ⟨0, [], rfl, Nat.zero_le _, unhide HBLD, unhide HS0, Chg.refl _ _⟩
          case round =>
            clear HBLD HS0
            obtain ⟨wz, rfl⟩ : ∃ wz : World, wz = wr := ⟨_, rfl⟩
            obtain ⟨k, bs, rfl, hk, hbd, hS, hch⟩ := hrel
            have HCH := hide hch
            by_cases hlt : k < l.length
            · have hki : (k : Int) < (l.length : Int) := by omega
              have hbl : bs.length ≤ 1000000000 := by
                have := congrArg List.length hS
                rw [List.length_append] at this
                omega
              obtain ⟨hta, hna, hrd, hly⟩ := (unhide HLOW) _ hch
              obtain ⟨rb, ro, rfl, _, hat⟩ := code_at hrd (by rintro rfl; simp at hlt)
              have hx := List.getElem?_eq_getElem hlt
              generalize l[k] = x at *
              obtain ⟨q0, q1, q2⟩ := hat k x hx
              obtain ⟨i1, i2, i3, i4, i5, i6, i7, i8⟩ := insB_parts ((unhide HIN) x (List.mem_of_getElem? hx))
              have hto := (unhide HTO) x (List.mem_of_getElem? hx)
              have HTOLD := hide (fun h => told_of_mem (List.mem_of_getElem? hx) h i3)
              have HNX := hide ((unhide HTN) k x hx)
              obtain ⟨xo, xa, xb⟩ := x
              simp only at i1 i2 i3 i4 i5 i6 q0 q1 q2 hto HTOLD
              obtain ⟨o, rfl⟩ : ∃ o : Nat, xo = (o : Int) := ⟨xo.toNat, by omega⟩
              obtain ⟨a, rfl⟩ : ∃ a : Nat, xa = (a : Int) := ⟨xa.toNat, by omega⟩
              obtain ⟨z, rfl⟩ : ∃ z : Nat, xb = (z : Int) := ⟨xb.toNat, by omega⟩
              have ho20 : o ≤ 20 := by omega
              have ha : a ≤ 1048576 := by omega
              have hz : z ≤ 1048576 := by omega
              obtain ⟨w4, hw4⟩ : ∃ w4, wz.alloc (.cells #[.int .i64 (o : Int), .int .i64 (a : Int), .int .i64 (z : Int)] 42) = w4 := ⟨_, rfl⟩
              have bk := Blk.new wz 42 #[.int .i64 (o : Int), .int .i64 (a : Int), .int .i64 (z : Int)]
              have hc4 : Chg (fun _ => False) wz (wz.alloc (.cells #[.int .i64 (o : Int), .int .i64 (a : Int), .int .i64 (z : Int)] 42)) := (Chg.refl _ wz).alloc _
              have hbz := hbd.lt
              have HS := hide hS
              have hto1 := hide hto
              clear hx hS hta hna hrd hat hto i7 i8
              go_upto_region 24 with fail
              rw [hw4] at bk hc4
              obtain ⟨g13, hg13⟩ : ∃ g13, wz.heap.size = g13 := ⟨_, rfl⟩
              rw [hg13] at bk hbz ⊢
              have HB13 := hide (show g13 ≠ b by omega)
              have HCW := hide (hch.trans hc4 (fun _ _ h => h.elim))
              have HBX := hide bk
              have HBD := hide (hbd.chg hc4)
              have l1 := nameL_len l k
              have l2 := nameL_len l a
              have l3 := dec_len1 a
              have l4 := dec_len1 z
              have l5 := opName_len o ho20
              have HONM := hide (fun W (hW : Lay W) => opName_any o ho20 W hW)
              have HGO := hide (fun W => goes_any (o : Int) W)
              have HNUM := hide (fun n h W (hW : Lay W) => numbers_of o n h W hW)
              have HIA := hide (fun W (hW : Lay W) => itoa_any a (by omega) W hW)
              have HIZ := hide (fun W (hW : Lay W) => itoa_any z (by omega) W hW)
              have HLI : Hid (∀ G : Bool, goesB (o : Int) = G → ∀ N : Nat, numsN (o : Int) = N → lineI l ⟨(o : Int), (a : Int), (z : Int)⟩ = 32 :: 32 :: (opName (o : Int) ++ ((if G then [nameL l a] else []) ++ ((if G then [(z : Int)].take N else [(a : Int), (z : Int)].take N)).map fun v => Lib.decDigits v.toNat).flatMap (32 :: ·))) := hide (by
                rintro G rfl N rfl
                rfl)
              have hng := numsN_goes (o := (o : Int))
              have hnl := numsN_le (o : Int)
              have HTC := hide (show ∀ W, Chg (fun j => b ≤ j) wc W → W.cell? ⟨g1, k, none⟩ = some (.bool (told l k)) from fun W hW => by
                have := (unhide HLOW W hW).1.cell k
                rw [show (toldA l l.length)[k]? = some (.bool (toldK l l.length k)) from fnA_get _ hlt, toldK_all] at this
                exact this)
              have HNC := hide (show told l k = true → ∀ W, Chg (fun j => b ≤ j) wc W → W.cell? ⟨g2, k, none⟩ = some (.string ⟨(nameL l k).toArray⟩) from fun ht W hW => by
                have := (unhide HLOW W hW).2.1.cell k
                rw [show (nameA l l.length)[k]? = _ from fnA_get (n := l.length) (fun j => Value.string ⟨(if j < l.length ∧ told l j = true then nameL l j else []).toArray⟩) hlt, if_pos ⟨hlt, ht⟩] at this
                exact this)
              have HNAC := hide (show goesB (o : Int) = true → ∀ W, Chg (fun j => b ≤ j) wc W → W.cell? ⟨g2, a, none⟩ = some (.string ⟨(nameL l a).toArray⟩) from fun hg W hW => by
                have hal := (unhide hto1) hg
                have hta := (unhide HTOLD) hg
                rw [Int.toNat_natCast] at hta
                have := (unhide HLOW W hW).2.1.cell a
                rw [show (nameA l l.length)[a]? = _ from fnA_get (n := l.length) (fun j => Value.string ⟨(if j < l.length ∧ told l j = true then nameL l j else []).toArray⟩) (by omega), if_pos ⟨by omega, hta⟩] at this
                exact this)
              have HLYW := hide (fun W (hW : Chg (fun j => b ≤ j) wc W) => (unhide HLOW W hW).2.2.2)
              have HAL := hide (fun h => show (a : Int) < (l.length : Int) from (unhide hto1) h)
              generalize nameL l k = NK at *
              generalize nameL l a = NA at *
              generalize opName (o : Int) = OP at *
              obtain ⟨DA, hda⟩ : ∃ DA, Lib.decDigits a = DA := ⟨_, rfl⟩
              obtain ⟨DZ, hdz⟩ : ∃ DZ, Lib.decDigits z = DZ := ⟨_, rfl⟩
              rw [hda] at HIA l3
              rw [hdz] at HIZ l4
              have HDAE := hide hda
              have HDZE := hide hdz
              clear hda hdz
              have HB1 := hide (bytes_of NK)
              have HB2 := hide (bytes_of NA)
              have HB3 := hide (bytes_of DA)
              have HB4 := hide (bytes_of DZ)
              have HB5 := hide (bytes_of OP)
              have g1_ : (⟨NK.toArray⟩ : ByteArray).size ≤ 20000000 := by show NK.toArray.size ≤ _; rw [List.size_toArray]; omega
              have g2_ : (⟨NA.toArray⟩ : ByteArray).size ≤ 20000000 := by show NA.toArray.size ≤ _; rw [List.size_toArray]; omega
              have g3_ : (⟨DA.toArray⟩ : ByteArray).size ≤ 20000000 := by show DA.toArray.size ≤ _; rw [List.size_toArray]; omega
              have g4_ : (⟨DZ.toArray⟩ : ByteArray).size ≤ 20000000 := by show DZ.toArray.size ≤ _; rw [List.size_toArray]; omega
              have g5_ : (⟨OP.toArray⟩ : ByteArray).size ≤ 20000000 := by show OP.toArray.size ≤ _; rw [List.size_toArray]; omega
              generalize (⟨NK.toArray⟩ : ByteArray) = XK at *
              generalize (⟨NA.toArray⟩ : ByteArray) = XA at *
              generalize (⟨DA.toArray⟩ : ByteArray) = YA at *
              generalize (⟨DZ.toArray⟩ : ByteArray) = YZ at *
              generalize (⟨OP.toArray⟩ : ByteArray) = XO at *
              have c0_ : (⟨#[32, 32]⟩ : ByteArray).size = 2 := rfl
              have c1_ : (⟨#[58, 10]⟩ : ByteArray).size = 2 := rfl
              have c2_ : (⟨#[32]⟩ : ByteArray).size = 1 := rfl
              clear hch hly hbd hc4 bk hw4 hg13 l1 l2 l3 l4 l5 q0 q1 q2
              have p9 := (unhide HTC) _ (unhide HCW)
              (obtain ⟨⟨x0, x1, x2⟩, f0, f1, f2⟩ := (unhide HBX).all3)
              cases htk : told l k
              all_goals
                rw [htk] at p9 HNX HNC
                have HNC2 := HNC
                clear htk HNC
              · go_upto_region 26 with fail
                obtain ⟨bs1, hbs1⟩ : ∃ bs1, bs = bs1 := ⟨_, rfl⟩
                rw [hbs1] at HBD
                have HB1E := hide (show bs ++ ([] : Bs) = bs1 by rw [List.append_nil, hbs1])
                have hb1l : bs1.length ≤ 1200000000 := by rw [← hbs1]; omega
                clear hbs1
                have HWSb := hide (fun W (hB : Bld b bs1 W) => ws_any b bs1 (⟨#[32, 32]⟩ ++ XO) W hB (by rw [ByteArray.size_append]; omega))
                have HON1 := hide (unhide HONM w4 (unhide HLYW _ (unhide HCW)))
                go_upto_region 28 with (first
                  | (go_at_call 29; (with_reducible refine (unhide HON1).mono ?_); rintro e w6 ⟨rfl, rfl⟩)
                  | (go_at_call 28; (with_reducible refine (unhide HWSb _ (unhide HBD)).mono ?_); rintro e w6 ⟨rfl, hb_, hkb⟩; have HBD := hide hb_; have HCW := hide ((unhide HCW).trans' hkb.lo); have HBX := hide (hkb.blk (unhide HBX) (by decide) (unhide HB13)); (obtain ⟨⟨x0, x1, x2⟩, f0, f1, f2⟩ := (unhide HBX).all3); clear hb_ hkb))
                obtain ⟨bs2, hbs2⟩ : ∃ bs2, bs1 ++ (⟨#[32, 32]⟩ ++ XO).data.toList = bs2 := ⟨_, rfl⟩
                rw [hbs2] at HBD
                have HB2E := hide hbs2
                have hb2l : bs2.length ≤ 1300000000 := by rw [← hbs2, List.length_append, data_cat, List.length_append]; have h1 : (⟨#[32, 32]⟩ : ByteArray).data.toList.length = 2 := rfl; have h2 : XO.data.toList.length = XO.size := rfl; omega
                obtain ⟨w7, hw7⟩ : ∃ w7, w6.alloc (.cells #[.int .i64 (a : Int), .int .i64 (z : Int)] 3) = w7 := ⟨_, rfl⟩
                have bk7 := Blk.new w6 3 #[.int .i64 (a : Int), .int .i64 (z : Int)]
                have hc7 : Chg (fun _ => False) w6 (w6.alloc (.cells #[.int .i64 (a : Int), .int .i64 (z : Int)] 3)) := (Chg.refl _ w6).alloc _
                have hb6 := (unhide HBD).lt
                rw [hw7] at bk7 hc7 ⊢
                obtain ⟨g14, hg14⟩ : ∃ g14, w6.heap.size = g14 := ⟨_, rfl⟩
                rw [hg14] at bk7 hb6 ⊢
                have HB14 := hide (show g14 ≠ b by omega)
                have HAR := hide bk7
                have hbd7 := hide ((unhide HBD).chg hc7)
                have hcw7 := hide ((unhide HCW).trans hc7 (fun _ _ h => h.elim))
                have hbx7 := hide ((unhide HBX).chg hc7 id)
                clear HBD HCW HBX x0 x1 x2 f0 f1 f2
                have HBD := hbd7
                have HCW := hcw7
                have HBX := hbx7
                (obtain ⟨⟨x0, x1, x2⟩, f0, f1, f2⟩ := (unhide HBX).all3)
                clear hbd7 hcw7 hbx7 bk7 hc7 hw7 hg14 hbs2
                cases hg : goesB (o : Int) with
                | false =>
                  rcases (show numsN (o : Int) = 0 ∨ numsN (o : Int) = 1 ∨ numsN (o : Int) = 2 by omega) with hN | hN | hN
                  · have HLI1 := hide (unhide HLI false hg 0 hN)
                    have HN1 := hide (fun W (hW : Lay W) => unhide HNUM 0 hN W hW)
                    have HG1 := hide (unhide HGO w7)
                    rw [hg] at HG1
                    clear hN hg HLI HNUM
                    go_upto_region 31 with (first
                      | (go_at_call 26; (with_reducible refine (unhide HG1).mono ?_); rintro e w8 ⟨rfl, rfl⟩))
                    have HN2 := hide (unhide HN1 w7 (unhide HLYW _ (unhide HCW)))
                    obtain ⟨bs3, hbs3⟩ : ∃ bs3, bs2 = bs3 := ⟨_, rfl⟩
                    rw [hbs3] at HBD
                    have HB3E := hide (show bs ++ (([] : Bs) ++ (⟨#[32, 32]⟩ ++ XO).data.toList) = bs3 by rw [← hbs3, ← unhide HB2E, ← unhide HB1E]; simp)
                    have hb3l : bs3.length ≤ 1500000000 := by rw [← hbs3]; omega
                    have HB3L := hide hb3l
                    have HARL := hide (show ((([] : List Bs)).flatMap (32 :: ·)).length ≤ 100000000 by
                      have h1 : DA.length = YA.size := by rw [← unhide HB3]; rfl
                      have h2 : DZ.length = YZ.size := by rw [← unhide HB4]; rfl
                      simp; try omega)
                    clear hbs3
                    go_wp2_with (first
                      | (go_at_call 30; (with_reducible refine (unhide HN2).mono ?_); rintro e w12 ⟨rfl, rfl⟩))
                    go_loopw [105] (fun jv wr => ∃ (j : Nat) (bs' : Bs), jv = .int .i64 (j : Int) ∧ j ≤ 0 ∧ Bld b bs' wr ∧ bs' ++ (([] : List Bs).drop j).flatMap (32 :: ·) = bs3 ++ ([] : List Bs).flatMap (32 :: ·) ∧ Chg (fun j => b ≤ j) wc wr ∧ Blk wr g14 3 #[.int .i64 (a : Int), .int .i64 (z : Int)]) (fun jv _ => 0 - (intOf jv).toNat)
                    case atStart => exact ⟨0, bs3, rfl, Nat.zero_le _, unhide HBD, rfl, unhide HCW, unhide HAR⟩
                    case round =>
                      obtain ⟨wr2, rfl⟩ : ∃ wr2 : World, wr2 = wr := ⟨_, rfl⟩
                      obtain ⟨j, bs', rfl, hj, hbd, heq, hch, har⟩ := hrel
                      have HBD2 := hide hbd
                      have HCW2 := hide hch
                      have HAR2 := hide har
                      have HEQ := hide heq
                      have hbl' : bs'.length ≤ 2000000000 := by
                        have h1 := congrArg List.length heq
                        have h2 := unhide HB3L
                        simp only [List.length_append] at h1
                        have h3 := unhide HARL
                        omega
                      have hly := (unhide HLYW) _ hch
                      obtain rfl : j = 0 := by omega
                      have HWB := hide (wb_any b bs' wr2 hbd (by omega))
                      clear hbd heq hch har hly
                      go_wp2_with (first
                        | (go_at_call 31; (with_reducible refine (unhide HWB).mono ?_); rintro e w11 ⟨rfl, hb_, hkb⟩; have HBD11 := hide hb_; have HCW11 := hide ((unhide HCW2).trans' hkb.lo); clear hb_ hkb))
                      go_roundw
                      case rel =>
                        refine ⟨k + 1, _, by go_num, by omega, unhide HBD11, ?_, unhide HCW11⟩
                        have he := unhide HEQ
                        simp only [List.drop_nil, List.flatMap_nil, List.append_nil] at he
                        rw [he, ← unhide HS, unhide HNX, unhide HLI1, ← unhide HB3E]
                        simp [unhide HB5]
                      case measure => simp [intOf]; omega
                  · have HLI1 := hide (unhide HLI false hg 1 hN)
                    have HN1 := hide (fun W (hW : Lay W) => unhide HNUM 1 hN W hW)
                    have HG1 := hide (unhide HGO w7)
                    rw [hg] at HG1
                    clear hN hg HLI HNUM
                    go_upto_region 31 with (first
                      | (go_at_call 26; (with_reducible refine (unhide HG1).mono ?_); rintro e w8 ⟨rfl, rfl⟩))
                    have HN2 := hide (unhide HN1 w7 (unhide HLYW _ (unhide HCW)))
                    obtain ⟨bs3, hbs3⟩ : ∃ bs3, bs2 = bs3 := ⟨_, rfl⟩
                    rw [hbs3] at HBD
                    have HB3E := hide (show bs ++ (([] : Bs) ++ (⟨#[32, 32]⟩ ++ XO).data.toList) = bs3 by rw [← hbs3, ← unhide HB2E, ← unhide HB1E]; simp)
                    have hb3l : bs3.length ≤ 1500000000 := by rw [← hbs3]; omega
                    have HB3L := hide hb3l
                    have HARL := hide (show ((([DA] : List Bs)).flatMap (32 :: ·)).length ≤ 100000000 by
                      have h1 : DA.length = YA.size := by rw [← unhide HB3]; rfl
                      have h2 : DZ.length = YZ.size := by rw [← unhide HB4]; rfl
                      simp; try omega)
                    clear hbs3
                    go_wp2_with (first
                      | (go_at_call 30; (with_reducible refine (unhide HN2).mono ?_); rintro e w12 ⟨rfl, rfl⟩))
                    go_loopw [105] (fun jv wr => ∃ (j : Nat) (bs' : Bs), jv = .int .i64 (j : Int) ∧ j ≤ 1 ∧ Bld b bs' wr ∧ bs' ++ (([DA] : List Bs).drop j).flatMap (32 :: ·) = bs3 ++ ([DA] : List Bs).flatMap (32 :: ·) ∧ Chg (fun j => b ≤ j) wc wr ∧ Blk wr g14 3 #[.int .i64 (a : Int), .int .i64 (z : Int)]) (fun jv _ => 1 - (intOf jv).toNat)
                    case atStart => exact ⟨0, bs3, rfl, Nat.zero_le _, unhide HBD, rfl, unhide HCW, unhide HAR⟩
                    case round =>
                      obtain ⟨wr2, rfl⟩ : ∃ wr2 : World, wr2 = wr := ⟨_, rfl⟩
                      obtain ⟨j, bs', rfl, hj, hbd, heq, hch, har⟩ := hrel
                      have HBD2 := hide hbd
                      have HCW2 := hide hch
                      have HAR2 := hide har
                      have HEQ := hide heq
                      have hbl' : bs'.length ≤ 2000000000 := by
                        have h1 := congrArg List.length heq
                        have h2 := unhide HB3L
                        simp only [List.length_append] at h1
                        have h3 := unhide HARL
                        omega
                      have hly := (unhide HLYW) _ hch
                      obtain rfl | rfl : j = 0 ∨ j = 1 := by omega
                      · (obtain ⟨⟨a0, a1⟩, _⟩ := har.all2)
                        have HIT := hide (unhide HIA wr2 hly)
                        have HWS := hide (fun W (hB : Bld b bs' W) => ws_any b bs' (⟨#[32]⟩ ++ YA) W hB (by rw [ByteArray.size_append]; omega))
                        clear hbd heq hch har hly
                        go_wp2_with (first
                          | (go_at_call 27; (with_reducible refine (unhide HIT).mono ?_); rintro e w9 ⟨rfl, hc9⟩; have HBD9 := hide ((unhide HBD2).chg hc9); have HCW9 := hide ((unhide HCW2).trans hc9 (fun _ _ h => h.elim)); have HAR9 := hide ((unhide HAR2).chg hc9 id); clear hc9)
                          | (go_at_call 28; (with_reducible refine (unhide HWS _ (unhide HBD9)).mono ?_); rintro e w10 ⟨rfl, hb_, hkb⟩; have HBD10 := hide hb_; have HCW10 := hide ((unhide HCW9).trans' hkb.lo); have HAR10 := hide (hkb.blk (unhide HAR9) (by decide) (unhide HB14)); clear hb_ hkb))
                        go_roundw
                        case rel =>
                          refine ⟨1, _, rfl, by omega, unhide HBD10, ?_, unhide HCW10, unhide HAR10⟩
                          rw [← unhide HEQ]
                          simp [unhide HB3]
                        case measure => simp [intOf]
                      · have HWB := hide (wb_any b bs' wr2 hbd (by omega))
                        clear hbd heq hch har hly
                        go_wp2_with (first
                          | (go_at_call 31; (with_reducible refine (unhide HWB).mono ?_); rintro e w11 ⟨rfl, hb_, hkb⟩; have HBD11 := hide hb_; have HCW11 := hide ((unhide HCW2).trans' hkb.lo); clear hb_ hkb))
                        go_roundw
                        case rel =>
                          refine ⟨k + 1, _, by go_num, by omega, unhide HBD11, ?_, unhide HCW11⟩
                          have he := unhide HEQ
                          simp only [List.drop_nil, List.drop_succ_cons, List.flatMap_nil, List.append_nil] at he
                          rw [he, ← unhide HS, unhide HNX, unhide HLI1, ← unhide HB3E]
                          simp [unhide HB5, unhide HDAE]
                        case measure => simp [intOf]; omega
                  · have HLI1 := hide (unhide HLI false hg 2 hN)
                    have HN1 := hide (fun W (hW : Lay W) => unhide HNUM 2 hN W hW)
                    have HG1 := hide (unhide HGO w7)
                    rw [hg] at HG1
                    clear hN hg HLI HNUM
                    go_upto_region 31 with (first
                      | (go_at_call 26; (with_reducible refine (unhide HG1).mono ?_); rintro e w8 ⟨rfl, rfl⟩))
                    have HN2 := hide (unhide HN1 w7 (unhide HLYW _ (unhide HCW)))
                    obtain ⟨bs3, hbs3⟩ : ∃ bs3, bs2 = bs3 := ⟨_, rfl⟩
                    rw [hbs3] at HBD
                    have HB3E := hide (show bs ++ (([] : Bs) ++ (⟨#[32, 32]⟩ ++ XO).data.toList) = bs3 by rw [← hbs3, ← unhide HB2E, ← unhide HB1E]; simp)
                    have hb3l : bs3.length ≤ 1500000000 := by rw [← hbs3]; omega
                    have HB3L := hide hb3l
                    have HARL := hide (show ((([DA, DZ] : List Bs)).flatMap (32 :: ·)).length ≤ 100000000 by
                      have h1 : DA.length = YA.size := by rw [← unhide HB3]; rfl
                      have h2 : DZ.length = YZ.size := by rw [← unhide HB4]; rfl
                      simp; try omega)
                    clear hbs3
                    go_wp2_with (first
                      | (go_at_call 30; (with_reducible refine (unhide HN2).mono ?_); rintro e w12 ⟨rfl, rfl⟩))
                    go_loopw [105] (fun jv wr => ∃ (j : Nat) (bs' : Bs), jv = .int .i64 (j : Int) ∧ j ≤ 2 ∧ Bld b bs' wr ∧ bs' ++ (([DA, DZ] : List Bs).drop j).flatMap (32 :: ·) = bs3 ++ ([DA, DZ] : List Bs).flatMap (32 :: ·) ∧ Chg (fun j => b ≤ j) wc wr ∧ Blk wr g14 3 #[.int .i64 (a : Int), .int .i64 (z : Int)]) (fun jv _ => 2 - (intOf jv).toNat)
                    case atStart => exact ⟨0, bs3, rfl, Nat.zero_le _, unhide HBD, rfl, unhide HCW, unhide HAR⟩
                    case round =>
                      obtain ⟨wr2, rfl⟩ : ∃ wr2 : World, wr2 = wr := ⟨_, rfl⟩
                      obtain ⟨j, bs', rfl, hj, hbd, heq, hch, har⟩ := hrel
                      have HBD2 := hide hbd
                      have HCW2 := hide hch
                      have HAR2 := hide har
                      have HEQ := hide heq
                      have hbl' : bs'.length ≤ 2000000000 := by
                        have h1 := congrArg List.length heq
                        have h2 := unhide HB3L
                        simp only [List.length_append] at h1
                        have h3 := unhide HARL
                        omega
                      have hly := (unhide HLYW) _ hch
                      obtain rfl | rfl | rfl : j = 0 ∨ j = 1 ∨ j = 2 := by omega
                      · (obtain ⟨⟨a0, a1⟩, _⟩ := har.all2)
                        have HIT := hide (unhide HIA wr2 hly)
                        have HWS := hide (fun W (hB : Bld b bs' W) => ws_any b bs' (⟨#[32]⟩ ++ YA) W hB (by rw [ByteArray.size_append]; omega))
                        clear hbd heq hch har hly
                        go_wp2_with (first
                          | (go_at_call 27; (with_reducible refine (unhide HIT).mono ?_); rintro e w9 ⟨rfl, hc9⟩; have HBD9 := hide ((unhide HBD2).chg hc9); have HCW9 := hide ((unhide HCW2).trans hc9 (fun _ _ h => h.elim)); have HAR9 := hide ((unhide HAR2).chg hc9 id); clear hc9)
                          | (go_at_call 28; (with_reducible refine (unhide HWS _ (unhide HBD9)).mono ?_); rintro e w10 ⟨rfl, hb_, hkb⟩; have HBD10 := hide hb_; have HCW10 := hide ((unhide HCW9).trans' hkb.lo); have HAR10 := hide (hkb.blk (unhide HAR9) (by decide) (unhide HB14)); clear hb_ hkb))
                        go_roundw
                        case rel =>
                          refine ⟨1, _, rfl, by omega, unhide HBD10, ?_, unhide HCW10, unhide HAR10⟩
                          rw [← unhide HEQ]
                          simp [unhide HB3]
                        case measure => simp [intOf]
                      · (obtain ⟨⟨a0, a1⟩, _⟩ := har.all2)
                        have HIT := hide (unhide HIZ wr2 hly)
                        have HWS := hide (fun W (hB : Bld b bs' W) => ws_any b bs' (⟨#[32]⟩ ++ YZ) W hB (by rw [ByteArray.size_append]; omega))
                        clear hbd heq hch har hly
                        go_wp2_with (first
                          | (go_at_call 27; (with_reducible refine (unhide HIT).mono ?_); rintro e w9 ⟨rfl, hc9⟩; have HBD9 := hide ((unhide HBD2).chg hc9); have HCW9 := hide ((unhide HCW2).trans hc9 (fun _ _ h => h.elim)); have HAR9 := hide ((unhide HAR2).chg hc9 id); clear hc9)
                          | (go_at_call 28; (with_reducible refine (unhide HWS _ (unhide HBD9)).mono ?_); rintro e w10 ⟨rfl, hb_, hkb⟩; have HBD10 := hide hb_; have HCW10 := hide ((unhide HCW9).trans' hkb.lo); have HAR10 := hide (hkb.blk (unhide HAR9) (by decide) (unhide HB14)); clear hb_ hkb))
                        go_roundw
                        case rel =>
                          refine ⟨2, _, rfl, by omega, unhide HBD10, ?_, unhide HCW10, unhide HAR10⟩
                          rw [← unhide HEQ]
                          simp [unhide HB4]
                        case measure => simp [intOf]
                      · have HWB := hide (wb_any b bs' wr2 hbd (by omega))
                        clear hbd heq hch har hly
                        go_wp2_with (first
                          | (go_at_call 31; (with_reducible refine (unhide HWB).mono ?_); rintro e w11 ⟨rfl, hb_, hkb⟩; have HBD11 := hide hb_; have HCW11 := hide ((unhide HCW2).trans' hkb.lo); clear hb_ hkb))
                        go_roundw
                        case rel =>
                          refine ⟨k + 1, _, by go_num, by omega, unhide HBD11, ?_, unhide HCW11⟩
                          have he := unhide HEQ
                          simp only [List.drop_nil, List.drop_succ_cons, List.flatMap_nil, List.append_nil] at he
                          rw [he, ← unhide HS, unhide HNX, unhide HLI1, ← unhide HB3E]
                          simp [unhide HB5, unhide HDAE, unhide HDZE]
                        case measure => simp [intOf]; omega
                | true =>
                  have hng1 := hng hg
                  rcases (show numsN (o : Int) = 0 ∨ numsN (o : Int) = 1 by omega) with hN | hN
                  · have HLI1 := hide (unhide HLI true hg 0 hN)
                    have HN1 := hide (fun W (hW : Lay W) => unhide HNUM 0 hN W hW)
                    have HG1 := hide (unhide HGO w7)
                    rw [hg] at HG1
                    have p10 := (unhide HNAC) hg _ (unhide HCW)
                    have hal := (unhide HAL) hg
                    have HWS8 := hide (ws_any b bs2 (⟨#[32]⟩ ++ XA) w7 (unhide HBD) (by rw [ByteArray.size_append]; omega))
                    clear hN hg HLI HNUM
                    go_upto_region 31 with (first
                      | (go_at_call 26; (with_reducible refine (unhide HG1).mono ?_); rintro e w8 ⟨rfl, rfl⟩)
                      | (go_at_call 28; (with_reducible refine (unhide HWS8).mono ?_); rintro e w8 ⟨rfl, hb_, hkb⟩; have HAR := hide (hkb.blk (unhide HAR) (by decide) (unhide HB14)); have HBD := hide hb_; have HCW := hide ((unhide HCW).trans' hkb.lo); have HBX := hide (hkb.blk (unhide HBX) (by decide) (unhide HB13)); (obtain ⟨⟨x0, x1, x2⟩, f0, f1, f2⟩ := (unhide HBX).all3); clear hb_ hkb))
                    have HN2 := hide (unhide HN1 w8 (unhide HLYW _ (unhide HCW)))
                    obtain ⟨bs3, hbs3⟩ : ∃ bs3, bs2 ++ (⟨#[32]⟩ ++ XA).data.toList = bs3 := ⟨_, rfl⟩
                    rw [hbs3] at HBD
                    have HB3E := hide (show bs ++ (([] : Bs) ++ ((⟨#[32, 32]⟩ ++ XO).data.toList ++ (⟨#[32]⟩ ++ XA).data.toList)) = bs3 by rw [← hbs3, ← unhide HB2E, ← unhide HB1E]; simp)
                    have hb3l : bs3.length ≤ 1500000000 := by rw [← hbs3, List.length_append, data_cat, List.length_append]; have h1 : (⟨#[32]⟩ : ByteArray).data.toList.length = 1 := rfl; have h2 : XA.data.toList.length = XA.size := rfl; omega
                    have HB3L := hide hb3l
                    have HARL := hide (show ((([] : List Bs)).flatMap (32 :: ·)).length ≤ 100000000 by
                      have h1 : DA.length = YA.size := by rw [← unhide HB3]; rfl
                      have h2 : DZ.length = YZ.size := by rw [← unhide HB4]; rfl
                      simp; try omega)
                    clear hbs3
                    go_wp2_with (first
                      | (go_at_call 30; (with_reducible refine (unhide HN2).mono ?_); rintro e w12 ⟨rfl, rfl⟩))
                    go_loopw [105] (fun jv wr => ∃ (j : Nat) (bs' : Bs), jv = .int .i64 (j : Int) ∧ j ≤ 0 ∧ Bld b bs' wr ∧ bs' ++ (([] : List Bs).drop j).flatMap (32 :: ·) = bs3 ++ ([] : List Bs).flatMap (32 :: ·) ∧ Chg (fun j => b ≤ j) wc wr ∧ Blk wr g14 3 #[.int .i64 (a : Int), .int .i64 (z : Int)]) (fun jv _ => 0 - (intOf jv).toNat)
                    case atStart => exact ⟨0, bs3, rfl, Nat.zero_le _, unhide HBD, rfl, unhide HCW, unhide HAR⟩
                    case round =>
                      obtain ⟨wr2, rfl⟩ : ∃ wr2 : World, wr2 = wr := ⟨_, rfl⟩
                      obtain ⟨j, bs', rfl, hj, hbd, heq, hch, har⟩ := hrel
                      have HBD2 := hide hbd
                      have HCW2 := hide hch
                      have HAR2 := hide har
                      have HEQ := hide heq
                      have hbl' : bs'.length ≤ 2000000000 := by
                        have h1 := congrArg List.length heq
                        have h2 := unhide HB3L
                        simp only [List.length_append] at h1
                        have h3 := unhide HARL
                        omega
                      have hly := (unhide HLYW) _ hch
                      obtain rfl : j = 0 := by omega
                      have HWB := hide (wb_any b bs' wr2 hbd (by omega))
                      clear hbd heq hch har hly
                      go_wp2_with (first
                        | (go_at_call 31; (with_reducible refine (unhide HWB).mono ?_); rintro e w11 ⟨rfl, hb_, hkb⟩; have HBD11 := hide hb_; have HCW11 := hide ((unhide HCW2).trans' hkb.lo); clear hb_ hkb))
                      go_roundw
                      case rel =>
                        refine ⟨k + 1, _, by go_num, by omega, unhide HBD11, ?_, unhide HCW11⟩
                        have he := unhide HEQ
                        simp only [List.drop_nil, List.flatMap_nil, List.append_nil] at he
                        rw [he, ← unhide HS, unhide HNX, unhide HLI1, ← unhide HB3E]
                        simp [unhide HB2, unhide HB5]
                      case measure => simp [intOf]; omega
                  · have HLI1 := hide (unhide HLI true hg 1 hN)
                    have HN1 := hide (fun W (hW : Lay W) => unhide HNUM 1 hN W hW)
                    have HG1 := hide (unhide HGO w7)
                    rw [hg] at HG1
                    have p10 := (unhide HNAC) hg _ (unhide HCW)
                    have hal := (unhide HAL) hg
                    have HWS8 := hide (ws_any b bs2 (⟨#[32]⟩ ++ XA) w7 (unhide HBD) (by rw [ByteArray.size_append]; omega))
                    clear hN hg HLI HNUM
                    go_upto_region 31 with (first
                      | (go_at_call 26; (with_reducible refine (unhide HG1).mono ?_); rintro e w8 ⟨rfl, rfl⟩)
                      | (go_at_call 28; (with_reducible refine (unhide HWS8).mono ?_); rintro e w8 ⟨rfl, hb_, hkb⟩; have HAR := hide (hkb.blk (unhide HAR) (by decide) (unhide HB14)); have HBD := hide hb_; have HCW := hide ((unhide HCW).trans' hkb.lo); have HBX := hide (hkb.blk (unhide HBX) (by decide) (unhide HB13)); (obtain ⟨⟨x0, x1, x2⟩, f0, f1, f2⟩ := (unhide HBX).all3); clear hb_ hkb))
                    have HN2 := hide (unhide HN1 w8 (unhide HLYW _ (unhide HCW)))
                    obtain ⟨bs3, hbs3⟩ : ∃ bs3, bs2 ++ (⟨#[32]⟩ ++ XA).data.toList = bs3 := ⟨_, rfl⟩
                    rw [hbs3] at HBD
                    have HB3E := hide (show bs ++ (([] : Bs) ++ ((⟨#[32, 32]⟩ ++ XO).data.toList ++ (⟨#[32]⟩ ++ XA).data.toList)) = bs3 by rw [← hbs3, ← unhide HB2E, ← unhide HB1E]; simp)
                    have hb3l : bs3.length ≤ 1500000000 := by rw [← hbs3, List.length_append, data_cat, List.length_append]; have h1 : (⟨#[32]⟩ : ByteArray).data.toList.length = 1 := rfl; have h2 : XA.data.toList.length = XA.size := rfl; omega
                    have HB3L := hide hb3l
                    have HARL := hide (show ((([DZ] : List Bs)).flatMap (32 :: ·)).length ≤ 100000000 by
                      have h1 : DA.length = YA.size := by rw [← unhide HB3]; rfl
                      have h2 : DZ.length = YZ.size := by rw [← unhide HB4]; rfl
                      simp; try omega)
                    clear hbs3
                    go_wp2_with (first
                      | (go_at_call 30; (with_reducible refine (unhide HN2).mono ?_); rintro e w12 ⟨rfl, rfl⟩))
                    go_loopw [105] (fun jv wr => ∃ (j : Nat) (bs' : Bs), jv = .int .i64 (j : Int) ∧ j ≤ 1 ∧ Bld b bs' wr ∧ bs' ++ (([DZ] : List Bs).drop j).flatMap (32 :: ·) = bs3 ++ ([DZ] : List Bs).flatMap (32 :: ·) ∧ Chg (fun j => b ≤ j) wc wr ∧ Blk wr g14 3 #[.int .i64 (a : Int), .int .i64 (z : Int)]) (fun jv _ => 1 - (intOf jv).toNat)
                    case atStart => exact ⟨0, bs3, rfl, Nat.zero_le _, unhide HBD, rfl, unhide HCW, unhide HAR⟩
                    case round =>
                      obtain ⟨wr2, rfl⟩ : ∃ wr2 : World, wr2 = wr := ⟨_, rfl⟩
                      obtain ⟨j, bs', rfl, hj, hbd, heq, hch, har⟩ := hrel
                      have HBD2 := hide hbd
                      have HCW2 := hide hch
                      have HAR2 := hide har
                      have HEQ := hide heq
                      have hbl' : bs'.length ≤ 2000000000 := by
                        have h1 := congrArg List.length heq
                        have h2 := unhide HB3L
                        simp only [List.length_append] at h1
                        have h3 := unhide HARL
                        omega
                      have hly := (unhide HLYW) _ hch
                      obtain rfl | rfl : j = 0 ∨ j = 1 := by omega
                      · (obtain ⟨⟨a0, a1⟩, _⟩ := har.all2)
                        have HIT := hide (unhide HIZ wr2 hly)
                        have HWS := hide (fun W (hB : Bld b bs' W) => ws_any b bs' (⟨#[32]⟩ ++ YZ) W hB (by rw [ByteArray.size_append]; omega))
                        clear hbd heq hch har hly
                        go_wp2_with (first
                          | (go_at_call 27; (with_reducible refine (unhide HIT).mono ?_); rintro e w9 ⟨rfl, hc9⟩; have HBD9 := hide ((unhide HBD2).chg hc9); have HCW9 := hide ((unhide HCW2).trans hc9 (fun _ _ h => h.elim)); have HAR9 := hide ((unhide HAR2).chg hc9 id); clear hc9)
                          | (go_at_call 28; (with_reducible refine (unhide HWS _ (unhide HBD9)).mono ?_); rintro e w10 ⟨rfl, hb_, hkb⟩; have HBD10 := hide hb_; have HCW10 := hide ((unhide HCW9).trans' hkb.lo); have HAR10 := hide (hkb.blk (unhide HAR9) (by decide) (unhide HB14)); clear hb_ hkb))
                        go_roundw
                        case rel =>
                          refine ⟨1, _, rfl, by omega, unhide HBD10, ?_, unhide HCW10, unhide HAR10⟩
                          rw [← unhide HEQ]
                          simp [unhide HB4]
                        case measure => simp [intOf]
                      · have HWB := hide (wb_any b bs' wr2 hbd (by omega))
                        clear hbd heq hch har hly
                        go_wp2_with (first
                          | (go_at_call 31; (with_reducible refine (unhide HWB).mono ?_); rintro e w11 ⟨rfl, hb_, hkb⟩; have HBD11 := hide hb_; have HCW11 := hide ((unhide HCW2).trans' hkb.lo); clear hb_ hkb))
                        go_roundw
                        case rel =>
                          refine ⟨k + 1, _, by go_num, by omega, unhide HBD11, ?_, unhide HCW11⟩
                          have he := unhide HEQ
                          simp only [List.drop_nil, List.drop_succ_cons, List.flatMap_nil, List.append_nil] at he
                          rw [he, ← unhide HS, unhide HNX, unhide HLI1, ← unhide HB3E]
                          simp [unhide HB2, unhide HB5, unhide HDZE]
                        case measure => simp [intOf]; omega
              · have p10 := (unhide HNC2) rfl _ (unhide HCW)
                have HWS4 := hide (ws_any b bs (XK ++ ⟨#[58, 10]⟩) w4 (unhide HBD) (by rw [ByteArray.size_append]; omega))
                go_upto_region 26 with (first
                  | (go_at_call 28; (with_reducible refine (unhide HWS4).mono ?_); rintro e w5 ⟨rfl, hb_, hkb⟩; have HBD := hide hb_; have HCW := hide ((unhide HCW).trans' hkb.lo); have HBX := hide (hkb.blk (unhide HBX) (by decide) (unhide HB13)); (obtain ⟨⟨x0, x1, x2⟩, f0, f1, f2⟩ := (unhide HBX).all3); clear hb_ hkb))
                obtain ⟨bs1, hbs1⟩ : ∃ bs1, bs ++ (XK ++ ⟨#[58, 10]⟩).data.toList = bs1 := ⟨_, rfl⟩
                rw [hbs1] at HBD
                have HB1E := hide hbs1
                have hb1l : bs1.length ≤ 1200000000 := by rw [← hbs1, List.length_append, data_cat, List.length_append]; have h1 : (⟨#[58, 10]⟩ : ByteArray).data.toList.length = 2 := rfl; have h2 : XK.data.toList.length = XK.size := rfl; omega
                clear hbs1 p10
                have HWSb := hide (fun W (hB : Bld b bs1 W) => ws_any b bs1 (⟨#[32, 32]⟩ ++ XO) W hB (by rw [ByteArray.size_append]; omega))
                have HON1 := hide (unhide HONM w5 (unhide HLYW _ (unhide HCW)))
                go_upto_region 28 with (first
                  | (go_at_call 29; (with_reducible refine (unhide HON1).mono ?_); rintro e w6 ⟨rfl, rfl⟩)
                  | (go_at_call 28; (with_reducible refine (unhide HWSb _ (unhide HBD)).mono ?_); rintro e w6 ⟨rfl, hb_, hkb⟩; have HBD := hide hb_; have HCW := hide ((unhide HCW).trans' hkb.lo); have HBX := hide (hkb.blk (unhide HBX) (by decide) (unhide HB13)); (obtain ⟨⟨x0, x1, x2⟩, f0, f1, f2⟩ := (unhide HBX).all3); clear hb_ hkb))
                obtain ⟨bs2, hbs2⟩ : ∃ bs2, bs1 ++ (⟨#[32, 32]⟩ ++ XO).data.toList = bs2 := ⟨_, rfl⟩
                rw [hbs2] at HBD
                have HB2E := hide hbs2
                have hb2l : bs2.length ≤ 1300000000 := by rw [← hbs2, List.length_append, data_cat, List.length_append]; have h1 : (⟨#[32, 32]⟩ : ByteArray).data.toList.length = 2 := rfl; have h2 : XO.data.toList.length = XO.size := rfl; omega
                obtain ⟨w7, hw7⟩ : ∃ w7, w6.alloc (.cells #[.int .i64 (a : Int), .int .i64 (z : Int)] 3) = w7 := ⟨_, rfl⟩
                have bk7 := Blk.new w6 3 #[.int .i64 (a : Int), .int .i64 (z : Int)]
                have hc7 : Chg (fun _ => False) w6 (w6.alloc (.cells #[.int .i64 (a : Int), .int .i64 (z : Int)] 3)) := (Chg.refl _ w6).alloc _
                have hb6 := (unhide HBD).lt
                rw [hw7] at bk7 hc7 ⊢
                obtain ⟨g14, hg14⟩ : ∃ g14, w6.heap.size = g14 := ⟨_, rfl⟩
                rw [hg14] at bk7 hb6 ⊢
                have HB14 := hide (show g14 ≠ b by omega)
                have HAR := hide bk7
                have hbd7 := hide ((unhide HBD).chg hc7)
                have hcw7 := hide ((unhide HCW).trans hc7 (fun _ _ h => h.elim))
                have hbx7 := hide ((unhide HBX).chg hc7 id)
                clear HBD HCW HBX x0 x1 x2 f0 f1 f2
                have HBD := hbd7
                have HCW := hcw7
                have HBX := hbx7
                (obtain ⟨⟨x0, x1, x2⟩, f0, f1, f2⟩ := (unhide HBX).all3)
                clear hbd7 hcw7 hbx7 bk7 hc7 hw7 hg14 hbs2
                cases hg : goesB (o : Int) with
                | false =>
                  rcases (show numsN (o : Int) = 0 ∨ numsN (o : Int) = 1 ∨ numsN (o : Int) = 2 by omega) with hN | hN | hN
                  · have HLI1 := hide (unhide HLI false hg 0 hN)
                    have HN1 := hide (fun W (hW : Lay W) => unhide HNUM 0 hN W hW)
                    have HG1 := hide (unhide HGO w7)
                    rw [hg] at HG1
                    clear hN hg HLI HNUM
                    go_upto_region 31 with (first
                      | (go_at_call 26; (with_reducible refine (unhide HG1).mono ?_); rintro e w8 ⟨rfl, rfl⟩))
                    have HN2 := hide (unhide HN1 w7 (unhide HLYW _ (unhide HCW)))
                    obtain ⟨bs3, hbs3⟩ : ∃ bs3, bs2 = bs3 := ⟨_, rfl⟩
                    rw [hbs3] at HBD
                    have HB3E := hide (show bs ++ ((XK ++ ⟨#[58, 10]⟩).data.toList ++ (⟨#[32, 32]⟩ ++ XO).data.toList) = bs3 by rw [← hbs3, ← unhide HB2E, ← unhide HB1E]; simp)
                    have hb3l : bs3.length ≤ 1500000000 := by rw [← hbs3]; omega
                    have HB3L := hide hb3l
                    have HARL := hide (show ((([] : List Bs)).flatMap (32 :: ·)).length ≤ 100000000 by
                      have h1 : DA.length = YA.size := by rw [← unhide HB3]; rfl
                      have h2 : DZ.length = YZ.size := by rw [← unhide HB4]; rfl
                      simp; try omega)
                    clear hbs3
                    go_wp2_with (first
                      | (go_at_call 30; (with_reducible refine (unhide HN2).mono ?_); rintro e w12 ⟨rfl, rfl⟩))
                    go_loopw [105] (fun jv wr => ∃ (j : Nat) (bs' : Bs), jv = .int .i64 (j : Int) ∧ j ≤ 0 ∧ Bld b bs' wr ∧ bs' ++ (([] : List Bs).drop j).flatMap (32 :: ·) = bs3 ++ ([] : List Bs).flatMap (32 :: ·) ∧ Chg (fun j => b ≤ j) wc wr ∧ Blk wr g14 3 #[.int .i64 (a : Int), .int .i64 (z : Int)]) (fun jv _ => 0 - (intOf jv).toNat)
                    case atStart => exact ⟨0, bs3, rfl, Nat.zero_le _, unhide HBD, rfl, unhide HCW, unhide HAR⟩
                    case round =>
                      obtain ⟨wr2, rfl⟩ : ∃ wr2 : World, wr2 = wr := ⟨_, rfl⟩
                      obtain ⟨j, bs', rfl, hj, hbd, heq, hch, har⟩ := hrel
                      have HBD2 := hide hbd
                      have HCW2 := hide hch
                      have HAR2 := hide har
                      have HEQ := hide heq
                      have hbl' : bs'.length ≤ 2000000000 := by
                        have h1 := congrArg List.length heq
                        have h2 := unhide HB3L
                        simp only [List.length_append] at h1
                        have h3 := unhide HARL
                        omega
                      have hly := (unhide HLYW) _ hch
                      obtain rfl : j = 0 := by omega
                      have HWB := hide (wb_any b bs' wr2 hbd (by omega))
                      clear hbd heq hch har hly
                      go_wp2_with (first
                        | (go_at_call 31; (with_reducible refine (unhide HWB).mono ?_); rintro e w11 ⟨rfl, hb_, hkb⟩; have HBD11 := hide hb_; have HCW11 := hide ((unhide HCW2).trans' hkb.lo); clear hb_ hkb))
                      go_roundw
                      case rel =>
                        refine ⟨k + 1, _, by go_num, by omega, unhide HBD11, ?_, unhide HCW11⟩
                        have he := unhide HEQ
                        simp only [List.drop_nil, List.flatMap_nil, List.append_nil] at he
                        rw [he, ← unhide HS, unhide HNX, unhide HLI1, ← unhide HB3E]
                        simp [unhide HB1, unhide HB5]
                      case measure => simp [intOf]; omega
                  · have HLI1 := hide (unhide HLI false hg 1 hN)
                    have HN1 := hide (fun W (hW : Lay W) => unhide HNUM 1 hN W hW)
                    have HG1 := hide (unhide HGO w7)
                    rw [hg] at HG1
                    clear hN hg HLI HNUM
                    go_upto_region 31 with (first
                      | (go_at_call 26; (with_reducible refine (unhide HG1).mono ?_); rintro e w8 ⟨rfl, rfl⟩))
                    have HN2 := hide (unhide HN1 w7 (unhide HLYW _ (unhide HCW)))
                    obtain ⟨bs3, hbs3⟩ : ∃ bs3, bs2 = bs3 := ⟨_, rfl⟩
                    rw [hbs3] at HBD
                    have HB3E := hide (show bs ++ ((XK ++ ⟨#[58, 10]⟩).data.toList ++ (⟨#[32, 32]⟩ ++ XO).data.toList) = bs3 by rw [← hbs3, ← unhide HB2E, ← unhide HB1E]; simp)
                    have hb3l : bs3.length ≤ 1500000000 := by rw [← hbs3]; omega
                    have HB3L := hide hb3l
                    have HARL := hide (show ((([DA] : List Bs)).flatMap (32 :: ·)).length ≤ 100000000 by
                      have h1 : DA.length = YA.size := by rw [← unhide HB3]; rfl
                      have h2 : DZ.length = YZ.size := by rw [← unhide HB4]; rfl
                      simp; try omega)
                    clear hbs3
                    go_wp2_with (first
                      | (go_at_call 30; (with_reducible refine (unhide HN2).mono ?_); rintro e w12 ⟨rfl, rfl⟩))
                    go_loopw [105] (fun jv wr => ∃ (j : Nat) (bs' : Bs), jv = .int .i64 (j : Int) ∧ j ≤ 1 ∧ Bld b bs' wr ∧ bs' ++ (([DA] : List Bs).drop j).flatMap (32 :: ·) = bs3 ++ ([DA] : List Bs).flatMap (32 :: ·) ∧ Chg (fun j => b ≤ j) wc wr ∧ Blk wr g14 3 #[.int .i64 (a : Int), .int .i64 (z : Int)]) (fun jv _ => 1 - (intOf jv).toNat)
                    case atStart => exact ⟨0, bs3, rfl, Nat.zero_le _, unhide HBD, rfl, unhide HCW, unhide HAR⟩
                    case round =>
                      obtain ⟨wr2, rfl⟩ : ∃ wr2 : World, wr2 = wr := ⟨_, rfl⟩
                      obtain ⟨j, bs', rfl, hj, hbd, heq, hch, har⟩ := hrel
                      have HBD2 := hide hbd
                      have HCW2 := hide hch
                      have HAR2 := hide har
                      have HEQ := hide heq
                      have hbl' : bs'.length ≤ 2000000000 := by
                        have h1 := congrArg List.length heq
                        have h2 := unhide HB3L
                        simp only [List.length_append] at h1
                        have h3 := unhide HARL
                        omega
                      have hly := (unhide HLYW) _ hch
                      obtain rfl | rfl : j = 0 ∨ j = 1 := by omega
                      · (obtain ⟨⟨a0, a1⟩, _⟩ := har.all2)
                        have HIT := hide (unhide HIA wr2 hly)
                        have HWS := hide (fun W (hB : Bld b bs' W) => ws_any b bs' (⟨#[32]⟩ ++ YA) W hB (by rw [ByteArray.size_append]; omega))
                        clear hbd heq hch har hly
                        go_wp2_with (first
                          | (go_at_call 27; (with_reducible refine (unhide HIT).mono ?_); rintro e w9 ⟨rfl, hc9⟩; have HBD9 := hide ((unhide HBD2).chg hc9); have HCW9 := hide ((unhide HCW2).trans hc9 (fun _ _ h => h.elim)); have HAR9 := hide ((unhide HAR2).chg hc9 id); clear hc9)
                          | (go_at_call 28; (with_reducible refine (unhide HWS _ (unhide HBD9)).mono ?_); rintro e w10 ⟨rfl, hb_, hkb⟩; have HBD10 := hide hb_; have HCW10 := hide ((unhide HCW9).trans' hkb.lo); have HAR10 := hide (hkb.blk (unhide HAR9) (by decide) (unhide HB14)); clear hb_ hkb))
                        go_roundw
                        case rel =>
                          refine ⟨1, _, rfl, by omega, unhide HBD10, ?_, unhide HCW10, unhide HAR10⟩
                          rw [← unhide HEQ]
                          simp [unhide HB3]
                        case measure => simp [intOf]
                      · have HWB := hide (wb_any b bs' wr2 hbd (by omega))
                        clear hbd heq hch har hly
                        go_wp2_with (first
                          | (go_at_call 31; (with_reducible refine (unhide HWB).mono ?_); rintro e w11 ⟨rfl, hb_, hkb⟩; have HBD11 := hide hb_; have HCW11 := hide ((unhide HCW2).trans' hkb.lo); clear hb_ hkb))
                        go_roundw
                        case rel =>
                          refine ⟨k + 1, _, by go_num, by omega, unhide HBD11, ?_, unhide HCW11⟩
                          have he := unhide HEQ
                          simp only [List.drop_nil, List.drop_succ_cons, List.flatMap_nil, List.append_nil] at he
                          rw [he, ← unhide HS, unhide HNX, unhide HLI1, ← unhide HB3E]
                          simp [unhide HB1, unhide HB5, unhide HDAE]
                        case measure => simp [intOf]; omega
                  · have HLI1 := hide (unhide HLI false hg 2 hN)
                    have HN1 := hide (fun W (hW : Lay W) => unhide HNUM 2 hN W hW)
                    have HG1 := hide (unhide HGO w7)
                    rw [hg] at HG1
                    clear hN hg HLI HNUM
                    go_upto_region 31 with (first
                      | (go_at_call 26; (with_reducible refine (unhide HG1).mono ?_); rintro e w8 ⟨rfl, rfl⟩))
                    have HN2 := hide (unhide HN1 w7 (unhide HLYW _ (unhide HCW)))
                    obtain ⟨bs3, hbs3⟩ : ∃ bs3, bs2 = bs3 := ⟨_, rfl⟩
                    rw [hbs3] at HBD
                    have HB3E := hide (show bs ++ ((XK ++ ⟨#[58, 10]⟩).data.toList ++ (⟨#[32, 32]⟩ ++ XO).data.toList) = bs3 by rw [← hbs3, ← unhide HB2E, ← unhide HB1E]; simp)
                    have hb3l : bs3.length ≤ 1500000000 := by rw [← hbs3]; omega
                    have HB3L := hide hb3l
                    have HARL := hide (show ((([DA, DZ] : List Bs)).flatMap (32 :: ·)).length ≤ 100000000 by
                      have h1 : DA.length = YA.size := by rw [← unhide HB3]; rfl
                      have h2 : DZ.length = YZ.size := by rw [← unhide HB4]; rfl
                      simp; try omega)
                    clear hbs3
                    go_wp2_with (first
                      | (go_at_call 30; (with_reducible refine (unhide HN2).mono ?_); rintro e w12 ⟨rfl, rfl⟩))
                    go_loopw [105] (fun jv wr => ∃ (j : Nat) (bs' : Bs), jv = .int .i64 (j : Int) ∧ j ≤ 2 ∧ Bld b bs' wr ∧ bs' ++ (([DA, DZ] : List Bs).drop j).flatMap (32 :: ·) = bs3 ++ ([DA, DZ] : List Bs).flatMap (32 :: ·) ∧ Chg (fun j => b ≤ j) wc wr ∧ Blk wr g14 3 #[.int .i64 (a : Int), .int .i64 (z : Int)]) (fun jv _ => 2 - (intOf jv).toNat)
                    case atStart => exact ⟨0, bs3, rfl, Nat.zero_le _, unhide HBD, rfl, unhide HCW, unhide HAR⟩
                    case round =>
                      obtain ⟨wr2, rfl⟩ : ∃ wr2 : World, wr2 = wr := ⟨_, rfl⟩
                      obtain ⟨j, bs', rfl, hj, hbd, heq, hch, har⟩ := hrel
                      have HBD2 := hide hbd
                      have HCW2 := hide hch
                      have HAR2 := hide har
                      have HEQ := hide heq
                      have hbl' : bs'.length ≤ 2000000000 := by
                        have h1 := congrArg List.length heq
                        have h2 := unhide HB3L
                        simp only [List.length_append] at h1
                        have h3 := unhide HARL
                        omega
                      have hly := (unhide HLYW) _ hch
                      obtain rfl | rfl | rfl : j = 0 ∨ j = 1 ∨ j = 2 := by omega
                      · (obtain ⟨⟨a0, a1⟩, _⟩ := har.all2)
                        have HIT := hide (unhide HIA wr2 hly)
                        have HWS := hide (fun W (hB : Bld b bs' W) => ws_any b bs' (⟨#[32]⟩ ++ YA) W hB (by rw [ByteArray.size_append]; omega))
                        clear hbd heq hch har hly
                        go_wp2_with (first
                          | (go_at_call 27; (with_reducible refine (unhide HIT).mono ?_); rintro e w9 ⟨rfl, hc9⟩; have HBD9 := hide ((unhide HBD2).chg hc9); have HCW9 := hide ((unhide HCW2).trans hc9 (fun _ _ h => h.elim)); have HAR9 := hide ((unhide HAR2).chg hc9 id); clear hc9)
                          | (go_at_call 28; (with_reducible refine (unhide HWS _ (unhide HBD9)).mono ?_); rintro e w10 ⟨rfl, hb_, hkb⟩; have HBD10 := hide hb_; have HCW10 := hide ((unhide HCW9).trans' hkb.lo); have HAR10 := hide (hkb.blk (unhide HAR9) (by decide) (unhide HB14)); clear hb_ hkb))
                        go_roundw
                        case rel =>
                          refine ⟨1, _, rfl, by omega, unhide HBD10, ?_, unhide HCW10, unhide HAR10⟩
                          rw [← unhide HEQ]
                          simp [unhide HB3]
                        case measure => simp [intOf]
                      · (obtain ⟨⟨a0, a1⟩, _⟩ := har.all2)
                        have HIT := hide (unhide HIZ wr2 hly)
                        have HWS := hide (fun W (hB : Bld b bs' W) => ws_any b bs' (⟨#[32]⟩ ++ YZ) W hB (by rw [ByteArray.size_append]; omega))
                        clear hbd heq hch har hly
                        go_wp2_with (first
                          | (go_at_call 27; (with_reducible refine (unhide HIT).mono ?_); rintro e w9 ⟨rfl, hc9⟩; have HBD9 := hide ((unhide HBD2).chg hc9); have HCW9 := hide ((unhide HCW2).trans hc9 (fun _ _ h => h.elim)); have HAR9 := hide ((unhide HAR2).chg hc9 id); clear hc9)
                          | (go_at_call 28; (with_reducible refine (unhide HWS _ (unhide HBD9)).mono ?_); rintro e w10 ⟨rfl, hb_, hkb⟩; have HBD10 := hide hb_; have HCW10 := hide ((unhide HCW9).trans' hkb.lo); have HAR10 := hide (hkb.blk (unhide HAR9) (by decide) (unhide HB14)); clear hb_ hkb))
                        go_roundw
                        case rel =>
                          refine ⟨2, _, rfl, by omega, unhide HBD10, ?_, unhide HCW10, unhide HAR10⟩
                          rw [← unhide HEQ]
                          simp [unhide HB4]
                        case measure => simp [intOf]
                      · have HWB := hide (wb_any b bs' wr2 hbd (by omega))
                        clear hbd heq hch har hly
                        go_wp2_with (first
                          | (go_at_call 31; (with_reducible refine (unhide HWB).mono ?_); rintro e w11 ⟨rfl, hb_, hkb⟩; have HBD11 := hide hb_; have HCW11 := hide ((unhide HCW2).trans' hkb.lo); clear hb_ hkb))
                        go_roundw
                        case rel =>
                          refine ⟨k + 1, _, by go_num, by omega, unhide HBD11, ?_, unhide HCW11⟩
                          have he := unhide HEQ
                          simp only [List.drop_nil, List.drop_succ_cons, List.flatMap_nil, List.append_nil] at he
                          rw [he, ← unhide HS, unhide HNX, unhide HLI1, ← unhide HB3E]
                          simp [unhide HB1, unhide HB5, unhide HDAE, unhide HDZE]
                        case measure => simp [intOf]; omega
                | true =>
                  have hng1 := hng hg
                  rcases (show numsN (o : Int) = 0 ∨ numsN (o : Int) = 1 by omega) with hN | hN
                  · have HLI1 := hide (unhide HLI true hg 0 hN)
                    have HN1 := hide (fun W (hW : Lay W) => unhide HNUM 0 hN W hW)
                    have HG1 := hide (unhide HGO w7)
                    rw [hg] at HG1
                    have p10 := (unhide HNAC) hg _ (unhide HCW)
                    have hal := (unhide HAL) hg
                    have HWS8 := hide (ws_any b bs2 (⟨#[32]⟩ ++ XA) w7 (unhide HBD) (by rw [ByteArray.size_append]; omega))
                    clear hN hg HLI HNUM
                    go_upto_region 31 with (first
                      | (go_at_call 26; (with_reducible refine (unhide HG1).mono ?_); rintro e w8 ⟨rfl, rfl⟩)
                      | (go_at_call 28; (with_reducible refine (unhide HWS8).mono ?_); rintro e w8 ⟨rfl, hb_, hkb⟩; have HAR := hide (hkb.blk (unhide HAR) (by decide) (unhide HB14)); have HBD := hide hb_; have HCW := hide ((unhide HCW).trans' hkb.lo); have HBX := hide (hkb.blk (unhide HBX) (by decide) (unhide HB13)); (obtain ⟨⟨x0, x1, x2⟩, f0, f1, f2⟩ := (unhide HBX).all3); clear hb_ hkb))
                    have HN2 := hide (unhide HN1 w8 (unhide HLYW _ (unhide HCW)))
                    obtain ⟨bs3, hbs3⟩ : ∃ bs3, bs2 ++ (⟨#[32]⟩ ++ XA).data.toList = bs3 := ⟨_, rfl⟩
                    rw [hbs3] at HBD
                    have HB3E := hide (show bs ++ ((XK ++ ⟨#[58, 10]⟩).data.toList ++ ((⟨#[32, 32]⟩ ++ XO).data.toList ++ (⟨#[32]⟩ ++ XA).data.toList)) = bs3 by rw [← hbs3, ← unhide HB2E, ← unhide HB1E]; simp)
                    have hb3l : bs3.length ≤ 1500000000 := by rw [← hbs3, List.length_append, data_cat, List.length_append]; have h1 : (⟨#[32]⟩ : ByteArray).data.toList.length = 1 := rfl; have h2 : XA.data.toList.length = XA.size := rfl; omega
                    have HB3L := hide hb3l
                    have HARL := hide (show ((([] : List Bs)).flatMap (32 :: ·)).length ≤ 100000000 by
                      have h1 : DA.length = YA.size := by rw [← unhide HB3]; rfl
                      have h2 : DZ.length = YZ.size := by rw [← unhide HB4]; rfl
                      simp; try omega)
                    clear hbs3
                    go_wp2_with (first
                      | (go_at_call 30; (with_reducible refine (unhide HN2).mono ?_); rintro e w12 ⟨rfl, rfl⟩))
                    go_loopw [105] (fun jv wr => ∃ (j : Nat) (bs' : Bs), jv = .int .i64 (j : Int) ∧ j ≤ 0 ∧ Bld b bs' wr ∧ bs' ++ (([] : List Bs).drop j).flatMap (32 :: ·) = bs3 ++ ([] : List Bs).flatMap (32 :: ·) ∧ Chg (fun j => b ≤ j) wc wr ∧ Blk wr g14 3 #[.int .i64 (a : Int), .int .i64 (z : Int)]) (fun jv _ => 0 - (intOf jv).toNat)
                    case atStart => exact ⟨0, bs3, rfl, Nat.zero_le _, unhide HBD, rfl, unhide HCW, unhide HAR⟩
                    case round =>
                      obtain ⟨wr2, rfl⟩ : ∃ wr2 : World, wr2 = wr := ⟨_, rfl⟩
                      obtain ⟨j, bs', rfl, hj, hbd, heq, hch, har⟩ := hrel
                      have HBD2 := hide hbd
                      have HCW2 := hide hch
                      have HAR2 := hide har
                      have HEQ := hide heq
                      have hbl' : bs'.length ≤ 2000000000 := by
                        have h1 := congrArg List.length heq
                        have h2 := unhide HB3L
                        simp only [List.length_append] at h1
                        have h3 := unhide HARL
                        omega
                      have hly := (unhide HLYW) _ hch
                      obtain rfl : j = 0 := by omega
                      have HWB := hide (wb_any b bs' wr2 hbd (by omega))
                      clear hbd heq hch har hly
                      go_wp2_with (first
                        | (go_at_call 31; (with_reducible refine (unhide HWB).mono ?_); rintro e w11 ⟨rfl, hb_, hkb⟩; have HBD11 := hide hb_; have HCW11 := hide ((unhide HCW2).trans' hkb.lo); clear hb_ hkb))
                      go_roundw
                      case rel =>
                        refine ⟨k + 1, _, by go_num, by omega, unhide HBD11, ?_, unhide HCW11⟩
                        have he := unhide HEQ
                        simp only [List.drop_nil, List.flatMap_nil, List.append_nil] at he
                        rw [he, ← unhide HS, unhide HNX, unhide HLI1, ← unhide HB3E]
                        simp [unhide HB1, unhide HB2, unhide HB5]
                      case measure => simp [intOf]; omega
                  · have HLI1 := hide (unhide HLI true hg 1 hN)
                    have HN1 := hide (fun W (hW : Lay W) => unhide HNUM 1 hN W hW)
                    have HG1 := hide (unhide HGO w7)
                    rw [hg] at HG1
                    have p10 := (unhide HNAC) hg _ (unhide HCW)
                    have hal := (unhide HAL) hg
                    have HWS8 := hide (ws_any b bs2 (⟨#[32]⟩ ++ XA) w7 (unhide HBD) (by rw [ByteArray.size_append]; omega))
                    clear hN hg HLI HNUM
                    go_upto_region 31 with (first
                      | (go_at_call 26; (with_reducible refine (unhide HG1).mono ?_); rintro e w8 ⟨rfl, rfl⟩)
                      | (go_at_call 28; (with_reducible refine (unhide HWS8).mono ?_); rintro e w8 ⟨rfl, hb_, hkb⟩; have HAR := hide (hkb.blk (unhide HAR) (by decide) (unhide HB14)); have HBD := hide hb_; have HCW := hide ((unhide HCW).trans' hkb.lo); have HBX := hide (hkb.blk (unhide HBX) (by decide) (unhide HB13)); (obtain ⟨⟨x0, x1, x2⟩, f0, f1, f2⟩ := (unhide HBX).all3); clear hb_ hkb))
                    have HN2 := hide (unhide HN1 w8 (unhide HLYW _ (unhide HCW)))
                    obtain ⟨bs3, hbs3⟩ : ∃ bs3, bs2 ++ (⟨#[32]⟩ ++ XA).data.toList = bs3 := ⟨_, rfl⟩
                    rw [hbs3] at HBD
                    have HB3E := hide (show bs ++ ((XK ++ ⟨#[58, 10]⟩).data.toList ++ ((⟨#[32, 32]⟩ ++ XO).data.toList ++ (⟨#[32]⟩ ++ XA).data.toList)) = bs3 by rw [← hbs3, ← unhide HB2E, ← unhide HB1E]; simp)
                    have hb3l : bs3.length ≤ 1500000000 := by rw [← hbs3, List.length_append, data_cat, List.length_append]; have h1 : (⟨#[32]⟩ : ByteArray).data.toList.length = 1 := rfl; have h2 : XA.data.toList.length = XA.size := rfl; omega
                    have HB3L := hide hb3l
                    have HARL := hide (show ((([DZ] : List Bs)).flatMap (32 :: ·)).length ≤ 100000000 by
                      have h1 : DA.length = YA.size := by rw [← unhide HB3]; rfl
                      have h2 : DZ.length = YZ.size := by rw [← unhide HB4]; rfl
                      simp; try omega)
                    clear hbs3
                    go_wp2_with (first
                      | (go_at_call 30; (with_reducible refine (unhide HN2).mono ?_); rintro e w12 ⟨rfl, rfl⟩))
                    go_loopw [105] (fun jv wr => ∃ (j : Nat) (bs' : Bs), jv = .int .i64 (j : Int) ∧ j ≤ 1 ∧ Bld b bs' wr ∧ bs' ++ (([DZ] : List Bs).drop j).flatMap (32 :: ·) = bs3 ++ ([DZ] : List Bs).flatMap (32 :: ·) ∧ Chg (fun j => b ≤ j) wc wr ∧ Blk wr g14 3 #[.int .i64 (a : Int), .int .i64 (z : Int)]) (fun jv _ => 1 - (intOf jv).toNat)
                    case atStart => exact ⟨0, bs3, rfl, Nat.zero_le _, unhide HBD, rfl, unhide HCW, unhide HAR⟩
                    case round =>
                      obtain ⟨wr2, rfl⟩ : ∃ wr2 : World, wr2 = wr := ⟨_, rfl⟩
                      obtain ⟨j, bs', rfl, hj, hbd, heq, hch, har⟩ := hrel
                      have HBD2 := hide hbd
                      have HCW2 := hide hch
                      have HAR2 := hide har
                      have HEQ := hide heq
                      have hbl' : bs'.length ≤ 2000000000 := by
                        have h1 := congrArg List.length heq
                        have h2 := unhide HB3L
                        simp only [List.length_append] at h1
                        have h3 := unhide HARL
                        omega
                      have hly := (unhide HLYW) _ hch
                      obtain rfl | rfl : j = 0 ∨ j = 1 := by omega
                      · (obtain ⟨⟨a0, a1⟩, _⟩ := har.all2)
                        have HIT := hide (unhide HIZ wr2 hly)
                        have HWS := hide (fun W (hB : Bld b bs' W) => ws_any b bs' (⟨#[32]⟩ ++ YZ) W hB (by rw [ByteArray.size_append]; omega))
                        clear hbd heq hch har hly
                        go_wp2_with (first
                          | (go_at_call 27; (with_reducible refine (unhide HIT).mono ?_); rintro e w9 ⟨rfl, hc9⟩; have HBD9 := hide ((unhide HBD2).chg hc9); have HCW9 := hide ((unhide HCW2).trans hc9 (fun _ _ h => h.elim)); have HAR9 := hide ((unhide HAR2).chg hc9 id); clear hc9)
                          | (go_at_call 28; (with_reducible refine (unhide HWS _ (unhide HBD9)).mono ?_); rintro e w10 ⟨rfl, hb_, hkb⟩; have HBD10 := hide hb_; have HCW10 := hide ((unhide HCW9).trans' hkb.lo); have HAR10 := hide (hkb.blk (unhide HAR9) (by decide) (unhide HB14)); clear hb_ hkb))
                        go_roundw
                        case rel =>
                          refine ⟨1, _, rfl, by omega, unhide HBD10, ?_, unhide HCW10, unhide HAR10⟩
                          rw [← unhide HEQ]
                          simp [unhide HB4]
                        case measure => simp [intOf]
                      · have HWB := hide (wb_any b bs' wr2 hbd (by omega))
                        clear hbd heq hch har hly
                        go_wp2_with (first
                          | (go_at_call 31; (with_reducible refine (unhide HWB).mono ?_); rintro e w11 ⟨rfl, hb_, hkb⟩; have HBD11 := hide hb_; have HCW11 := hide ((unhide HCW2).trans' hkb.lo); clear hb_ hkb))
                        go_roundw
                        case rel =>
                          refine ⟨k + 1, _, by go_num, by omega, unhide HBD11, ?_, unhide HCW11⟩
                          have he := unhide HEQ
                          simp only [List.drop_nil, List.drop_succ_cons, List.flatMap_nil, List.append_nil] at he
                          rw [he, ← unhide HS, unhide HNX, unhide HLI1, ← unhide HB3E]
                          simp [unhide HB1, unhide HB2, unhide HB5, unhide HDZE]
                        case measure => simp [intOf]; omega
            · obtain rfl : k = l.length := by omega
              have hki : ¬ (l.length : Int) < (l.length : Int) := by omega
              have h0 := (unhide HTK) (Nat.le_refl _)
              rw [h0, List.append_nil] at hS
              subst hS
              have HBS := hide (bs_any b bs wz hbd)
              clear hbd hch h0
              go_wp2_with (go_at_call 32; (with_reducible refine (unhide HBS).mono ?_); rintro e w5 ⟨rfl, hkb⟩; have HKB := hide hkb; clear hkb)
              go_ret2
              exact ⟨rfl, (unhide HFIN) _ ((unhide HCH).trans' (unhide HKB).lo)⟩
end Go.Proofs.YtgonllogaiiicaaDoor
