/-
  Layer 23: what reads bytes: an interface from bytes.
-/
import Derived.Test.YtinekmjengckdaaGreatDoorA34
import Derived.Test.YtinekmjengckdaaGreatDoorA26
import Derived.Test.YtinekmjengckdaaGreatDoorA03
namespace Go.Proofs.YtinekmjengckdaaGreatDoor
open Go.RowKit
set_option maxHeartbeats 4000000
set_option maxRecDepth 100000
def DecOut (s : ByteArray) (w : World) (e : Ending) (w' : World) : Prop := ∃ j vo vd vf vs, e = .returned (.tuple #[.agg #[.string j.name, vo, vd, vf, vs], .int .i64 (match decG (ifcB ltS) s.data.toList with | some _ => 0 | none => 231)]) ∧ Chg (fun _ => False) w w' ∧ (match decG (ifcB ltS) s.data.toList with
  | some i => j = i
  | none => j = ⟨⟨#[]⟩, [], [], [], []⟩) ∧ RdIf (fun b => w.heap.size ≤ b) w' j vo vd vf vs ∧ RdDq (fun b => w.heap.size ≤ b) w' vd j.datas
theorem DecOut.no {s : ByteArray} {w w' : World} {e : Ending} (h : decG (ifcB ltS) s.data.toList = none) (he : e = .returned (.tuple #[.agg #[.string ⟨#[]⟩, .slice none 0 0, .slice none 0 0, .slice none 0 0, .slice none 0 0], .int .i64 231])) (hc : Chg (fun _ => False) w w') : DecOut s w e w' := by
  have cap0 : capOk (.slice none 0 0) := ⟨none, 0, 0, rfl, Nat.le_refl _, Nat.zero_le _⟩
  refine ⟨⟨⟨#[]⟩, [], [], [], []⟩, .slice none 0 0, .slice none 0 0, .slice none 0 0, .slice none 0 0, by rw [h]; exact he, hc, by rw [h], ⟨by show 0 ≤ _; omega, RdR.nil_ _ _ _ _, RdR.nil_ _ _ _ _, RdR.nil_ _ _ _ _, RdR.nil_ _ _ _ _, cap0, cap0⟩, RdR.nil_ _ _ _ _⟩
theorem DecOut.yes {s : ByteArray} {w w' : World} {e : Ending} {i : Ifc} {vo vd vf vs : Value} (h : decG (ifcB ltS) s.data.toList = some i) (he : e = .returned (.tuple #[.agg #[.string i.name, vo, vd, vf, vs], .int .i64 0])) (hc : Chg (fun _ => False) w w') (hr : RdIf (fun b => w.heap.size ≤ b) w' i vo vd vf vs) (hd : RdDq (fun b => w.heap.size ≤ b) w' vd i.datas) : DecOut s w e w' :=
  ⟨i, vo, vd, vf, vs, by rw [h]; exact he, hc, by rw [h], hr, hd⟩
theorem magic_no {s : List UInt8} {mg : ByteArray} {st : Option (List UInt8)} (h : NextSt (textT 4) (some s) mg st) (hm : mg.data.toList ≠ magicB) (ok : Ifc → Bool) : decG ok s = none := by
  unfold decG
  rw [if_neg]
  intro e
  unfold NextSt at h
  rw [Option.bind_some] at h
  unfold textT at h
  have hl : 4 ≤ s.length := by
    have := congrArg List.length e
    rw [List.length_take] at this
    have : magicB.length = 4 := rfl
    omega
  rw [if_neg (by omega)] at h
  obtain ⟨h1, _⟩ := h
  apply hm
  rw [h1, ← e]
theorem magic_yes {s : List UInt8} {mg : ByteArray} {st : Option (List UInt8)} (h : NextSt (textT 4) (some s) mg st) (hl : mg.size + lenS st ≤ s.length + 0) (hm : mg.data.toList = magicB) : s.take 4 = magicB ∧ st = some (s.drop 4) ∧ 4 ≤ s.length := by
  have h4 : mg.size = 4 := by
    rw [← toList_size, hm]
    rfl
  unfold NextSt at h
  rw [Option.bind_some] at h
  unfold textT at h
  rw [if_neg (by omega)] at h
  obtain ⟨h1, h2⟩ := h
  refine ⟨?_, h2, by omega⟩
  rw [h1] at hm
  exact hm
theorem dec_final {ok : Ifc → Bool} {s : List UInt8} {i : Ifc} {st2 st3 : Option (List UInt8)} {x4 : ByteArray} (hm : s.take 4 = magicB) (h4 : 4 ≤ s.length) (h : NextSt pIfc (some (s.drop 4)) i st2) (hx : NextSt (textT 4) st2 x4 st3) :
    decG ok s = if st3 = some [] ∧ ok i = true ∧ encP i = s then some i else none := by
  unfold decG
  rw [if_pos hm]
  unfold NextSt at h
  rw [Option.bind_some] at h
  cases e : pIfc (s.drop 4) with
  | none =>
    rw [e] at h
    have e1 : st2 = none := h
    subst e1
    have e2 : st3 = none := hx
    subst e2
    rw [if_neg (fun hh => by cases hh.1)]
  | some y =>
    rw [e] at h
    obtain ⟨rfl, rfl⟩ := h
    dsimp only
    by_cases hb : ok y.1 = true ∧ encP y.1 = s
    · have hr := rest_four e h4 hb.2
      have e3 : st3 = some [] := by
        unfold NextSt at hx
        rw [Option.bind_some] at hx
        unfold textT at hx
        rw [if_neg (by omega)] at hx
        rw [hx.2, List.drop_of_length_le (by omega)]
      rw [if_pos hb, if_pos ⟨e3, hb⟩]
    · rw [if_neg hb, if_neg (fun hh => hb hh.2)]
theorem StAt.form {W : World} {g : Nat} {st : Option (List UInt8)} (h : StAt W g st) : ∃ (sB : ByteArray) (b : Bool), Blk W g 92 #[.string sB, .bool b] ∧ st = if b = true then none else some sB.data.toList := by
  obtain ⟨s, _, h⟩ := h
  cases st with
  | none => exact ⟨s, true, h, rfl⟩
  | some r => exact ⟨s, false, h.2, by rw [h.1]; rfl⟩
theorem encS_eq {i : Ifc} {s : ByteArray} (hb : ifcB ltS i = true) : encS i = s ↔ encP i = s.data.toList := by
  unfold encS
  rw [if_pos hb]
  constructor
  · rintro rfl
    simp
  · intro e
    rw [e]
theorem fit_sz {i : Ifc} (_h1 : i.name.size < 65536) (h2 : i.opens.length ≤ 4000 ∧ ∀ o ∈ i.opens, OpnFit o) (h3 : i.datas.length ≤ 4000 ∧ ∀ o ∈ i.datas, DtFit o) (h4 : i.fixes.length ≤ 4000 ∧ ∀ o ∈ i.fixes, FxFit o) (h5 : i.sigs.length ≤ 4000 ∧ ∀ o ∈ i.sigs, SgFit o) (hl : (allP i).length ≤ 900000000) : Sz i := by
  have hn : ∀ n : Nd, NdFit n → n.text.size < 65536 := fun n h => by
    rcases h with ⟨_, h, _⟩ | ⟨_, _, _, _, h⟩
    · rw [h]
      decide
    · exact h
  exact ⟨⟨fun o ho => h2.2 o ho, fun x hx => (h4.2 x hx).1, fun x hx => ⟨(h5.2 x hx).1, fun n hnm => hn n ((h5.2 x hx).2.2 n hnm)⟩, fun d hd => ⟨(h3.2 d hd).1, fun c hc => ⟨((h3.2 d hd).2.2.2.2 c hc).1, fun t ht n hnm => hn n ((((h3.2 d hd).2.2.2.2 c hc).2.2 t ht).2 n hnm)⟩⟩⟩, hl, by omega⟩
theorem dec_meas {s x : ByteArray} {x1 : List Opn} {x2 : List Dt} {x3 : List Fx} {x4 : List Sg} {st1 st2 st3 st4 st5 st6 : Option (List UInt8)} (h0 : lenS st1 ≤ s.size) (hs : s.size ≤ 800000000) (h1 : 2 + x.size + lenS st2 ≤ lenS st1 + 2) (h2 : (rowP opnP x1).length + lenS st3 ≤ lenS st2 + (6 + 2)) (h3 : (rowP dtP x2).length + lenS st4 ≤ lenS st3 + (16 + 2)) (h4 : (rowP fxP x3).length + lenS st5 ≤ lenS st4 + (4 + 2)) (h5 : (rowP sgP x4).length + lenS st6 ≤ lenS st5 + (9 + 2)) : (allP ⟨x, x1, x2, x3, x4⟩).length ≤ 900000000 := by
  unfold allP
  simp only [List.length_append, text_plen]
  have : magicB.length = 4 := rfl
  omega
theorem dec_call (i : Ifc) (_w W : World) (vo vd vf vs : Value) {B : Nat} (h1 : i.name.size < 65536) (h2 : i.opens.length ≤ 4000 ∧ ∀ o ∈ i.opens, OpnFit o) (h3 : i.datas.length ≤ 4000 ∧ ∀ o ∈ i.datas, DtFit o) (h4 : i.fixes.length ≤ 4000 ∧ ∀ o ∈ i.fixes, FxFit o) (h5 : i.sigs.length ≤ 4000 ∧ ∀ o ∈ i.sigs, SgFit o) (r1 : RdO (fun b => B ≤ b) W vo i.opens ∧ capOk vo) (r2 : RdDq (fun b => B ≤ b) W vd i.datas ∧ capOk vd) (r3 : RdF (fun b => B ≤ b) W vf i.fixes ∧ capOk vf) (r4 : RdSc (fun b => B ≤ b) W vs i.sigs ∧ capOk vs) (hl : (allP i).length ≤ 900000000) (lay : Lay W) :
    Calls Tryz.prog 11 #[.agg #[.string i.name, vo, vd, vf, vs]] W fun e w' => e = .returned (.tuple #[.string (encS i), .int .i64 (ifE i)]) ∧ Chg (fun _ => False) W w' :=
  encode_any i vo vd vf vs (fun b => B ≤ b) W ⟨by omega, r1.1, r2.1.rd, r3.1, r4.1, r3.2, r4.2⟩ (fit_sz h1 h2 h3 h4 h5 hl) lay
theorem dec_fin {i : Ifc} {w W : World} {vo vd vf vs : Value} {B : Nat} (h1 : i.name.size < 65536) (r1 : RdO (fun b => B + 1 ≤ b) W vo i.opens ∧ capOk vo) (r2 : RdDq (fun b => B + 1 ≤ b) W vd i.datas ∧ capOk vd) (r3 : RdF (fun b => B + 1 ≤ b) W vf i.fixes ∧ capOk vf) (r4 : RdSc (fun b => B + 1 ≤ b) W vs i.sigs ∧ capOk vs) (hB : w.heap.size < B) (W' : World) (hc : Chg (· = w.heap.size) W W') :
    RdIf (fun b => w.heap.size ≤ b) W' i vo vd vf vs ∧ RdDq (fun b => w.heap.size ≤ b) W' vd i.datas := by
  have hd := (r2.1.chg hc (fun b hb _ e => by omega)).mono (T' := fun b => w.heap.size ≤ b) (fun b hb => by omega)
  exact ⟨⟨by omega, (r1.1.chg hc (fun b hb _ e => by omega)).mono (fun b hb => by omega), hd.rd, (r3.1.chg hc (fun b hb _ e => by omega)).mono (fun b hb => by omega), (r4.1.chg hc (fun b hb _ e => by omega)).mono (fun b hb => by omega), r3.2, r4.2⟩, hd⟩
theorem take4_any (st : Option (List UInt8)) (g : Nat) (w : World) (h : StAt w g st) : Calls Tryz.prog 56 #[.pointer (some ⟨g, 0, none⟩), .int .i64 4] w (Got (textT 4) (fun x => x.size) 0 (fun x => x.size ≤ 4) RTx g st w) := take_any 4 st g w h
theorem decode_any (s : ByteArray) (w : World) (hs : s.size ≤ 800000000) (lay : Lay w) :
    Calls Tryz.prog 20 #[.string s] w (DecOut s w) := by
  have hgg : (w.alloc (.cells #[.string ⟨#[]⟩, .slice none 0 0, .slice none 0 0, .slice none 0 0, .slice none 0 0] 27)).heap.size = w.heap.size + 1 := size_alloc _ _
  have hst0 : StAt ((w.alloc (.cells #[.string ⟨#[]⟩, .slice none 0 0, .slice none 0 0, .slice none 0 0, .slice none 0 0] 27)).alloc (.cells #[.string s, .bool false] 92)) (w.heap.size + 1) (some s.data.toList) := ⟨s, hs, rfl, Blk.new_at _ _ _ _ hgg.symm⟩
  have HT0 := hH (take4_any (some s.data.toList) (w.heap.size + 1) ((w.alloc (.cells #[.string ⟨#[]⟩, .slice none 0 0, .slice none 0 0, .slice none 0 0, .slice none 0 0] 27)).alloc (.cells #[.string s, .bool false] 92)) hst0)
  have hb0 : Blk ((w.alloc (.cells #[.string ⟨#[]⟩, .slice none 0 0, .slice none 0 0, .slice none 0 0, .slice none 0 0] 27)).alloc (.cells #[.string s, .bool false] 92)) w.heap.size 27 #[.string ⟨#[]⟩, .slice none 0 0, .slice none 0 0, .slice none 0 0, .slice none 0 0] := (Blk.new w _ _).alloc _
  have HB0 := hH hb0
  have HC0 := hH (show Chg (fun _ => False) w ((w.alloc (.cells #[.string ⟨#[]⟩, .slice none 0 0, .slice none 0 0, .slice none 0 0, .slice none 0 0] 27)).alloc (.cells #[.string s, .bool false] 92)) from ((Chg.refl _ w).alloc _).alloc _)
  have hgne : ¬ w.heap.size = (w.heap.size + 1) := by omega
  have HZ0 := hH (show w.heap.size + 2 ≤ ((w.alloc (.cells #[.string ⟨#[]⟩, .slice none 0 0, .slice none 0 0, .slice none 0 0, .slice none 0 0] 27)).alloc (.cells #[.string s, .bool false] 92)).heap.size from by rw [size_alloc, size_alloc]; omega)
  have HLAY := hH lay
  clear hst0 hb0 hgg lay
  go_enter Tryz.func20, Tryz.ntmps20
  go_upto_region 4 with (go_at_call 56; refine (uH HT0).mono ?_; rintro e w2 ⟨v, mg, st1, rfl, rfl, hok, hst, hch, hnx, hln⟩; have hb := (uH HB0).chg hch hgne; have q0 := hb.cell 0; have f0 := hb.frozen 0; have q1 := hb.cell 1; have f1 := hb.frozen 1; have q2 := hb.cell 2; have f2 := hb.frozen 2; have q3 := hb.cell 3; have f3 := hb.frozen 3; have q4 := hb.cell 4; have f4 := hb.frozen 4; simp only [List.getElem?_toArray, List.getElem?_cons_zero, List.getElem?_cons_succ] at q0 q1 q2 q3 q4; have HB2 := hH hb; have HST2 := hH hst; have HZ2 := hH (Nat.le_trans (uH HZ0) hch.size); have HC2 := hH ((uH HC0).trans hch (fun i hi e => (by omega))); have HG := hH (And.intro hnx hln); clear hok hst hch hnx hln hb HT0 HB0 HC0 HZ0)
  · have hmg : mg.data.toList ≠ magicB := by
      have h : (!(mg.toList == [84, 82, 71, 73])) = true := by assumption
      intro e
      rw [ByteArray.toList_eq, e] at h
      revert h
      decide
    refine bodyPost_ret (v := .tuple #[.agg #[.string ⟨#[]⟩, .slice none 0 0, .slice none 0 0, .slice none 0 0, .slice none 0 0], .int .i64 231]) (by simp [results, Tryz.results20, go_sem, q0, q1, q2, q3, q4]) rfl (DecOut.no (magic_no (uH HG).1 hmg _) rfl ?_)
    repeat (refine Chg.setCell ?_ (fun h => (by dsimp only at h; omega)) _)
    exact uH HC2
  · obtain ⟨HM, hst1, h4s⟩ : Hid (s.data.toList.take 4 = magicB) ∧ st1 = some (s.data.toList.drop 4) ∧ 4 ≤ s.data.toList.length := by
      have h : (!(mg.toList == [84, 82, 71, 73])) = false := by assumption
      rw [ByteArray.toList_eq] at h
      have := magic_yes (uH HG).1 (uH HG).2 (by have h2 : mg.data.toList = [84, 82, 71, 73] := (by simpa using h); exact h2)
      exact ⟨hH this.1, this.2⟩
    have HLN0 := hH (show lenS st1 ≤ s.size from by have := (uH HG).2; have e : lenS (some s.data.toList) = s.size := toList_size s; omega)
    have H4S := hH h4s
    have HT1 := hH (rtext_any st1 (w.heap.size + 1) w2 (uH HST2))
    clear h4s q0 q1 q2 q3 q4 f0 f1 f2 f3 f4
    go_upto_region 11 with (first
      | (go_at_call 57; refine (uH HT1).mono ?_; rintro e w3 ⟨v, x, st2, rfl, rfl, hok, hst, hch, hnx, hln⟩; have hal := (Chg.refl (fun _ => False) w3).alloc (.cells #[.string x, .slice none 0 0, .slice none 0 0, .slice none 0 0, .slice none 0 0] 27); have HB3 := hH (((uH HB2).chg hch hgne).chg hal id); have HN3 := hH (rrows_open st2 (w.heap.size + 1) (w3.alloc (.cells #[.string x, .slice none 0 0, .slice none 0 0, .slice none 0 0, .slice none 0 0] 27)) (hst.chg hal id)); have HA3 := hH (Blk.new w3 27 #[.string x, .slice none 0 0, .slice none 0 0, .slice none 0 0, .slice none 0 0]); have hz1 := hch.size; have hz2 := uH HZ2; have hgc : w.heap.size + 1 < w3.heap.size := (by omega); have hne1 : ¬ w3.heap.size = (w.heap.size + 1) := (by omega); have hne2 : ¬ w3.heap.size = w.heap.size := (by omega); have hne3 : ¬ w.heap.size = w3.heap.size := (by omega); have HC3 := hH (((uH HC2).trans hch (fun i hi e => (by omega))).alloc (.cells #[.string x, .slice none 0 0, .slice none 0 0, .slice none 0 0, .slice none 0 0] 27)); have HZ3 := hH (show w3.heap.size + 1 ≤ (w3.alloc (.cells #[.string x, .slice none 0 0, .slice none 0 0, .slice none 0 0, .slice none 0 0] 27)).heap.size from (by rw [size_alloc]; exact Nat.le_refl _)); have HX2 := hH (And.intro hok (And.intro hnx hln)); clear hst hch hnx hln hok hal hz1 hz2 HB2 HC2 HZ2 HT1 HST2)
      | (go_at_call 58; refine (uH HN3).mono ?_; rintro e w4 ⟨v, x1, st3, rfl, hR, hok, hst, hch, hnx, hln⟩; obtain ⟨A1, c1, rfl⟩ := hR.1.val; have hb := (uH HB3).chg hch hgne; have ha := (uH HA3).chg hch hne1; have fa1 := ha.frozen 1; have pa1 := ha.cell 1; simp only [List.getElem?_toArray, List.getElem?_cons_zero, List.getElem?_cons_succ] at pa1; have hsc := (Chg.refl (· = w3.heap.size) w4).setCell (p := ⟨w3.heap.size, 1, none⟩) (fun _ => rfl) (.slice A1 x1.length c1); have HB4 := hH (hb.chg hsc hne3); have HA4 := hH (show Blk (w4.setCell ⟨w3.heap.size, 1, none⟩ (.slice A1 x1.length c1)) w3.heap.size 27 #[.string x, .slice A1 x1.length c1, .slice none 0 0, .slice none 0 0, .slice none 0 0] from (by have := ha.set_ 1 (.slice A1 x1.length c1); simpa using this)); have hst2 := hst.chg hsc (fun e => hne1 e.symm); have HN4 := hH (rrows_data st3 (w.heap.size + 1) (w4.setCell ⟨w3.heap.size, 1, none⟩ (.slice A1 x1.length c1)) hst2); have hz := uH HZ3; have hz3 := hch.size; have hz4 := hsc.size; have HZ4 := hH (show w3.heap.size + 1 ≤ (w4.setCell ⟨w3.heap.size, 1, none⟩ (.slice A1 x1.length c1)).heap.size from (by omega)); have HR1_1 := hH (And.intro ((hR.1.chg hsc (fun b hb _ e => (by omega))).mono (T' := fun b => w3.heap.size + 1 ≤ b) (fun b hb => (by omega))) hR.2); have HC4 := hH (((uH HC3).trans hch (fun i hi e => (by omega))).trans hsc (fun i hi e => (by omega))); have HX3 := hH (And.intro hok (And.intro hnx hln)); clear hst hst2 hch hnx hln hok hb ha hz hz3 hz4 hsc hR HB3 HA3 HN3 HZ3 HC3)
      | (go_at_call 60; refine (uH HN4).mono ?_; rintro e w5 ⟨v, x2, st4, rfl, hR, hok, hst, hch, hnx, hln⟩; obtain ⟨A2, c2, rfl⟩ := hR.1.val; have hb := (uH HB4).chg hch hgne; have ha := (uH HA4).chg hch hne1; have fa2 := ha.frozen 2; have pa2 := ha.cell 2; simp only [List.getElem?_toArray, List.getElem?_cons_zero, List.getElem?_cons_succ] at pa2; have hsc := (Chg.refl (· = w3.heap.size) w5).setCell (p := ⟨w3.heap.size, 2, none⟩) (fun _ => rfl) (.slice A2 x2.length c2); have HB5 := hH (hb.chg hsc hne3); have HA5 := hH (show Blk (w5.setCell ⟨w3.heap.size, 2, none⟩ (.slice A2 x2.length c2)) w3.heap.size 27 #[.string x, .slice A1 x1.length c1, .slice A2 x2.length c2, .slice none 0 0, .slice none 0 0] from (by have := ha.set_ 2 (.slice A2 x2.length c2); simpa using this)); have hst2 := hst.chg hsc (fun e => hne1 e.symm); have HN5 := hH (rrows_fix st4 (w.heap.size + 1) (w5.setCell ⟨w3.heap.size, 2, none⟩ (.slice A2 x2.length c2)) hst2); have hz := uH HZ4; have hz3 := hch.size; have hz4 := hsc.size; have HZ5 := hH (show w3.heap.size + 1 ≤ (w5.setCell ⟨w3.heap.size, 2, none⟩ (.slice A2 x2.length c2)).heap.size from (by omega)); have HR2_2 := hH (And.intro ((hR.1.chg hsc (fun b hb _ e => (by omega))).mono (T' := fun b => w3.heap.size + 1 ≤ b) (fun b hb => (by omega))) hR.2); have HR1_2 := hH (And.intro (((uH HR1_1).1.chg hch (fun b hb _ e => (by omega))).chg hsc (fun b hb _ e => (by omega))) (uH HR1_1).2); have HC5 := hH (((uH HC4).trans hch (fun i hi e => (by omega))).trans hsc (fun i hi e => (by omega))); have HX4 := hH (And.intro hok (And.intro hnx hln)); clear hst hst2 hch hnx hln hok hb ha hz hz3 hz4 hsc hR HB4 HA4 HN4 HZ4 HC4)
      | (go_at_call 62; refine (uH HN5).mono ?_; rintro e w6 ⟨v, x3, st5, rfl, hR, hok, hst, hch, hnx, hln⟩; obtain ⟨A3, c3, rfl⟩ := hR.1.val; have hb := (uH HB5).chg hch hgne; have ha := (uH HA5).chg hch hne1; have fa3 := ha.frozen 3; have pa3 := ha.cell 3; simp only [List.getElem?_toArray, List.getElem?_cons_zero, List.getElem?_cons_succ] at pa3; have hsc := (Chg.refl (· = w3.heap.size) w6).setCell (p := ⟨w3.heap.size, 3, none⟩) (fun _ => rfl) (.slice A3 x3.length c3); have HB6 := hH (hb.chg hsc hne3); have HA6 := hH (show Blk (w6.setCell ⟨w3.heap.size, 3, none⟩ (.slice A3 x3.length c3)) w3.heap.size 27 #[.string x, .slice A1 x1.length c1, .slice A2 x2.length c2, .slice A3 x3.length c3, .slice none 0 0] from (by have := ha.set_ 3 (.slice A3 x3.length c3); simpa using this)); have hst2 := hst.chg hsc (fun e => hne1 e.symm); have HN6 := hH (rrows_sig st5 (w.heap.size + 1) (w6.setCell ⟨w3.heap.size, 3, none⟩ (.slice A3 x3.length c3)) hst2); have hz := uH HZ5; have hz3 := hch.size; have hz4 := hsc.size; have HZ6 := hH (show w3.heap.size + 1 ≤ (w6.setCell ⟨w3.heap.size, 3, none⟩ (.slice A3 x3.length c3)).heap.size from (by omega)); have HR3_3 := hH (And.intro ((hR.1.chg hsc (fun b hb _ e => (by omega))).mono (T' := fun b => w3.heap.size + 1 ≤ b) (fun b hb => (by omega))) hR.2); have HR1_3 := hH (And.intro (((uH HR1_2).1.chg hch (fun b hb _ e => (by omega))).chg hsc (fun b hb _ e => (by omega))) (uH HR1_2).2); have HR2_3 := hH (And.intro (((uH HR2_2).1.chg hch (fun b hb _ e => (by omega))).chg hsc (fun b hb _ e => (by omega))) (uH HR2_2).2); have HC6 := hH (((uH HC5).trans hch (fun i hi e => (by omega))).trans hsc (fun i hi e => (by omega))); have HX5 := hH (And.intro hok (And.intro hnx hln)); clear hst hst2 hch hnx hln hok hb ha hz hz3 hz4 hsc hR HB5 HA5 HN5 HZ5 HC5)
      | (go_at_call 64; refine (uH HN6).mono ?_; rintro e w7 ⟨v, x4, st6, rfl, hR, hok, hst, hch, hnx, hln⟩; obtain ⟨A4, c4, rfl⟩ := hR.1.val; have hb := (uH HB6).chg hch hgne; have ha := (uH HA6).chg hch hne1; have fa4 := ha.frozen 4; have pa4 := ha.cell 4; simp only [List.getElem?_toArray, List.getElem?_cons_zero, List.getElem?_cons_succ] at pa4; have hsc := (Chg.refl (· = w3.heap.size) w7).setCell (p := ⟨w3.heap.size, 4, none⟩) (fun _ => rfl) (.slice A4 x4.length c4); have HB7 := hH (hb.chg hsc hne3); have HA7 := hH (show Blk (w7.setCell ⟨w3.heap.size, 4, none⟩ (.slice A4 x4.length c4)) w3.heap.size 27 #[.string x, .slice A1 x1.length c1, .slice A2 x2.length c2, .slice A3 x3.length c3, .slice A4 x4.length c4] from (by have := ha.set_ 4 (.slice A4 x4.length c4); simpa using this)); have hst2 := hst.chg hsc (fun e => hne1 e.symm); have HN7 := hH (take4_any st6 (w.heap.size + 1) (w7.setCell ⟨w3.heap.size, 4, none⟩ (.slice A4 x4.length c4)) hst2); have hz := uH HZ6; have hz3 := hch.size; have hz4 := hsc.size; have HZ7 := hH (show w3.heap.size + 1 ≤ (w7.setCell ⟨w3.heap.size, 4, none⟩ (.slice A4 x4.length c4)).heap.size from (by omega)); have HR4_4 := hH (And.intro ((hR.1.chg hsc (fun b hb _ e => (by omega))).mono (T' := fun b => w3.heap.size + 1 ≤ b) (fun b hb => (by omega))) hR.2); have HR1_4 := hH (And.intro (((uH HR1_3).1.chg hch (fun b hb _ e => (by omega))).chg hsc (fun b hb _ e => (by omega))) (uH HR1_3).2); have HR2_4 := hH (And.intro (((uH HR2_3).1.chg hch (fun b hb _ e => (by omega))).chg hsc (fun b hb _ e => (by omega))) (uH HR2_3).2); have HR3_4 := hH (And.intro (((uH HR3_3).1.chg hch (fun b hb _ e => (by omega))).chg hsc (fun b hb _ e => (by omega))) (uH HR3_3).2); have HC7 := hH (((uH HC6).trans hch (fun i hi e => (by omega))).trans hsc (fun i hi e => (by omega))); have HX6 := hH (And.intro hok (And.intro hnx hln)); clear hst hst2 hch hnx hln hok hb ha hz hz3 hz4 hsc hR HB6 HA6 HN6 HZ6 HC6)
      | (go_at_call 56; refine (uH HN7).mono ?_; rintro e w8 ⟨v, y4, st7, rfl, rfl, hok, hst, hch, hnx, hln⟩; have hb := (uH HB7).chg hch hgne; have ha := (uH HA7).chg hch hne1; have p0 := ha.cell 0; have p1 := ha.cell 1; have p2 := ha.cell 2; have p3 := ha.cell 3; have p4 := ha.cell 4; simp only [List.getElem?_toArray, List.getElem?_cons_zero, List.getElem?_cons_succ] at p0 p1 p2 p3 p4; have HB8 := hH hb; have HA8 := hH ha; have HR1_8 := hH (And.intro ((uH HR1_4).1.chg hch (fun b hb _ e => (by omega))) (uH HR1_4).2); have HR2_8 := hH (And.intro ((uH HR2_4).1.chg hch (fun b hb _ e => (by omega))) (uH HR2_4).2); have HR3_8 := hH (And.intro ((uH HR3_4).1.chg hch (fun b hb _ e => (by omega))) (uH HR3_4).2); have HR4_8 := hH (And.intro ((uH HR4_4).1.chg hch (fun b hb _ e => (by omega))) (uH HR4_4).2); have HC8 := hH ((uH HC7).trans hch (fun i hi e => (by omega))); have HST8 := hH hst; have HX7 := hH hnx; have HEN := hH (dec_call ⟨x, x1, x2, x3, x4⟩ w w8 _ _ _ _ (uH HX2).1 (uH HX3).1 (uH HX4).1 (uH HX5).1 (uH HX6).1 (uH HR1_8) (uH HR2_8) (uH HR3_8) (uH HR4_8) (dec_meas (uH HLN0) hs (uH HX2).2.2 (uH HX3).2.2 (uH HX4).2.2 (uH HX5).2.2 (uH HX6).2.2) ((uH HLAY).chg (uH HC8) (fun _ _ => id))); clear hst hch hnx hln hok hb ha HB7 HA7 HN7 HZ7 HC7)
      | (go_at_call 11; refine (uH HEN).mono ?_; rintro e w9 ⟨rfl, hc9⟩; have hb := (uH HB8).chg hc9 id; have ha := (uH HA8).chg hc9 id; have q0 := hb.cell 0; have f0 := hb.frozen 0; have r0 := ha.cell 0; have q1 := hb.cell 1; have f1 := hb.frozen 1; have r1 := ha.cell 1; have q2 := hb.cell 2; have f2 := hb.frozen 2; have r2 := ha.cell 2; have q3 := hb.cell 3; have f3 := hb.frozen 3; have r3 := ha.cell 3; have q4 := hb.cell 4; have f4 := hb.frozen 4; have r4 := ha.cell 4; simp only [List.getElem?_toArray, List.getElem?_cons_zero, List.getElem?_cons_succ] at q0 q1 q2 q3 q4 r0 r1 r2 r3 r4; have HR1_9 := hH (And.intro ((uH HR1_8).1.chg hc9 (fun _ _ _ => id)) (uH HR1_8).2); have HR2_9 := hH (And.intro ((uH HR2_8).1.chg hc9 (fun _ _ _ => id)) (uH HR2_8).2); have HR3_9 := hH (And.intro ((uH HR3_8).1.chg hc9 (fun _ _ _ => id)) (uH HR3_8).2); have HR4_9 := hH (And.intro ((uH HR4_8).1.chg hc9 (fun _ _ _ => id)) (uH HR4_8).2); have HC9 := hH ((uH HC8).trans' hc9); have HST9 := hH ((uH HST8).chg hc9 id); clear hc9 hb ha HB8 HA8 HC8 HST8 HEN p0 p1 p2 p3 p4))
    obtain ⟨sB, bB, hbk, hst7⟩ := (uH HST9).form
    have s0 := hbk.cell 0
    have s1 := hbk.cell 1
    simp only [List.getElem?_toArray, List.getElem?_cons_zero, List.getElem?_cons_succ] at s0 s1
    have hdec : decG (ifcB ltS) s.data.toList = if st7 = some [] ∧ ifcB ltS (Ifc.mk x x1 x2 x3 x4) = true ∧ encP (Ifc.mk x x1 x2 x3 x4) = s.data.toList then some (Ifc.mk x x1 x2 x3 x4) else none := dec_final (uH HM) (uH H4S) (by
      rw [← hst1]
      exact NextSt.seq (q := fun a => seqT (pRow pOpn) fun b => seqT (pRow pDt) fun c => seqT (pRow pFx) fun d => mapT (fun e => (⟨a, b, c, d, e⟩ : Ifc)) (pRow pSg)) (uH HX2).2.1 (NextSt.seq (q := fun b => seqT (pRow pDt) fun c => seqT (pRow pFx) fun d => mapT (fun e => (⟨x, b, c, d, e⟩ : Ifc)) (pRow pSg)) (uH HX3).2.1 (NextSt.seq (q := fun c => seqT (pRow pFx) fun d => mapT (fun e => (⟨x, x1, c, d, e⟩ : Ifc)) (pRow pSg)) (uH HX4).2.1 (NextSt.seq (q := fun d => mapT (fun e => (⟨x, x1, x2, d, e⟩ : Ifc)) (pRow pSg)) (uH HX5).2.1 ((uH HX6).2.1.map (fun e => (⟨x, x1, x2, x3, e⟩ : Ifc))))))) (uH HX7)
    have HDEC := hH hdec
    have HST7 := hH hst7
    clear hdec hbk hst7 hst1
    have HES := hH (fun hb : ifcB ltS (Ifc.mk x x1 x2 x3 x4) = true => encS_eq (i := (Ifc.mk x x1 x2 x3 x4)) (s := s) hb)
    have hie : ifE (Ifc.mk x x1 x2 x3 x4) = if ifcB ltS (Ifc.mk x x1 x2 x3 x4) = true then 0 else 230 := rfl
    rw [hie]
    clear hie
    generalize encS (Ifc.mk x x1 x2 x3 x4) = es at *
    have FIN := hH (dec_fin (i := (Ifc.mk x x1 x2 x3 x4)) (w := w) (uH HX2).1 (uH HR1_9) (uH HR2_9) (uH HR3_9) (uH HR4_9) (Nat.lt_trans (Nat.lt_succ_self _) hgc))
    cases bB
    · by_cases hr : sB.data.toList = []
      rotate_left
      · have hq : (sB.toList == []) = false := by rw [ByteArray.toList_eq]; simpa using hr
        have HNO := hH (show decG (ifcB ltS) s.data.toList = none from by
          rw [uH HDEC, if_neg]
          rintro ⟨h1, _⟩
          rw [uH HST7] at h1
          injection h1 with h1
          exact hr h1)
        clear HDEC HST7 HES hr
        go_wp2_with fail
        all_goals
          refine bodyPost_ret (v := .tuple #[.agg #[.string ⟨#[]⟩, .slice none 0 0, .slice none 0 0, .slice none 0 0, .slice none 0 0], .int .i64 231]) (by simp [results, Tryz.results20, go_sem, q0, q1, q2, q3, q4]) rfl (DecOut.no (uH HNO) rfl ?_)
          repeat (refine Chg.setCell ?_ (fun h => (by dsimp only at h; omega)) _)
          exact uH HC9
      · have hq : (sB.toList == []) = true := by rw [ByteArray.toList_eq, hr]; rfl
        have H77 := hH (show st7 = some [] from by rw [uH HST7, ← hr]; rfl)
        clear hr HST7
        by_cases hb : ifcB ltS (Ifc.mk x x1 x2 x3 x4) = true
        rotate_left
        · rw [if_neg hb]
          have HNO := hH (show decG (ifcB ltS) s.data.toList = none from by
            rw [uH HDEC, if_neg]
            exact fun h => hb h.2.1)
          clear HDEC HES hb H77
          go_wp2_with fail
          all_goals
            refine bodyPost_ret (v := .tuple #[.agg #[.string ⟨#[]⟩, .slice none 0 0, .slice none 0 0, .slice none 0 0, .slice none 0 0], .int .i64 231]) (by simp [results, Tryz.results20, go_sem, q0, q1, q2, q3, q4]) rfl (DecOut.no (uH HNO) rfl ?_)
            repeat (refine Chg.setCell ?_ (fun h => (by dsimp only at h; omega)) _)
            exact uH HC9
        · rw [if_pos hb]
          by_cases he : es = s
          rotate_left
          · have he2 : (es.toList == s.toList) = false := by
              rw [Bool.eq_false_iff]
              intro h
              exact he (bytes_eq (eq_of_beq h))
            have HNO := hH (show decG (ifcB ltS) s.data.toList = none from by
              rw [uH HDEC, if_neg]
              exact fun h => he ((uH HES hb).2 h.2.2))
            clear HDEC HES hb H77 he
            go_wp2_with fail
            all_goals
              refine bodyPost_ret (v := .tuple #[.agg #[.string ⟨#[]⟩, .slice none 0 0, .slice none 0 0, .slice none 0 0, .slice none 0 0], .int .i64 231]) (by simp [results, Tryz.results20, go_sem, q0, q1, q2, q3, q4]) rfl (DecOut.no (uH HNO) rfl ?_)
              repeat (refine Chg.setCell ?_ (fun h => (by dsimp only at h; omega)) _)
              exact uH HC9
          · subst he
            have he2 : (es.toList == es.toList) = true := by simp
            have HYES := hH (show decG (ifcB ltS) es.data.toList = some (Ifc.mk x x1 x2 x3 x4) from by
              rw [uH HDEC, if_pos ⟨uH H77, hb, (uH HES hb).1 rfl⟩])
            clear HDEC HES hb H77
            go_wp2_with fail
            refine bodyPost_ret (v := .tuple #[.agg #[.string x, .slice A1 x1.length c1, .slice A2 x2.length c2, .slice A3 x3.length c3, .slice A4 x4.length c4], .int .i64 0]) (by simp [results, Tryz.results20, go_sem, q0, q1, q2, q3, q4]) rfl (DecOut.yes (uH HYES) rfl ?_ (uH FIN _ ?_).1 (uH FIN _ ?_).2)
            · repeat (refine Chg.setCell ?_ (fun h => (by dsimp only at h; omega)) _)
              exact uH HC9
            · repeat (refine Chg.setCell ?_ (fun _ => (by rfl)) _)
              exact Chg.refl _ _
            · repeat (refine Chg.setCell ?_ (fun _ => (by rfl)) _)
              exact Chg.refl _ _
    · have HNO := hH (show decG (ifcB ltS) s.data.toList = none from by
        rw [uH HDEC, if_neg]
        rintro ⟨h1, _⟩
        rw [uH HST7] at h1
        cases h1)
      clear HDEC HST7 HES
      go_wp2_with fail
      all_goals
        refine bodyPost_ret (v := .tuple #[.agg #[.string ⟨#[]⟩, .slice none 0 0, .slice none 0 0, .slice none 0 0, .slice none 0 0], .int .i64 231]) (by simp [results, Tryz.results20, go_sem, q0, q1, q2, q3, q4]) rfl (DecOut.no (uH HNO) rfl ?_)
        repeat (refine Chg.setCell ?_ (fun h => (by dsimp only at h; omega)) _)
        exact uH HC9
end Go.Proofs.YtinekmjengckdaaGreatDoor
