/-
  Layer 23, the document's side: the interface that bytes are: the end. Layer 23, the document's side: the interface that bytes are: row number 3. Layer 23, the document's side: the interface that bytes are: row number 2. Layer 23, the document's side: the interface that bytes are: row number 1. Layer 23, the document's side: the interface that bytes are: row number 0. Layer 23, the document's side: the interface that bytes are.
-/
import Derived.Test.YtinekmjengckdaaGreatDoorA53
import Derived.Test.YtinekmjengckdaaGreatDoorA51
import Derived.Test.YtinekmjengckdaaGreatDoorA50
import Derived.Test.YtinekmjengckdaaGreatDoorA35
namespace Go.Proofs.YtinekmjengckdaaGreatDoor
open Go.RowKit
set_option maxHeartbeats 8000000
set_option maxRecDepth 1000000
def headReg (k : Nat) : Code → Bool
  | .region i _ _ => i == k
  | .seq a _ => headReg k a
  | _ => false
def findHead (k : Nat) : Code → Option Code
  | .seq a b => if headReg k a then some (.seq a b) else match findHead k a with
    | some c => some c
    | none => findHead k b
  | .block _ c => findHead k c
  | .loop c => findHead k c
  | .scope c => findHead k c
  | .cond _ a b => match findHead k a with
    | some c => some c
    | none => findHead k b
  | _ => none
def DecD (s : ByteArray) (w : World) (e : Ending) (w' : World) : Prop :=
  ∃ (i : Ifc) (vo vd vf vs : Value), e = .returned (.tuple #[.agg #[.string i.name, vo, vd, vf, vs], .bool (decG (ifcB ltS) s.data.toList).isSome]) ∧ i = (decG (ifcB ltS) s.data.toList).getD ⟨⟨#[]⟩, [], [], [], []⟩ ∧ RdIf (fun _ => True) w' i vo vd vf vs ∧ Chg (fun _ => False) w w'
theorem rd_empty (W : World) : RdIf (fun _ => True) W ⟨⟨#[]⟩, [], [], [], []⟩ (.slice none 0 0) (.slice none 0 0) (.slice none 0 0) (.slice none 0 0) := ⟨by decide, RdR.nil_ _ _ _ _, RdR.nil_ _ _ _ _, RdR.nil_ _ _ _ _, RdR.nil_ _ _ _ _, ⟨none, 0, 0, rfl, Nat.le_refl _, Nat.zero_le _⟩, ⟨none, 0, 0, rfl, Nat.le_refl _, Nat.zero_le _⟩⟩
theorem DecD.no {s : ByteArray} {w w' : World} {e : Ending} (h : decG (ifcB ltS) s.data.toList = none) (he : e = .returned (.tuple #[.agg #[.string ⟨#[]⟩, .slice none 0 0, .slice none 0 0, .slice none 0 0, .slice none 0 0], .bool false])) (hc : Chg (fun _ => False) w w') : DecD s w e w' := by
  refine ⟨⟨⟨#[]⟩, [], [], [], []⟩, _, _, _, _, ?_, ?_, rd_empty w', hc⟩
  · rw [h]; exact he
  · rw [h]; rfl
theorem DecD.yes {s : ByteArray} {w w' : World} {e : Ending} {i : Ifc} {vo vd vf vs : Value} (h : decG (ifcB ltS) s.data.toList = some i) (he : e = .returned (.tuple #[.agg #[.string i.name, vo, vd, vf, vs], .bool true])) (hc : Chg (fun _ => False) w w') (hr : RdIf (fun _ => True) w' i vo vd vf vs) : DecD s w e w' := by
  refine ⟨i, vo, vd, vf, vs, ?_, ?_, hr, hc⟩
  · rw [h]; exact he
  · rw [h]; rfl
structure DSt (w W : World) (g6 : Nat) (nm : ByteArray) (v1 v2 v3 v4 : Value) (s2 : ByteArray) (b2 : Bool) : Prop where
  chg : Chg (fun _ => False) w W
  res : Blk W w.heap.size 27 #[.string ⟨#[]⟩, .slice none 0 0, .slice none 0 0, .slice none 0 0, .slice none 0 0]
  ifc : Blk W (w.heap.size + 1) 27 #[.string nm, v1, v2, v3, v4]
  rst : Blk W g6 104 #[.string s2, .bool b2]
  lo : w.heap.size + 1 < g6
  sz : s2.size ≤ 800000000
  nmk : nm.size < 65536
noncomputable def dec4C : Code := (Tryz.f21.body.bind (findHead 36)).getD .skip
theorem bad_none {s : ByteArray} {i : Ifc} (h : NextSt pIfc (some (s.data.toList.drop 4)) i none) (hm : s.data.toList.take 4 = magicB) : decG (ifcB ltS) s.data.toList = none := by
  unfold decG
  rw [if_pos hm]
  unfold NextSt at h
  rw [Option.bind_some] at h
  cases e : pIfc (s.data.toList.drop 4) with
  | none => rfl
  | some y =>
    rw [e] at h
    exact absurd h.2 (by simp)
theorem good_some {s : ByteArray} {i : Ifc} {r : List UInt8} (h : NextSt pIfc (some (s.data.toList.drop 4)) i (some r)) : pIfc (s.data.toList.drop 4) = some (i, r) := by
  unfold NextSt at h
  rw [Option.bind_some] at h
  cases e : pIfc (s.data.toList.drop 4) with
  | none =>
    rw [e] at h
    exact absurd h (by simp)
  | some y =>
    rw [e] at h
    obtain ⟨h1, h2⟩ := h
    injection h2 with h2
    rw [h1, h2]
theorem dec4 (x1 x5 x7 x8 x9 x10 x11 x12 x13 x14 x15 x16 x17 x18 x19 x20 x21 x22 x23 x24 x25 x26 x27 x28 x29 x30 x31 x32 x33 x34 x35 x36 x37 x38 x39 x40 x41 x42 x43 x44 x45 x46 x47 x48 x49 x50 x51 x52 x53 x54 x55 x56 x57 x58 x59 x60 x61 x62 x63 x64 x65 x66 x67 x68 x69 x70 x71 x72 x73 x74 x75 x76 x77 x78 x79 x80 x81 x82 x83 x84 x85 x86 x87 x88 x89 x90 x91 x92 x93 x94 x95 x96 x97 x98 x99 x100 x101 x102 x103 x104 x105 x106 x107 x108 x109 x110 x111 x112 x113 x114 x115 x116 x117 x118 x119 x120 x121 x122 x123 x124 x125 x126 x127 x128 x129 x130 x131 x132 x133 x134 x135 x136 x137 x138 x139 x140 x141 x142 x143 x144 x145 x146 x147 x148 x149 x150 x151 x152 x153 x154 x155 x156 x157 x158 x159 x160 x161 x162 x163 x164 x165 x166 x167 x168 x169 x170 x171 x172 x173 x174 x175 x176 x177 x178 x179 x180 x181 x182 x183 x184 x185 x186 x187 x188 x189 x190 x191 x192 x193 x194 x195 x196 x197 x198 x199 x200 x201 x202 x203 x204 x205 x206 x207 x208 x209 : Value) (s nm s5 : ByteArray) (b5 : Bool) (w W : World) (g6 : Nat) (lo : List Opn) (ld : List Dt) (lf : List Fx) (ls : List Sg) (A1 A2 A3 A4 : Option Addr) (a1 a2 a3 a4 : Nat)
    (hs : s.size ≤ 800000000) (hm : s.data.toList.take 4 = magicB) (st : DSt w W g6 nm (.slice A1 lo.length a1) (.slice A2 ld.length a2) (.slice A3 lf.length a3) (.slice A4 ls.length a4) s5 b5)
    (hr : RdIf (fun b => g6 < b) W ⟨nm, lo, ld, lf, ls⟩ (.slice A1 lo.length a1) (.slice A2 ld.length a2) (.slice A3 lf.length a3) (.slice A4 ls.length a4)) (hfx : lf.length ≤ 4000)
    (hn : NextSt pIfc (some (s.data.toList.drop 4)) ⟨nm, lo, ld, lf, ls⟩ (rstV s5 b5)) :
    Code.wp Tryz.prog dec4C (bodyPost Tryz.prog Tryz.f21 (DecD s w)) ⟨#[.string s, x1, .pointer (some ⟨w.heap.size, 0, none⟩), .bool false, .pointer (some ⟨w.heap.size + 1, 0, none⟩), x5, .pointer (some ⟨g6, 0, none⟩), x7, x8, x9, x10, x11, x12, x13, x14, x15, x16, x17, x18, x19, x20, x21, x22, x23, x24, x25, x26, x27, x28, x29, x30, x31, x32, x33, x34, x35, x36, x37, x38, x39, x40, x41, x42, x43, x44, x45, x46, x47, x48, x49, x50, x51, x52, x53, x54, x55, x56, x57, x58, x59, x60, x61, x62, x63, x64, x65, x66, x67, x68, x69, x70, x71, x72, x73, x74, x75, x76, x77, x78, x79, x80, x81, x82, x83, x84, x85, x86, x87, x88, x89, x90, x91, x92, x93, x94, x95, x96, x97, x98, x99, x100, x101, x102, x103, x104, x105, x106, x107, x108, x109, x110, x111, x112, x113, x114, x115, x116, x117, x118, x119, x120, x121, x122, x123, x124, x125, x126, x127, x128, x129, x130, x131, x132, x133, x134, x135, x136, x137, x138, x139, x140, x141, x142, x143, x144, x145, x146, x147, x148, x149, x150, x151, x152, x153, x154, x155, x156, x157, x158, x159, x160, x161, x162, x163, x164, x165, x166, x167, x168, x169, x170, x171, x172, x173, x174, x175, x176, x177, x178, x179, x180, x181, x182, x183, x184, x185, x186, x187, x188, x189, x190, x191, x192, x193, x194, x195, x196, x197, x198, x199, x200, x201, x202, x203, x204, x205, x206, x207, x208, x209], []⟩ W := by
  have q0 := st.res.cell 0
  have q1 := st.res.cell 1
  have q2 := st.res.cell 2
  have q3 := st.res.cell 3
  have q4 := st.res.cell 4
  have p0 := st.ifc.cell 0
  have p1 := st.ifc.cell 1
  have p2 := st.ifc.cell 2
  have p3 := st.ifc.cell 3
  have p4 := st.ifc.cell 4
  have r0 := st.rst.cell 0
  have r1 := st.rst.cell 1
  simp only [List.getElem?_toArray, List.getElem?_cons_zero, List.getElem?_cons_succ] at q0 q1 q2 q3 q4 p0 p1 p2 p3 p4 r0 r1
  have f0 := st.res.frozen 0
  have f1 := st.res.frozen 1
  have f2 := st.res.frozen 2
  have f3 := st.res.frozen 3
  have f4 := st.res.frozen 4
  have HC := hH st.chg
  have HB := hH st.res
  have HA := hH st.ifc
  have HQ := hH (Chg.refl (fun _ => False) W)
  have HIF := hH (fun W' (hW : Chg (fun _ => False) W W') => refIf_any ⟨nm, lo, ld, lf, ls⟩ _ _ _ _ _ W' (hr.chg hW (fun _ _ _ => id)) (by show lf.length ≤ 1000000; omega))
  cases b5
  rotate_left
  · have HNO := hH (bad_none (show NextSt pIfc (some (s.data.toList.drop 4)) ⟨nm, lo, ld, lf, ls⟩ none from hn) hm)
    clear hr hn hm st HIF HQ
    conv => arg 2; whnf
    go_wp2_with fail
    refine bodyPost_ret (v := .tuple #[.agg #[.string ⟨#[]⟩, .slice none 0 0, .slice none 0 0, .slice none 0 0, .slice none 0 0], .bool false]) (by simp [results, Tryz.results21, go_sem, q0, q1, q2, q3, q4]) rfl (DecD.no (uH HNO) rfl ?_)
    repeat (refine Chg.setCell ?_ (fun h => (by dsimp only at h; omega)) _)
    exact uH HC
  · have hp := good_some (show NextSt pIfc (some (s.data.toList.drop 4)) ⟨nm, lo, ld, lf, ls⟩ (some s5.data.toList) from hn)
    have hdec : decG (ifcB ltS) s.data.toList = if ifcB ltS ⟨nm, lo, ld, lf, ls⟩ = true ∧ encP ⟨nm, lo, ld, lf, ls⟩ = s.data.toList then some ⟨nm, lo, ld, lf, ls⟩ else none := by
      unfold decG
      rw [if_pos hm, hp]
    cases hb : ifcB ltS ⟨nm, lo, ld, lf, ls⟩
    · have HNO := hH (show decG (ifcB ltS) s.data.toList = none by rw [hdec, hb]; simp)
      rw [hb] at HIF
      clear hr hn hm st hp hdec hb
      conv => arg 2; whnf
      go_wp2_with (go_at_call 15; (with_reducible refine (uH HIF _ (uH HQ)).mono ?_); rintro e w5 ⟨rfl, hc2⟩; have hb2 := (uH HB).chg hc2 id; have ha2 := (uH HA).chg hc2 id; have HC2 := hH ((uH HC).trans' hc2); have HQ2 := hH ((uH HQ).trans' hc2); clear HB HA HC HQ; have HB := hH hb2; have HA := hH ha2; have HC := HC2; have HQ := HQ2; clear HC2 HQ2 hb2 ha2 hc2; clear q0 q1 q2 q3 q4 f0 f1 f2 f3 f4 p0 p1 p2 p3 p4; have q0 := (uH HB).cell 0; have f0 := (uH HB).frozen 0; have p0 := (uH HA).cell 0; have q1 := (uH HB).cell 1; have f1 := (uH HB).frozen 1; have p1 := (uH HA).cell 1; have q2 := (uH HB).cell 2; have f2 := (uH HB).frozen 2; have p2 := (uH HA).cell 2; have q3 := (uH HB).cell 3; have f3 := (uH HB).frozen 3; have p3 := (uH HA).cell 3; have q4 := (uH HB).cell 4; have f4 := (uH HB).frozen 4; have p4 := (uH HA).cell 4; simp only [List.getElem?_toArray, List.getElem?_cons_zero, List.getElem?_cons_succ] at q0 p0 q1 p1 q2 p2 q3 p3 q4 p4)
      refine bodyPost_ret (v := .tuple #[.agg #[.string ⟨#[]⟩, .slice none 0 0, .slice none 0 0, .slice none 0 0, .slice none 0 0], .bool false]) (by simp [results, Tryz.results21, go_sem, q0, q1, q2, q3, q4]) rfl (DecD.no (uH HNO) rfl ?_)
      repeat (refine Chg.setCell ?_ (fun h => (by dsimp only at h; omega)) _)
      exact uH HC
    · have hpp := ifc_ens _ _ _ hp
      have hln := ifc_len hp
      have htl : s.data.toList.length = s.size := toList_size s
      have hln2 : (allP ⟨nm, lo, ld, lf, ls⟩).length ≤ 900000000 := by
        rw [List.length_drop] at hln
        omega
      have hfit := ifc_fit hb (hpp.sz hln2).short
      have HEN := hH (fun W' (hW : Chg (fun _ => False) W W') => refEnc_any ⟨nm, lo, ld, lf, ls⟩ _ _ _ _ _ W' (hr.chg hW (fun _ _ _ => id)) hfit hln2)
      have HRD := hH (fun W' (hW : Chg (fun x => x = w.heap.size) W W') => RdIf.mono (hr.chg hW (fun b hb _ e => by have := st.lo; omega)) (fun _ _ => trivial))
      rw [hb] at HIF
      have hde : decG (ifcB ltS) s.data.toList = if encP ⟨nm, lo, ld, lf, ls⟩ = s.data.toList then some ⟨nm, lo, ld, lf, ls⟩ else none := by rw [hdec, hb]; simp
      have HEQ := hH (show (⟨(encP ⟨nm, lo, ld, lf, ls⟩).toArray⟩ : ByteArray) = s ↔ encP ⟨nm, lo, ld, lf, ls⟩ = s.data.toList from ⟨fun e => by rw [← e], fun e => by
        apply ByteArray.ext
        apply Array.toList_inj.1
        exact e⟩)
      generalize (⟨(encP ⟨nm, lo, ld, lf, ls⟩).toArray⟩ : ByteArray) = EN at *
      by_cases he : EN = s
      rotate_left
      · have he2 : (EN.toList == s.toList) = false := same_not he
        have HNO := hH (show decG (ifcB ltS) s.data.toList = none by rw [hde, if_neg (fun h => he ((uH HEQ).2 h))])
        clear hr hn hm st hp hdec hb hpp hln hln2 hfit hde he htl HRD
        conv => arg 2; whnf
        go_wp2_with (first
          | (go_at_call 15; (with_reducible refine (uH HIF _ (uH HQ)).mono ?_); rintro e w5 ⟨rfl, hc2⟩; have hb2 := (uH HB).chg hc2 id; have ha2 := (uH HA).chg hc2 id; have HC2 := hH ((uH HC).trans' hc2); have HQ2 := hH ((uH HQ).trans' hc2); clear HB HA HC HQ; have HB := hH hb2; have HA := hH ha2; have HC := HC2; have HQ := HQ2; clear HC2 HQ2 hb2 ha2 hc2; clear q0 q1 q2 q3 q4 f0 f1 f2 f3 f4 p0 p1 p2 p3 p4; have q0 := (uH HB).cell 0; have f0 := (uH HB).frozen 0; have p0 := (uH HA).cell 0; have q1 := (uH HB).cell 1; have f1 := (uH HB).frozen 1; have p1 := (uH HA).cell 1; have q2 := (uH HB).cell 2; have f2 := (uH HB).frozen 2; have p2 := (uH HA).cell 2; have q3 := (uH HB).cell 3; have f3 := (uH HB).frozen 3; have p3 := (uH HA).cell 3; have q4 := (uH HB).cell 4; have f4 := (uH HB).frozen 4; have p4 := (uH HA).cell 4; simp only [List.getElem?_toArray, List.getElem?_cons_zero, List.getElem?_cons_succ] at q0 p0 q1 p1 q2 p2 q3 p3 q4 p4)
          | (go_at_call 17; (with_reducible refine (uH HEN _ (uH HQ)).mono ?_); rintro e w6 ⟨rfl, hc2⟩; have hb2 := (uH HB).chg hc2 id; have ha2 := (uH HA).chg hc2 id; have HC2 := hH ((uH HC).trans' hc2); have HQ2 := hH ((uH HQ).trans' hc2); clear HB HA HC HQ; have HB := hH hb2; have HA := hH ha2; have HC := HC2; have HQ := HQ2; clear HC2 HQ2 hb2 ha2 hc2; clear q0 q1 q2 q3 q4 f0 f1 f2 f3 f4 p0 p1 p2 p3 p4; have q0 := (uH HB).cell 0; have f0 := (uH HB).frozen 0; have p0 := (uH HA).cell 0; have q1 := (uH HB).cell 1; have f1 := (uH HB).frozen 1; have p1 := (uH HA).cell 1; have q2 := (uH HB).cell 2; have f2 := (uH HB).frozen 2; have p2 := (uH HA).cell 2; have q3 := (uH HB).cell 3; have f3 := (uH HB).frozen 3; have p3 := (uH HA).cell 3; have q4 := (uH HB).cell 4; have f4 := (uH HB).frozen 4; have p4 := (uH HA).cell 4; simp only [List.getElem?_toArray, List.getElem?_cons_zero, List.getElem?_cons_succ] at q0 p0 q1 p1 q2 p2 q3 p3 q4 p4))
        refine bodyPost_ret (v := .tuple #[.agg #[.string ⟨#[]⟩, .slice none 0 0, .slice none 0 0, .slice none 0 0, .slice none 0 0], .bool false]) (by simp [results, Tryz.results21, go_sem, q0, q1, q2, q3, q4]) rfl (DecD.no (uH HNO) rfl ?_)
        repeat (refine Chg.setCell ?_ (fun h => (by dsimp only at h; omega)) _)
        exact uH HC
      · subst he
        have HYES := hH (show decG (ifcB ltS) EN.data.toList = some ⟨nm, lo, ld, lf, ls⟩ by rw [hde, if_pos ((uH HEQ).1 rfl)])
        have he2 : (EN.toList == EN.toList) = true := by simp
        clear hr hn hm st hp hdec hb hpp hln hln2 hfit hde htl
        conv => arg 2; whnf
        go_wp2_with (first
          | (go_at_call 15; (with_reducible refine (uH HIF _ (uH HQ)).mono ?_); rintro e w5 ⟨rfl, hc2⟩; have hb2 := (uH HB).chg hc2 id; have ha2 := (uH HA).chg hc2 id; have HC2 := hH ((uH HC).trans' hc2); have HQ2 := hH ((uH HQ).trans' hc2); clear HB HA HC HQ; have HB := hH hb2; have HA := hH ha2; have HC := HC2; have HQ := HQ2; clear HC2 HQ2 hb2 ha2 hc2; clear q0 q1 q2 q3 q4 f0 f1 f2 f3 f4 p0 p1 p2 p3 p4; have q0 := (uH HB).cell 0; have f0 := (uH HB).frozen 0; have p0 := (uH HA).cell 0; have q1 := (uH HB).cell 1; have f1 := (uH HB).frozen 1; have p1 := (uH HA).cell 1; have q2 := (uH HB).cell 2; have f2 := (uH HB).frozen 2; have p2 := (uH HA).cell 2; have q3 := (uH HB).cell 3; have f3 := (uH HB).frozen 3; have p3 := (uH HA).cell 3; have q4 := (uH HB).cell 4; have f4 := (uH HB).frozen 4; have p4 := (uH HA).cell 4; simp only [List.getElem?_toArray, List.getElem?_cons_zero, List.getElem?_cons_succ] at q0 p0 q1 p1 q2 p2 q3 p3 q4 p4)
          | (go_at_call 17; (with_reducible refine (uH HEN _ (uH HQ)).mono ?_); rintro e w6 ⟨rfl, hc2⟩; have hb2 := (uH HB).chg hc2 id; have ha2 := (uH HA).chg hc2 id; have HC2 := hH ((uH HC).trans' hc2); have HQ2 := hH ((uH HQ).trans' hc2); clear HB HA HC HQ; have HB := hH hb2; have HA := hH ha2; have HC := HC2; have HQ := HQ2; clear HC2 HQ2 hb2 ha2 hc2; clear q0 q1 q2 q3 q4 f0 f1 f2 f3 f4 p0 p1 p2 p3 p4; have q0 := (uH HB).cell 0; have f0 := (uH HB).frozen 0; have p0 := (uH HA).cell 0; have q1 := (uH HB).cell 1; have f1 := (uH HB).frozen 1; have p1 := (uH HA).cell 1; have q2 := (uH HB).cell 2; have f2 := (uH HB).frozen 2; have p2 := (uH HA).cell 2; have q3 := (uH HB).cell 3; have f3 := (uH HB).frozen 3; have p3 := (uH HA).cell 3; have q4 := (uH HB).cell 4; have f4 := (uH HB).frozen 4; have p4 := (uH HA).cell 4; simp only [List.getElem?_toArray, List.getElem?_cons_zero, List.getElem?_cons_succ] at q0 p0 q1 p1 q2 p2 q3 p3 q4 p4))
        refine bodyPost_ret (v := .tuple #[.agg #[.string nm, .slice A1 lo.length a1, .slice A2 ld.length a2, .slice A3 lf.length a3, .slice A4 ls.length a4], .bool true]) (by simp [results, Tryz.results21, go_sem, q0, q1, q2, q3, q4]) rfl (DecD.yes (uH HYES) rfl ?_ (uH HRD _ ?_))
        · repeat (refine Chg.setCell ?_ (fun h => (by dsimp only at h; omega)) _)
          exact uH HC
        · repeat (refine Chg.setCell ?_ (fun _ => (by rfl)) _)
          exact (uH HQ).mono (fun _ _ h => h.elim)
end Go.Proofs.YtinekmjengckdaaGreatDoor

namespace Go.Proofs.YtinekmjengckdaaGreatDoor
open Go.RowKit
set_option maxHeartbeats 8000000
set_option maxRecDepth 1000000
noncomputable def dec3C : Code := (Tryz.f21.body.bind (findHead 29)).getD .skip
theorem dec3 (x1 x5 x7 x8 x9 x10 x11 x12 x13 x14 x15 x16 x17 x18 x19 x20 x21 x22 x23 x24 x25 x26 x27 x28 x29 x30 x31 x32 x33 x34 x35 x36 x37 x38 x39 x40 x41 x42 x43 x44 x45 x46 x47 x48 x49 x50 x51 x52 x53 x54 x55 x56 x57 x58 x59 x60 x61 x62 x63 x64 x65 x66 x67 x68 x69 x70 x71 x72 x73 x74 x75 x76 x77 x78 x79 x80 x81 x82 x83 x84 x85 x86 x87 x88 x89 x90 x91 x92 x93 x94 x95 x96 x97 x98 x99 x100 x101 x102 x103 x104 x105 x106 x107 x108 x109 x110 x111 x112 x113 x114 x115 x116 x117 x118 x119 x120 x121 x122 x123 x124 x125 x126 x127 x128 x129 x130 x131 x132 x133 x134 x135 x136 x137 x138 x139 x140 x141 x142 x143 x144 x145 x146 x147 x148 x149 x150 x151 x152 x153 x154 x155 x156 x157 x158 x159 x160 x161 x162 x163 x164 x165 x166 x167 x168 x169 x170 x171 x172 x173 x174 x175 x176 x177 x178 x179 x180 x181 x182 x183 x184 x185 x186 x187 x188 x189 x190 x191 x192 x193 x194 x195 x196 x197 x198 x199 x200 x201 x202 x203 x204 x205 x206 x207 x208 x209 : Value) (s nm s1 : ByteArray) (b1 : Bool) (w W : World) (g6 : Nat) (lo : List Opn) (A1 : Option Addr) (a1 : Nat) (ld : List Dt) (A2 : Option Addr) (a2 : Nat) (lf : List Fx) (A3 : Option Addr) (a3 : Nat) (t0 t1 t2 : Option (List UInt8)) (hs : s.size ≤ 800000000) (hm : s.data.toList.take 4 = magicB) (st : DSt w W g6 nm (.slice A1 lo.length a1) (.slice A2 ld.length a2) (.slice A3 lf.length a3) (.slice none 0 0) s1 b1) (hr0 : RdO (fun b => g6 < b) W (.slice A1 lo.length a1) lo) (_hk0 : lo.length ≤ 4000) (hr1 : RdDq (fun b => g6 < b) W (.slice A2 ld.length a2) ld) (_hk1 : ld.length ≤ 4000) (hr2 : RdF (fun b => g6 < b) W (.slice A3 lf.length a3) lf) (hk2 : lf.length ≤ 4000) (hc2 : capOk (.slice A3 lf.length a3))
    (h0 : NextSt pText (some (s.data.toList.drop 4)) nm t0) (h1 : NextSt (pRow pOpn) t0 lo t1) (h2 : NextSt (pRow pDt) t1 ld t2) (h3 : NextSt (pRow pFx) t2 lf (rstV s1 b1)) :
    Code.wp Tryz.prog dec3C (bodyPost Tryz.prog Tryz.f21 (DecD s w)) ⟨#[.string s, x1, .pointer (some ⟨w.heap.size, 0, none⟩), .bool false, .pointer (some ⟨w.heap.size + 1, 0, none⟩), x5, .pointer (some ⟨g6, 0, none⟩), x7, x8, x9, x10, x11, x12, x13, x14, x15, x16, x17, x18, x19, x20, x21, x22, x23, x24, x25, x26, x27, x28, x29, x30, x31, x32, x33, x34, x35, x36, x37, x38, x39, x40, x41, x42, x43, x44, x45, x46, x47, x48, x49, x50, x51, x52, x53, x54, x55, x56, x57, x58, x59, x60, x61, x62, x63, x64, x65, x66, x67, x68, x69, x70, x71, x72, x73, x74, x75, x76, x77, x78, x79, x80, x81, x82, x83, x84, x85, x86, x87, x88, x89, x90, x91, x92, x93, x94, x95, x96, x97, x98, x99, x100, x101, x102, x103, x104, x105, x106, x107, x108, x109, x110, x111, x112, x113, x114, x115, x116, x117, x118, x119, x120, x121, x122, x123, x124, x125, x126, x127, x128, x129, x130, x131, x132, x133, x134, x135, x136, x137, x138, x139, x140, x141, x142, x143, x144, x145, x146, x147, x148, x149, x150, x151, x152, x153, x154, x155, x156, x157, x158, x159, x160, x161, x162, x163, x164, x165, x166, x167, x168, x169, x170, x171, x172, x173, x174, x175, x176, x177, x178, x179, x180, x181, x182, x183, x184, x185, x186, x187, x188, x189, x190, x191, x192, x193, x194, x195, x196, x197, x198, x199, x200, x201, x202, x203, x204, x205, x206, x207, x208, x209], []⟩ W := by
  obtain ⟨i_, hi, hz, hsz_, hbb⟩ := info_parts infoSg
  have r0 := st.rst.cell 0
  have r1 := st.rst.cell 1
  simp only [List.getElem?_toArray, List.getElem?_cons_zero, List.getElem?_cons_succ] at r0 r1
  have HN := hH (refMany_any s1 b1 W st.sz)
  have HDS := hH st
  have HM := hH hm
  have hlo := st.lo
  clear st hm
  have HR0 := hH hr0
  have HR1 := hH hr1
  have HR2 := hH hr2
  have HH0 := hH h0
  have HH1 := hH h1
  have HH2 := hH h2
  have HH3 := hH h3
  clear hr0 hr1 hr2 h0 h1 h2 h3
  conv => arg 2; whnf
  go_upto_region 30 with (go_at_call 67; refine (uH HN).mono ?_; rintro e w2 ⟨v, n, s2, b2, rfl, rfl, hok, hs2, hc2, hnx⟩; have HNX := hH hnx; have HC2 := hH hc2; have hb2 := (uH HDS).rst.chg hc2 id; clear r0 r1; have r0 := hb2.cell 0; have r1 := hb2.cell 1; have f0 := hb2.frozen 0; have f1 := hb2.frozen 1; simp only [List.getElem?_toArray, List.getElem?_cons_zero, List.getElem?_cons_succ] at r0 r1; have HB2 := hH hb2; clear hnx hc2 hb2)
  obtain ⟨hb5, hc5⟩ := put2 (uH HB2) (.string s2) (.bool b2)
  have HRST := hH hb5
  have HQ0 := hH (((uH HC2).mono (S' := (· = g6)) (fun _ _ h => h.elim)).trans' hc5)
  have HRES := hH ((uH HDS).res.chg (uH HQ0) (by omega))
  have HIFC := hH ((uH HDS).ifc.chg (uH HQ0) (by omega))
  generalize (w2.setCell ⟨g6, 0, none⟩ (.string s2)).setCell ⟨g6, 1, none⟩ (.bool b2) = WS at *
  have HGS := hH (show g6 < WS.heap.size from (uH HRST).lt)
  have HCWS := hH ((uH HDS).chg.trans (uH HQ0) (fun j hj e => by omega))
  clear hb5 hc5 r0 r1 f0 f1 HB2
  have HMA := hH (ManyAt.start (p := pSg) (n := n) (st0 := rstV s2 b2) hok)
  have HRI := hH (RowIn.nil (f := (fun (s : Sg) u => [.string s.name, u])) (RE := RE_sig) (T := 56) (sz := 2) (base := WS.heap.size) WS)
  have HC00 := hH (Chg.refl (fun x => x = w.heap.size + 1 ∨ x = g6) WS)
  have hn4 : (n : Int) ≤ 4000 := by omega
  go_wp2_with fail
  rename_i K hK
  have HK := hH hK
  clear hK
  go_loopw [22] (fun t wr => ∃ (k : Nat) (l : List Sg) (s3 : ByteArray) (b3 : Bool) (va : Value), t = .int .i64 (k : Int) ∧ k ≤ n ∧ l.length = k ∧ s3.size ≤ 800000000 ∧ Blk wr w.heap.size 27 #[.string ⟨#[]⟩, .slice none 0 0, .slice none 0 0, .slice none 0 0, .slice none 0 0] ∧ Blk wr (w.heap.size + 1) 27 #[.string nm, .slice A1 lo.length a1, .slice A2 ld.length a2, .slice A3 lf.length a3, va] ∧ Blk wr g6 104 #[.string s3, .bool b3] ∧ RowIn (fun (s : Sg) u => [.string s.name, u]) RE_sig 56 2 WS.heap.size wr va l ∧ Chg (fun x => x = w.heap.size + 1 ∨ x = g6) WS wr ∧ ManyAt pSg n (rstV s2 b2) k l (rstV s3 b3)) (fun t _ => n - (intOf t).toNat)
  case atStart => exact ⟨0, [], s2, b2, _, rfl, Nat.zero_le _, rfl, hs2, uH HRES, uH HIFC, uH HRST, uH HRI, uH HC00, uH HMA⟩
  case round =>
    clear HRES HIFC HRST HMA HRI HC00
    obtain ⟨wq, rfl⟩ : ∃ wq : World, wq = wr := ⟨_, rfl⟩
    obtain ⟨k, l, s3, b3, va, rfl, hk, hll, hs3, hres, hifc, hrst, hrow, hch, hma⟩ := hrel
    have r0 := hrst.cell 0
    have r1 := hrst.cell 1
    simp only [List.getElem?_toArray, List.getElem?_cons_zero, List.getElem?_cons_succ] at r0 r1
    have HRES := hH hres
    have HIFC := hH hifc
    have HRST := hH hrst
    have HROW := hH hrow
    have HCH := hH hch
    have HMA := hH hma
    clear hres hifc hrst hrow hch hma
    by_cases hend : b3 = true ∨ n ≤ k
    · have hgu : ¬ (k : Int) < (n : Int) ∨ ((k : Int) < (n : Int) ∧ b3 = true) := by
        rcases hend with h | h
        · by_cases h2 : k < n
          · exact .inr ⟨by omega, h⟩
          · exact .inl (by omega)
        · exact .inl (by omega)
      have HFIN := hH (row_of_many (uH HNX) ((uH HMA).fin (hend.imp (fun h => by rw [h]; rfl) id)))
      have HRD := hH ((uH HROW).rd RE_sig_ok (by decide) (by omega))
      obtain ⟨NA, nc, hva⟩ := (uH HROW).val
      subst hva
      have hl4 : l.length ≤ 4000 := by omega
      have HSTN := hH (show DSt w wq g6 nm (.slice A1 lo.length a1) (.slice A2 ld.length a2) (.slice A3 lf.length a3) (.slice NA l.length nc) s3 b3 from ⟨(uH HCWS).trans (uH HCH) (fun j hj e => by rcases e with h | h <;> omega), uH HRES, uH HIFC, uH HRST, hlo, hs3, (uH HDS).nmk⟩)
      have HRN := hH (show RdSc (fun b => g6 < b) wq (.slice NA l.length nc) l from RdSc.mono (show RdSc (fun b => WS.heap.size ≤ b) wq (.slice NA l.length nc) l from (uH HRD).1) (fun b hb => by have := uH HGS; omega))
      have HRP0 := hH (((uH HR0).chg (uH HQ0) (fun b hb _ e => by omega)).chg (uH HCH) (fun b hb _ e => by rcases e with h | h <;> omega))
      have HRP1 := hH (((uH HR1).chg (uH HQ0) (fun b hb _ e => by omega)).chg (uH HCH) (fun b hb _ e => by rcases e with h | h <;> omega))
      have HRP2 := hH (((uH HR2).chg (uH HQ0) (fun b hb _ e => by omega)).chg (uH HCH) (fun b hb _ e => by rcases e with h | h <;> omega))
      clear hend
      rcases hgu with hgu | ⟨hgu, rfl⟩
      all_goals
        go_wp2_with fail
        refine uH HK _ _ ?_
        exact dec4 _ _ _ _ _ _ _ _ _ _ _ _ _ _ _ _ _ _ _ _ _ _ _ _ _ _ _ _ _ _ _ _ _ _ _ _ _ _ _ _ _ _ _ _ _ _ _ _ _ _ _ _ _ _ _ _ _ _ _ _ _ _ _ _ _ _ _ _ _ _ _ _ _ _ _ _ _ _ _ _ _ _ _ _ _ _ _ _ _ _ _ _ _ _ _ _ _ _ _ _ _ _ _ _ _ _ _ _ _ _ _ _ _ _ _ _ _ _ _ _ _ _ _ _ _ _ _ _ _ _ _ _ _ _ _ _ _ _ _ _ _ _ _ _ _ _ _ _ _ _ _ _ _ _ _ _ _ _ _ _ _ _ _ _ _ _ _ _ _ _ _ _ _ _ _ _ _ _ _ _ _ _ _ _ _ _ _ _ _ _ _ _ _ _ _ _ _ _ _ _ _ _ _ _ _ s nm s3 _ w wq g6 lo ld lf l A1 A2 A3 NA a1 a2 a3 nc hs (uH HM) (uH HSTN) ⟨Nat.le_trans (Nat.le_of_lt (uH HDS).nmk) (by decide), uH HRP0, RdDq.rd (uH HRP1), uH HRP2, uH HRN, hc2, (uH HRD).2⟩ hk2
            (NextSt.seq (q := fun a => seqT (pRow pOpn) fun b => seqT (pRow pDt) fun c => seqT (pRow pFx) fun d => mapT (fun e => (⟨a, b, c, d, e⟩ : Ifc)) (pRow pSg)) (uH HH0) (NextSt.seq (q := fun b => seqT (pRow pDt) fun c => seqT (pRow pFx) fun d => mapT (fun e => (⟨nm, b, c, d, e⟩ : Ifc)) (pRow pSg)) (uH HH1) (NextSt.seq (q := fun c => seqT (pRow pFx) fun d => mapT (fun e => (⟨nm, lo, c, d, e⟩ : Ifc)) (pRow pSg)) (uH HH2) (NextSt.seq (q := fun d => mapT (fun e => (⟨nm, lo, ld, d, e⟩ : Ifc)) (pRow pSg)) (uH HH3) ((uH HFIN).map (fun e => (⟨nm, lo, ld, lf, e⟩ : Ifc)))))))
    · have hkn : k < n := by omega
      have hki : (k : Int) < (n : Int) := by omega
      obtain rfl : b3 = false := by
        cases b3
        · rfl
        · exact absurd (.inl rfl) hend
      clear hend
      have HN0 := hH (refStr_any s3 false wq hs3)
      go_upto_region 34 with (go_at_call 66; refine (uH HN0).mono ?_; rintro e w3 ⟨v, xn, s4, b4, rfl, rfl, hok0, hs4, hc3, hnx0⟩; have HNX0 := hH hnx0; have HOK0 := hH hok0; have HGB := hH hc3.size; have hc3' := (Chg.refl (fun _ => False) wq).trans' (hc3.alloc (.cells #[.string s4, .bool b4] 104)); have HCW := hH hc3'; have HX := hH (Blk.new w3 104 #[.string s4, .bool b4]); have e0 := (uH HX).cell 0; have e1 := (uH HX).cell 1; simp only [List.getElem?_toArray, List.getElem?_cons_zero, List.getElem?_cons_succ] at e0 e1; clear hnx0 hc3 hc3' hok0 r0 r1)
      have HGX := hH (show w3.heap.size < (w3.alloc (.cells #[.string s4, .bool b4] 104)).heap.size by rw [size_alloc]; omega)
      generalize w3.alloc (.cells #[.string s4, .bool b4] 104) = W3 at *
      generalize w3.heap.size = gb at *
      have HN1 := hH (refNodes_any s4 b4 W3 hs4)
      go_upto_region 35 with (go_at_call 70; refine (uH HN1).mono ?_; rintro e w4 ⟨v, y1, s5, b5, rfl, hR, hok1, hs5, hc4, hnx1⟩; (obtain ⟨XA, xc, rfl⟩ := RdR.val hR.1); have HRX0 := hH hR.1; have HCAPX := hH hR.2; clear hR; have HNX1 := hH hnx1; have HOK1 := hH hok1; have HC4 := hH hc4; have hx := (uH HX).chg hc4 id; clear e0 e1; have e0 := hx.cell 0; have e1 := hx.cell 1; have f0 := hx.frozen 0; have f1 := hx.frozen 1; simp only [List.getElem?_toArray, List.getElem?_cons_zero, List.getElem?_cons_succ] at e0 e1; have HX4 := hH hx; clear hnx1 hc4 hx hok1)
      obtain ⟨hx5, hcx⟩ := put2 (uH HX4) (.string s5) (.bool b5)
      have HCW4 := hH (((uH HCW).trans' (uH HC4)).trans hcx (fun j hj e => by have := uH HGB; omega))
      have HGX4 := hH (show gb < ((w4.setCell ⟨gb, 0, none⟩ (.string s5)).setCell ⟨gb, 1, none⟩ (.bool b5)).heap.size by rw [size_set, size_set]; have := uH HGX; have := (uH HC4).size; omega)
      clear HX HCW
      have HX := hH hx5
      have HCW := HCW4
      have HRX := hH (((uH HRX0).chg hcx (fun b hb _ e => by have := uH HGX; omega)).mono (T' := fun b => wq.heap.size ≤ b) (fun b hb => by have := uH HGB; have := uH HGX; omega))
      clear HRX0
      clear HGX
      have HGX := HGX4
      clear hx5 hcx HCW4 HGX4 HC4 HX4 e0 e1 f0 f1
      generalize (w4.setCell ⟨gb, 0, none⟩ (.string s5)).setCell ⟨gb, 1, none⟩ (.bool b5) = W4 at *
      have e0 := (uH HX).cell 0
      have e1 := (uH HX).cell 1
      simp only [List.getElem?_toArray, List.getElem?_cons_zero, List.getElem?_cons_succ] at e0 e1
      clear e0 e1
      have HROWW := hH ((uH HROW).keep RE_sig_ok (uH HCW) (fun _ h => h.elim))
      have HOWY := hH (show ∀ j, va.ownBlock = some j → WS.heap.size ≤ j ∧ j < wq.heap.size from by
        obtain ⟨_, _, h2, _⟩ := uH HROW
        exact h2.lt)
      have HBF := hH ((uH HIFC).chg (uH HCW) id)
      have HBR := hH ((uH HRST).chg (uH HCW) id)
      have HRES7 := hH ((uH HRES).chg (uH HCW) id)
      have HBS := HX
      obtain ⟨ps, hps1, hps2, hps3⟩ := uH HROWW
      obtain ⟨VA1, VA2, hva⟩ := own_val hps2
      have hpl : ps.length = k := by rw [← hll, ← hps1, List.length_map]
      have HNF := hH (show ¬ va.ownBlock = some (w.heap.size + 1) from fun e => by have := (uH HOWY _ e).1; have := uH HGS; omega)
      have HNR := hH (show ¬ va.ownBlock = some g6 from fun e => by have := (uH HOWY _ e).1; have := uH HGS; omega)
      have HNS := hH (show ¬ va.ownBlock = some gb from fun e => by have := (uH HOWY _ e).2; have := uH HGB; omega)
      have HNT := hH (show ¬ va.ownBlock = some w.heap.size from fun e => by have := (uH HOWY _ e).1; have := uH HGS; omega)
      have HB1 := hH (show WS.heap.size ≤ wq.heap.size from (uH HCH).size)
      have HZ := hH (uH HCW).size
      have HU := hH (show RE_sig (fun b => wq.heap.size ≤ b) W4 (.slice XA y1.length xc) ⟨xn, y1⟩ from ⟨uH HRX, Nat.le_trans (Nat.le_of_lt (uH HOK0)) (by decide), uH HCAPX⟩)
      have HSTEP := hH (fun W3 v3 (ho : W3.ownsRow WS.heap.size 56 2 v3 (k + 1) ((ps.flatMap fun p => (fun (s : Sg) u => [.string s.name, u]) p.1 p.2) ++ [.string xn, .slice XA y1.length xc])) (hc : Chg (fun j => va.ownBlock = some j) (W4.alloc (.cells #[.string xn, .slice XA y1.length xc] 56)) W3) (hat : v3.ownBlock = va.ownBlock ∨ v3.ownBlock = some (W4.alloc (.cells #[.string xn, .slice XA y1.length xc] 56)).heap.size) => show RowIn (fun (s : Sg) u => [.string s.name, u]) RE_sig 56 2 WS.heap.size W3 v3 (l ++ [⟨xn, y1⟩]) from by
        rw [← hps1]
        exact RowIn.step RE_sig_ok hps2 hps3 (fun j hj => (uH HOWY j hj).2) (uH HB1) (uH HZ) (uH HU) (by rw [hpl]; exact ho) hc hat)
      rw [hpl] at hps2 hva
      clear hpl
      have HOWN := hH hps2
      have HLL := hH hll
      subst hva
      clear hps1 hps2 hps3 hll
      have hneFS : ¬ gb = w.heap.size + 1 := by have := uH HGB; have := uH HGS; have := uH HB1; omega
      have hne1 : ¬ w.heap.size + 1 = g6 := by omega
      have hne2 : ¬ g6 = w.heap.size + 1 := by omega
      have hm1 : k + 1 ≤ maxLen := by simp only [maxLen]; omega
      have hm2 : (k + 1) * 40 ≤ 140737488355328 := by omega
      have KS1 := hH (fun W' (hW : Chg (fun j_ => (Value.slice VA1 k VA2).ownBlock = some j_) W4 W') => show W'.cell? ⟨w.heap.size + 1, 4, none⟩ = some (.slice VA1 k VA2) from ((uH HBF).chg hW (uH HNF)).cell 4)
      have KS2 := hH (fun W' (hW : Chg (fun j_ => (Value.slice VA1 k VA2).ownBlock = some j_) W4 W') => show W'.cell? ⟨gb, 0, none⟩ = some (.string s5) ∧ W'.cell? ⟨gb, 1, none⟩ = some (.bool b5) from ⟨((uH HBS).chg hW (uH HNS)).cell 0, ((uH HBS).chg hW (uH HNS)).cell 1⟩)
      have HK1 := hH (uH KS1 _ ((Chg.refl _ W4).drew))
      have HK2 := hH (uH KS2 _ ((Chg.refl _ W4).drew))
      refine wp_region_au (fun W' => W'.cell? ⟨w.heap.size + 1, 4, none⟩ = some (.slice VA1 k VA2)) [9, 10] (fun W' => W'.cell? ⟨gb, 0, none⟩ = some (.string s5) ∧ W'.cell? ⟨gb, 1, none⟩ = some (.bool b5)) [10] 11 (by kernel_rfl) (by kernel_rfl) ?_
      refine AU.tk (i := 0) (v := ?_) rfl (by kernel_rfl) (by kernel_rfl) (fun _ _ _ h => h) ?_ (uH HK1) ?_
      rotate_left
      · intro W' hS'; (try dsimp only at hS'); go_simp; try with_reducible rfl
      try simp only [Act.put, List.setIfInBounds_toArray]
      refine AU.tk (i := 1) (v := ?_) rfl (by kernel_rfl) (by kernel_rfl) (fun _ _ _ h => h) ?_ (uH HK1) ?_
      rotate_left
      · intro W' hS'; (try dsimp only at hS'); go_simp; try with_reducible rfl
      try simp only [Act.put]
      refine AU.tk (i := 2) (v := ?_) rfl (by kernel_rfl) (by kernel_rfl) (fun _ _ _ h => h) ?_ (uH HK1) ?_
      rotate_left
      · intro W' hS'; (try dsimp only at hS'); go_simp; try with_reducible rfl
      try simp only [Act.put]
      refine AU.tk (i := 3) (v := ?_) rfl (by kernel_rfl) (by kernel_rfl) (fun _ _ _ h => h) ?_ (uH HK1) ?_
      rotate_left
      · intro W' hS'; (try dsimp only at hS'); go_simp; try with_reducible rfl
      try simp only [Act.put]
      refine AU.tk (i := 4) (v := ?_) rfl (by kernel_rfl) (by kernel_rfl) (fun _ _ _ h => h) ?_ (uH HK1) ?_
      rotate_left
      · intro W' hS'; (try dsimp only at hS'); go_simp; try with_reducible rfl
      try simp only [Act.put]
      refine AU.tk2 (i := 7) (v := ?_) rfl (by kernel_rfl) (by kernel_rfl) (fun _ _ _ h => h) ?_ (uH HK2) ?_
      rotate_left
      · intro W' hS'; (try dsimp only at hS'); go_simp; try with_reducible rfl
      try simp only [Act.put]
      refine AU.step (i := 5) (by kernel_rfl) rfl (fun K hK => ?_)
      go_simp
      refine hK.out _ _ ⟨fun _ => uH KS1 _ (((Chg.refl _ W4).alloc (.cells #[.string xn, .slice XA y1.length xc] 56)).drew), fun _ => uH KS2 _ (((Chg.refl _ W4).alloc (.cells #[.string xn, .slice XA y1.length xc] 56)).drew)⟩ ?_
      clear hK K
      try simp only [Act.put, List.setIfInBounds_toArray, List.set_cons_zero, List.set_cons_succ]
      refine AU.step (i := 6) (by kernel_rfl) rfl (fun K hK => ?_)
      have HOWA := own_chg ((uH HOWN).alloc (.cells #[.string xn, .slice XA y1.length xc] 56)) (Chg.drew (Chg.refl (fun _ => False) (W4.alloc (.cells #[.string xn, .slice XA y1.length xc] 56)))) (fun _ _ h => h)
      have HRNA := (((rd_new W4 W4.heap.size 56 [.string xn, .slice XA y1.length xc] rfl).mono (T' := fun _ => True) (fun _ _ => trivial)).chg (Chg.drew (Chg.refl (fun _ => False) (W4.alloc (.cells #[.string xn, .slice XA y1.length xc] 56)))) (fun _ _ _ h => h))
      refine step_append_rd _ rfl (.tmp 187) (.tmp 191) 25 rfl WS.heap.size 56 i_ (.agg #[.string ⟨#[]⟩, .slice none 0 0]) 2 40 Tryz.underlying25 hi hz hsz_ hbb rfl (by decide) _ k _ rfl HOWA (fun _ => True) _ 1 1 [.string xn, .slice XA y1.length xc] rfl rfl HRNA (by intro u hu; simp at hu; rcases hu with rfl | rfl <;> rfl) (hm1) (hm2) (by rw [show ((W4.alloc (.cells #[.string xn, .slice XA y1.length xc] 56)).drew).heap.size = (W4.alloc (.cells #[.string xn, .slice XA y1.length xc] 56)).heap.size from rfl, size_alloc]; have := uH HB1; have := uH HZ; omega) ?_
      intro v5 w5 ho5 hc5 hat
      obtain ⟨V51, V52, hv5⟩ := own_val ho5
      subst hv5
      have hc6 : Chg (fun j_ => (Value.slice VA1 k VA2).ownBlock = some j_) (W4.alloc (.cells #[.string xn, .slice XA y1.length xc] 56)) w5 := ((Chg.refl _ _).drew).trans' hc5
      have HROW5 := hH (uH HSTEP w5 _ ho5 hc6 hat)
      have hc7 : Chg (fun j_ => (Value.slice VA1 k VA2).ownBlock = some j_) W4 w5 := ((Chg.refl _ W4).alloc (.cells #[.string xn, .slice XA y1.length xc] 56)).trans' hc6
      have HC5 := hH hc7
      have HBF5 := hH ((uH HBF).chg hc7 (uH HNF))
      have HBR5 := hH ((uH HBR).chg hc7 (uH HNR))
      have HBS5 := hH ((uH HBS).chg hc7 (uH HNS))
      have HK15 := hH (uH KS1 _ hc7)
      have HK25 := hH (uH KS2 _ hc7)
      clear HK1 HK2 HOWA HRNA ho5 hc5 hat hc6 hc7
      refine hK.out _ _ ⟨fun _ => uH HK15, fun _ => uH HK25⟩ ?_
      clear hK K
      try simp only [Act.put, List.setIfInBounds_toArray]
      refine AU.step (i := 8) (by kernel_rfl) rfl (fun K hK => ?_)
      go_simp
      refine hK.out _ _ ⟨fun _ => uH HK15, fun _ => uH HK25⟩ ?_
      clear hK K
      try simp only [Act.put, List.setIfInBounds_toArray, List.set_cons_zero, List.set_cons_succ]
      have c7 := (uH HBF5).cell 4
      have f7 := (uH HBF5).frozen 4
      have c8 := (uH HBR5).cell 0
      have c9 := (uH HBR5).cell 1
      have f8 := (uH HBR5).frozen 0
      have f9 := (uH HBR5).frozen 1
      simp only [List.getElem?_toArray, List.getElem?_cons_zero, List.getElem?_cons_succ] at c7 c8 c9
      refine AU.step (i := 9) (by kernel_rfl) rfl (fun K hK => ?_)
      go_simp
      refine hK.out _ _ ⟨fun h => absurd (by decide) h, fun _ => ⟨((uH HBS5).far (p := ⟨w.heap.size + 1, 4, none⟩) hneFS (.slice V51 (k + 1) V52)).cell 0, ((uH HBS5).far (p := ⟨w.heap.size + 1, 4, none⟩) hneFS (.slice V51 (k + 1) V52)).cell 1⟩⟩ ?_
      clear hK K
      try simp only [Act.put, List.setIfInBounds_toArray, List.set_cons_zero, List.set_cons_succ]
      refine AU.step (i := 10) (by kernel_rfl) rfl (fun K hK => ?_)
      go_simp
      refine hK.out _ _ ⟨fun h => absurd (by decide) h, fun h => absurd (by decide) h⟩ ?_
      clear hK K
      try simp only [Act.put, List.setIfInBounds_toArray, List.set_cons_zero, List.set_cons_succ]
      refine AU.done (by kernel_rfl) ?_ _
      clear c7 f7 c8 c9 f8 f9 KS1 KS2 HK15 HK25
      have hgc := (((uH HBF5).set_ 4 (.slice V51 (k + 1) V52)).far (p := ⟨g6, 0, none⟩) hne1 (.string s5)).far (p := ⟨g6, 1, none⟩) hne1 (.bool b5)
      have hg8 := (((uH HBR5).far (p := ⟨w.heap.size + 1, 4, none⟩) hne2 (.slice V51 (k + 1) V52)).set_ 0 (.string s5)).set_ 1 (.bool b5)
      have hc9 := (((Chg.refl (fun x => x = w.heap.size + 1 ∨ x = g6) w5).setCell (p := ⟨w.heap.size + 1, 4, none⟩) (fun _ => .inl rfl) (.slice V51 (k + 1) V52)).setCell (p := ⟨g6, 0, none⟩) (fun _ => .inr rfl) (.string s5)).setCell (p := ⟨g6, 1, none⟩) (fun _ => .inr rfl) (.bool b5)
      have HRES9 := hH (((uH HRES7).chg (uH HC5) (uH HNT)).chg hc9 (fun e => by rcases e with h | h <;> omega))
      have HROW9 := hH ((uH HROW5).keep RE_sig_ok hc9 (fun b hb _ => by have := uH HGS; rcases hb with h | h <;> omega))
      have HCH9 := hH ((((uH HCH).trans (uH HCW) (fun _ _ h => h.elim)).trans (uH HC5) (fun j hj e => by have := (uH HOWY j e).1; omega)).trans' hc9)
      simp only [List.setIfInBounds_toArray, List.set_cons_zero, List.set_cons_succ] at hgc hg8
      have HGC := hH hgc
      have HG88 := hH hg8
      generalize (((w5.setCell ⟨w.heap.size + 1, 4, none⟩ (.slice V51 (k + 1) V52)).setCell ⟨g6, 0, none⟩ (.string s5)).setCell ⟨g6, 1, none⟩ (.bool b5)) = W9 at *
      have HNXT := hH (NextSt.seq (q := fun t => mapT (fun y => (⟨t, y⟩ : Sg)) pTyp) (uH HNX0) ((uH HNX1).map (fun y => (⟨xn, y⟩ : Sg))))
      clear hgc hg8 hc9
      go_wp2_with fail
      go_roundw
      case rel => exact ⟨k + 1, l ++ [⟨xn, y1⟩], s5, b5, _, by go_num, by omega, by rw [List.length_append, uH HLL]; rfl, hs5, uH HRES9, uH HGC, uH HG88, uH HROW9, uH HCH9, ManyAt.step (r := s3.data.toList) (show ManyAt pSg n (rstV s2 b2) k l (some s3.data.toList) from uH HMA) hkn (show NextSt pSg (some s3.data.toList) ⟨xn, y1⟩ _ from uH HNXT)⟩
      case measure => simp [intOf]; omega
end Go.Proofs.YtinekmjengckdaaGreatDoor

namespace Go.Proofs.YtinekmjengckdaaGreatDoor
open Go.RowKit
set_option maxHeartbeats 8000000
set_option maxRecDepth 1000000
noncomputable def dec2C : Code := (Tryz.f21.body.bind (findHead 21)).getD .skip
theorem dec2 (x1 x5 x7 x8 x9 x10 x11 x12 x13 x14 x15 x16 x17 x18 x19 x20 x21 x22 x23 x24 x25 x26 x27 x28 x29 x30 x31 x32 x33 x34 x35 x36 x37 x38 x39 x40 x41 x42 x43 x44 x45 x46 x47 x48 x49 x50 x51 x52 x53 x54 x55 x56 x57 x58 x59 x60 x61 x62 x63 x64 x65 x66 x67 x68 x69 x70 x71 x72 x73 x74 x75 x76 x77 x78 x79 x80 x81 x82 x83 x84 x85 x86 x87 x88 x89 x90 x91 x92 x93 x94 x95 x96 x97 x98 x99 x100 x101 x102 x103 x104 x105 x106 x107 x108 x109 x110 x111 x112 x113 x114 x115 x116 x117 x118 x119 x120 x121 x122 x123 x124 x125 x126 x127 x128 x129 x130 x131 x132 x133 x134 x135 x136 x137 x138 x139 x140 x141 x142 x143 x144 x145 x146 x147 x148 x149 x150 x151 x152 x153 x154 x155 x156 x157 x158 x159 x160 x161 x162 x163 x164 x165 x166 x167 x168 x169 x170 x171 x172 x173 x174 x175 x176 x177 x178 x179 x180 x181 x182 x183 x184 x185 x186 x187 x188 x189 x190 x191 x192 x193 x194 x195 x196 x197 x198 x199 x200 x201 x202 x203 x204 x205 x206 x207 x208 x209 : Value) (s nm s1 : ByteArray) (b1 : Bool) (w W : World) (g6 : Nat) (lo : List Opn) (A1 : Option Addr) (a1 : Nat) (ld : List Dt) (A2 : Option Addr) (a2 : Nat) (t0 t1 : Option (List UInt8)) (hs : s.size ≤ 800000000) (hm : s.data.toList.take 4 = magicB) (st : DSt w W g6 nm (.slice A1 lo.length a1) (.slice A2 ld.length a2) (.slice none 0 0) (.slice none 0 0) s1 b1) (hr0 : RdO (fun b => g6 < b) W (.slice A1 lo.length a1) lo) (hk0 : lo.length ≤ 4000) (hr1 : RdDq (fun b => g6 < b) W (.slice A2 ld.length a2) ld) (hk1 : ld.length ≤ 4000)
    (h0 : NextSt pText (some (s.data.toList.drop 4)) nm t0) (h1 : NextSt (pRow pOpn) t0 lo t1) (h2 : NextSt (pRow pDt) t1 ld (rstV s1 b1)) :
    Code.wp Tryz.prog dec2C (bodyPost Tryz.prog Tryz.f21 (DecD s w)) ⟨#[.string s, x1, .pointer (some ⟨w.heap.size, 0, none⟩), .bool false, .pointer (some ⟨w.heap.size + 1, 0, none⟩), x5, .pointer (some ⟨g6, 0, none⟩), x7, x8, x9, x10, x11, x12, x13, x14, x15, x16, x17, x18, x19, x20, x21, x22, x23, x24, x25, x26, x27, x28, x29, x30, x31, x32, x33, x34, x35, x36, x37, x38, x39, x40, x41, x42, x43, x44, x45, x46, x47, x48, x49, x50, x51, x52, x53, x54, x55, x56, x57, x58, x59, x60, x61, x62, x63, x64, x65, x66, x67, x68, x69, x70, x71, x72, x73, x74, x75, x76, x77, x78, x79, x80, x81, x82, x83, x84, x85, x86, x87, x88, x89, x90, x91, x92, x93, x94, x95, x96, x97, x98, x99, x100, x101, x102, x103, x104, x105, x106, x107, x108, x109, x110, x111, x112, x113, x114, x115, x116, x117, x118, x119, x120, x121, x122, x123, x124, x125, x126, x127, x128, x129, x130, x131, x132, x133, x134, x135, x136, x137, x138, x139, x140, x141, x142, x143, x144, x145, x146, x147, x148, x149, x150, x151, x152, x153, x154, x155, x156, x157, x158, x159, x160, x161, x162, x163, x164, x165, x166, x167, x168, x169, x170, x171, x172, x173, x174, x175, x176, x177, x178, x179, x180, x181, x182, x183, x184, x185, x186, x187, x188, x189, x190, x191, x192, x193, x194, x195, x196, x197, x198, x199, x200, x201, x202, x203, x204, x205, x206, x207, x208, x209], []⟩ W := by
  obtain ⟨i_, hi, hz, hsz_, hbb⟩ := info_parts infoFx
  have r0 := st.rst.cell 0
  have r1 := st.rst.cell 1
  simp only [List.getElem?_toArray, List.getElem?_cons_zero, List.getElem?_cons_succ] at r0 r1
  have HN := hH (refMany_any s1 b1 W st.sz)
  have HDS := hH st
  have HM := hH hm
  have hlo := st.lo
  clear st hm
  have HR0 := hH hr0
  have HR1 := hH hr1
  have HH0 := hH h0
  have HH1 := hH h1
  have HH2 := hH h2
  clear hr0 hr1 h0 h1 h2
  conv => arg 2; whnf
  go_upto_region 22 with (go_at_call 67; refine (uH HN).mono ?_; rintro e w2 ⟨v, n, s2, b2, rfl, rfl, hok, hs2, hc2, hnx⟩; have HNX := hH hnx; have HC2 := hH hc2; have hb2 := (uH HDS).rst.chg hc2 id; clear r0 r1; have r0 := hb2.cell 0; have r1 := hb2.cell 1; have f0 := hb2.frozen 0; have f1 := hb2.frozen 1; simp only [List.getElem?_toArray, List.getElem?_cons_zero, List.getElem?_cons_succ] at r0 r1; have HB2 := hH hb2; clear hnx hc2 hb2)
  obtain ⟨hb5, hc5⟩ := put2 (uH HB2) (.string s2) (.bool b2)
  have HRST := hH hb5
  have HQ0 := hH (((uH HC2).mono (S' := (· = g6)) (fun _ _ h => h.elim)).trans' hc5)
  have HRES := hH ((uH HDS).res.chg (uH HQ0) (by omega))
  have HIFC := hH ((uH HDS).ifc.chg (uH HQ0) (by omega))
  generalize (w2.setCell ⟨g6, 0, none⟩ (.string s2)).setCell ⟨g6, 1, none⟩ (.bool b2) = WS at *
  have HGS := hH (show g6 < WS.heap.size from (uH HRST).lt)
  have HCWS := hH ((uH HDS).chg.trans (uH HQ0) (fun j hj e => by omega))
  clear hb5 hc5 r0 r1 f0 f1 HB2
  have HMA := hH (ManyAt.start (p := pFx) (n := n) (st0 := rstV s2 b2) hok)
  have HRI := hH (RowIn.nil (f := (fun (f : Fx) _ => [.string f.op, .int .i64 f.level, .int .i64 f.side])) (RE := RE_fix) (T := 53) (sz := 3) (base := WS.heap.size) WS)
  have HC00 := hH (Chg.refl (fun x => x = w.heap.size + 1 ∨ x = g6) WS)
  have hn4 : (n : Int) ≤ 4000 := by omega
  go_wp2_with fail
  rename_i K hK
  have HK := hH hK
  clear hK
  go_loopw [17] (fun t wr => ∃ (k : Nat) (l : List Fx) (s3 : ByteArray) (b3 : Bool) (va : Value), t = .int .i64 (k : Int) ∧ k ≤ n ∧ l.length = k ∧ s3.size ≤ 800000000 ∧ Blk wr w.heap.size 27 #[.string ⟨#[]⟩, .slice none 0 0, .slice none 0 0, .slice none 0 0, .slice none 0 0] ∧ Blk wr (w.heap.size + 1) 27 #[.string nm, .slice A1 lo.length a1, .slice A2 ld.length a2, va, .slice none 0 0] ∧ Blk wr g6 104 #[.string s3, .bool b3] ∧ RowIn (fun (f : Fx) _ => [.string f.op, .int .i64 f.level, .int .i64 f.side]) RE_fix 53 3 WS.heap.size wr va l ∧ Chg (fun x => x = w.heap.size + 1 ∨ x = g6) WS wr ∧ ManyAt pFx n (rstV s2 b2) k l (rstV s3 b3)) (fun t _ => n - (intOf t).toNat)
  case atStart => exact ⟨0, [], s2, b2, _, rfl, Nat.zero_le _, rfl, hs2, uH HRES, uH HIFC, uH HRST, uH HRI, uH HC00, uH HMA⟩
  case round =>
    clear HRES HIFC HRST HMA HRI HC00
    obtain ⟨wq, rfl⟩ : ∃ wq : World, wq = wr := ⟨_, rfl⟩
    obtain ⟨k, l, s3, b3, va, rfl, hk, hll, hs3, hres, hifc, hrst, hrow, hch, hma⟩ := hrel
    have r0 := hrst.cell 0
    have r1 := hrst.cell 1
    simp only [List.getElem?_toArray, List.getElem?_cons_zero, List.getElem?_cons_succ] at r0 r1
    have HRES := hH hres
    have HIFC := hH hifc
    have HRST := hH hrst
    have HROW := hH hrow
    have HCH := hH hch
    have HMA := hH hma
    clear hres hifc hrst hrow hch hma
    by_cases hend : b3 = true ∨ n ≤ k
    · have hgu : ¬ (k : Int) < (n : Int) ∨ ((k : Int) < (n : Int) ∧ b3 = true) := by
        rcases hend with h | h
        · by_cases h2 : k < n
          · exact .inr ⟨by omega, h⟩
          · exact .inl (by omega)
        · exact .inl (by omega)
      have HFIN := hH (row_of_many (uH HNX) ((uH HMA).fin (hend.imp (fun h => by rw [h]; rfl) id)))
      have HRD := hH ((uH HROW).rd RE_fix_ok (by decide) (by omega))
      obtain ⟨NA, nc, hva⟩ := (uH HROW).val
      subst hva
      have hl4 : l.length ≤ 4000 := by omega
      have HSTN := hH (show DSt w wq g6 nm (.slice A1 lo.length a1) (.slice A2 ld.length a2) (.slice NA l.length nc) (.slice none 0 0) s3 b3 from ⟨(uH HCWS).trans (uH HCH) (fun j hj e => by rcases e with h | h <;> omega), uH HRES, uH HIFC, uH HRST, hlo, hs3, (uH HDS).nmk⟩)
      have HRN := hH (show RdF (fun b => g6 < b) wq (.slice NA l.length nc) l from RdF.mono (show RdF (fun b => WS.heap.size ≤ b) wq (.slice NA l.length nc) l from (uH HRD).1) (fun b hb => by have := uH HGS; omega))
      have HRP0 := hH (((uH HR0).chg (uH HQ0) (fun b hb _ e => by omega)).chg (uH HCH) (fun b hb _ e => by rcases e with h | h <;> omega))
      have HRP1 := hH (((uH HR1).chg (uH HQ0) (fun b hb _ e => by omega)).chg (uH HCH) (fun b hb _ e => by rcases e with h | h <;> omega))
      clear hend
      rcases hgu with hgu | ⟨hgu, rfl⟩
      all_goals
        go_wp2_with fail
        refine uH HK _ _ ?_
        exact dec3 _ _ _ _ _ _ _ _ _ _ _ _ _ _ _ _ _ _ _ _ _ _ _ _ _ _ _ _ _ _ _ _ _ _ _ _ _ _ _ _ _ _ _ _ _ _ _ _ _ _ _ _ _ _ _ _ _ _ _ _ _ _ _ _ _ _ _ _ _ _ _ _ _ _ _ _ _ _ _ _ _ _ _ _ _ _ _ _ _ _ _ _ _ _ _ _ _ _ _ _ _ _ _ _ _ _ _ _ _ _ _ _ _ _ _ _ _ _ _ _ _ _ _ _ _ _ _ _ _ _ _ _ _ _ _ _ _ _ _ _ _ _ _ _ _ _ _ _ _ _ _ _ _ _ _ _ _ _ _ _ _ _ _ _ _ _ _ _ _ _ _ _ _ _ _ _ _ _ _ _ _ _ _ _ _ _ _ _ _ _ _ _ _ _ _ _ _ _ _ _ _ _ _ _ _ s nm s3 _ w wq g6 lo A1 a1 ld A2 a2 l NA nc t0 t1 (rstV s1 b1) hs (uH HM) (uH HSTN) (uH HRP0) hk0 (uH HRP1) hk1 (uH HRN) hl4 (uH HRD).2 (uH HH0) (uH HH1) (uH HH2) (uH HFIN)
    · have hkn : k < n := by omega
      have hki : (k : Int) < (n : Int) := by omega
      obtain rfl : b3 = false := by
        cases b3
        · rfl
        · exact absurd (.inl rfl) hend
      clear hend
      have HN0 := hH (refStr_any s3 false wq hs3)
      go_upto_region 26 with (go_at_call 66; refine (uH HN0).mono ?_; rintro e w3 ⟨v, xn, s4, b4, rfl, rfl, hok0, hs4, hc3, hnx0⟩; have HNX0 := hH hnx0; have HOK0 := hH hok0; have HGB := hH hc3.size; have hc3' := (Chg.refl (fun _ => False) wq).trans' (hc3.alloc (.cells #[.string s4, .bool b4] 104)); have HCW := hH hc3'; have HX := hH (Blk.new w3 104 #[.string s4, .bool b4]); have e0 := (uH HX).cell 0; have e1 := (uH HX).cell 1; simp only [List.getElem?_toArray, List.getElem?_cons_zero, List.getElem?_cons_succ] at e0 e1; clear hnx0 hc3 hc3' hok0 r0 r1)
      have HGX := hH (show w3.heap.size < (w3.alloc (.cells #[.string s4, .bool b4] 104)).heap.size by rw [size_alloc]; omega)
      generalize w3.alloc (.cells #[.string s4, .bool b4] 104) = W3 at *
      generalize w3.heap.size = gb at *
      have HN1 := hH (refNum_1 s4 b4 W3 hs4)
      go_upto_region 27 with (go_at_call 68; refine (uH HN1).mono ?_; rintro e w4 ⟨v, y1, s5, b5, rfl, rfl, hok1, hs5, hc4, hnx1⟩; have HNX1 := hH hnx1; have HOK1 := hH hok1; have HC4 := hH hc4; have hx := (uH HX).chg hc4 id; clear e0 e1; have e0 := hx.cell 0; have e1 := hx.cell 1; have f0 := hx.frozen 0; have f1 := hx.frozen 1; simp only [List.getElem?_toArray, List.getElem?_cons_zero, List.getElem?_cons_succ] at e0 e1; have HX4 := hH hx; clear hnx1 hc4 hx hok1)
      obtain ⟨hx5, hcx⟩ := put2 (uH HX4) (.string s5) (.bool b5)
      have HCW4 := hH (((uH HCW).trans' (uH HC4)).trans hcx (fun j hj e => by have := uH HGB; omega))
      have HGX4 := hH (show gb < ((w4.setCell ⟨gb, 0, none⟩ (.string s5)).setCell ⟨gb, 1, none⟩ (.bool b5)).heap.size by rw [size_set, size_set]; have := uH HGX; have := (uH HC4).size; omega)
      clear HX HCW
      have HX := hH hx5
      have HCW := HCW4
      clear HGX
      have HGX := HGX4
      clear hx5 hcx HCW4 HGX4 HC4 HX4 e0 e1 f0 f1
      generalize (w4.setCell ⟨gb, 0, none⟩ (.string s5)).setCell ⟨gb, 1, none⟩ (.bool b5) = W4 at *
      have e0 := (uH HX).cell 0
      have e1 := (uH HX).cell 1
      simp only [List.getElem?_toArray, List.getElem?_cons_zero, List.getElem?_cons_succ] at e0 e1
      have HN2 := hH (refNum_1 s5 b5 W4 hs5)
      go_upto_region 28 with (go_at_call 68; refine (uH HN2).mono ?_; rintro e w4 ⟨v, y2, s6, b6, rfl, rfl, hok2, hs6, hc4, hnx2⟩; have HNX2 := hH hnx2; have HOK2 := hH hok2; have HC4 := hH hc4; have hx := (uH HX).chg hc4 id; clear e0 e1; have e0 := hx.cell 0; have e1 := hx.cell 1; have f0 := hx.frozen 0; have f1 := hx.frozen 1; simp only [List.getElem?_toArray, List.getElem?_cons_zero, List.getElem?_cons_succ] at e0 e1; have HX4 := hH hx; clear hnx2 hc4 hx hok2)
      obtain ⟨hx5, hcx⟩ := put2 (uH HX4) (.string s6) (.bool b6)
      have HCW4 := hH (((uH HCW).trans' (uH HC4)).trans hcx (fun j hj e => by have := uH HGB; omega))
      have HGX4 := hH (show gb < ((w4.setCell ⟨gb, 0, none⟩ (.string s6)).setCell ⟨gb, 1, none⟩ (.bool b6)).heap.size by rw [size_set, size_set]; have := uH HGX; have := (uH HC4).size; omega)
      clear HX HCW
      have HX := hH hx5
      have HCW := HCW4
      clear HGX
      have HGX := HGX4
      clear hx5 hcx HCW4 HGX4 HC4 HX4 e0 e1 f0 f1
      generalize (w4.setCell ⟨gb, 0, none⟩ (.string s6)).setCell ⟨gb, 1, none⟩ (.bool b6) = W5 at *
      have e0 := (uH HX).cell 0
      have e1 := (uH HX).cell 1
      simp only [List.getElem?_toArray, List.getElem?_cons_zero, List.getElem?_cons_succ] at e0 e1
      clear e0 e1
      have hwz : IntKind.i64.wrap ((y2 : Int) - 1) = (y2 : Int) - 1 := IntWalk.i64_in _ (by have := uH HOK2; omega)
      have hwz2 : wrap64 ((y2 : Int) - 1) = (y2 : Int) - 1 := w64 _ (by have := uH HOK2; omega)
      have HROWW := hH ((uH HROW).keep RE_fix_ok (uH HCW) (fun _ h => h.elim))
      have HOWY := hH (show ∀ j, va.ownBlock = some j → WS.heap.size ≤ j ∧ j < wq.heap.size from by
        obtain ⟨_, _, h2, _⟩ := uH HROW
        exact h2.lt)
      have HBF := hH ((uH HIFC).chg (uH HCW) id)
      have HBR := hH ((uH HRST).chg (uH HCW) id)
      have HRES7 := hH ((uH HRES).chg (uH HCW) id)
      have HBS := HX
      obtain ⟨ps, hps1, hps2, hps3⟩ := uH HROWW
      obtain ⟨VA1, VA2, hva⟩ := own_val hps2
      have hpl : ps.length = k := by rw [← hll, ← hps1, List.length_map]
      have HNF := hH (show ¬ va.ownBlock = some (w.heap.size + 1) from fun e => by have := (uH HOWY _ e).1; have := uH HGS; omega)
      have HNR := hH (show ¬ va.ownBlock = some g6 from fun e => by have := (uH HOWY _ e).1; have := uH HGS; omega)
      have HNS := hH (show ¬ va.ownBlock = some gb from fun e => by have := (uH HOWY _ e).2; have := uH HGB; omega)
      have HNT := hH (show ¬ va.ownBlock = some w.heap.size from fun e => by have := (uH HOWY _ e).1; have := uH HGS; omega)
      have HB1 := hH (show WS.heap.size ≤ wq.heap.size from (uH HCH).size)
      have HZ := hH (uH HCW).size
      have HU := hH (show RE_fix (fun b => wq.heap.size ≤ b) W5 undef ⟨xn, (y1 : Int), (y2 : Int) - 1⟩ from Nat.le_trans (Nat.le_of_lt (uH HOK0)) (by decide))
      have HSTEP := hH (fun W3 v3 (ho : W3.ownsRow WS.heap.size 53 3 v3 (k + 1) ((ps.flatMap fun p => (fun (f : Fx) _ => [.string f.op, .int .i64 f.level, .int .i64 f.side]) p.1 p.2) ++ [.string xn, .int .i64 (y1 : Int), .int .i64 ((y2 : Int) - 1)])) (hc : Chg (fun j => va.ownBlock = some j) (W5.alloc (.cells #[.string xn, .int .i64 (y1 : Int), .int .i64 ((y2 : Int) - 1)] 53)) W3) (hat : v3.ownBlock = va.ownBlock ∨ v3.ownBlock = some (W5.alloc (.cells #[.string xn, .int .i64 (y1 : Int), .int .i64 ((y2 : Int) - 1)] 53)).heap.size) => show RowIn (fun (f : Fx) _ => [.string f.op, .int .i64 f.level, .int .i64 f.side]) RE_fix 53 3 WS.heap.size W3 v3 (l ++ [⟨xn, (y1 : Int), (y2 : Int) - 1⟩]) from by
        rw [← hps1]
        exact RowIn.step RE_fix_ok hps2 hps3 (fun j hj => (uH HOWY j hj).2) (uH HB1) (uH HZ) (uH HU) (by rw [hpl]; exact ho) hc hat)
      rw [hpl] at hps2 hva
      clear hpl
      have HOWN := hH hps2
      have HLL := hH hll
      subst hva
      clear hps1 hps2 hps3 hll
      have hneFS : ¬ gb = w.heap.size + 1 := by have := uH HGB; have := uH HGS; have := uH HB1; omega
      have hne1 : ¬ w.heap.size + 1 = g6 := by omega
      have hne2 : ¬ g6 = w.heap.size + 1 := by omega
      have hm1 : k + 1 ≤ maxLen := by simp only [maxLen]; omega
      have hm2 : (k + 1) * 32 ≤ 140737488355328 := by omega
      have KS1 := hH (fun W' (hW : Chg (fun j_ => (Value.slice VA1 k VA2).ownBlock = some j_) W5 W') => show W'.cell? ⟨w.heap.size + 1, 3, none⟩ = some (.slice VA1 k VA2) from ((uH HBF).chg hW (uH HNF)).cell 3)
      have KS2 := hH (fun W' (hW : Chg (fun j_ => (Value.slice VA1 k VA2).ownBlock = some j_) W5 W') => show W'.cell? ⟨gb, 0, none⟩ = some (.string s6) ∧ W'.cell? ⟨gb, 1, none⟩ = some (.bool b6) from ⟨((uH HBS).chg hW (uH HNS)).cell 0, ((uH HBS).chg hW (uH HNS)).cell 1⟩)
      have HK1 := hH (uH KS1 _ ((Chg.refl _ W5).drew))
      have HK2 := hH (uH KS2 _ ((Chg.refl _ W5).drew))
      refine wp_region_au (fun W' => W'.cell? ⟨w.heap.size + 1, 3, none⟩ = some (.slice VA1 k VA2)) [11, 12] (fun W' => W'.cell? ⟨gb, 0, none⟩ = some (.string s6) ∧ W'.cell? ⟨gb, 1, none⟩ = some (.bool b6)) [12] 13 (by kernel_rfl) (by kernel_rfl) ?_
      refine AU.tk (i := 0) (v := ?_) rfl (by kernel_rfl) (by kernel_rfl) (fun _ _ _ h => h) ?_ (uH HK1) ?_
      rotate_left
      · intro W' hS'; (try dsimp only at hS'); go_simp; try with_reducible rfl
      try simp only [Act.put, List.setIfInBounds_toArray]
      refine AU.tk (i := 1) (v := ?_) rfl (by kernel_rfl) (by kernel_rfl) (fun _ _ _ h => h) ?_ (uH HK1) ?_
      rotate_left
      · intro W' hS'; (try dsimp only at hS'); go_simp; try with_reducible rfl
      try simp only [Act.put]
      refine AU.tk (i := 2) (v := ?_) rfl (by kernel_rfl) (by kernel_rfl) (fun _ _ _ h => h) ?_ (uH HK1) ?_
      rotate_left
      · intro W' hS'; (try dsimp only at hS'); go_simp; try with_reducible rfl
      try simp only [Act.put]
      refine AU.tk (i := 3) (v := ?_) rfl (by kernel_rfl) (by kernel_rfl) (fun _ _ _ h => h) ?_ (uH HK1) ?_
      rotate_left
      · intro W' hS'; (try dsimp only at hS'); go_simp; try with_reducible rfl
      try simp only [Act.put]
      refine AU.tk (i := 4) (v := ?_) rfl (by kernel_rfl) (by kernel_rfl) (fun _ _ _ h => h) ?_ (uH HK1) ?_
      rotate_left
      · intro W' hS'; (try dsimp only at hS'); go_simp; try with_reducible rfl
      try simp only [Act.put]
      refine AU.tk (i := 5) (v := ?_) rfl (by kernel_rfl) (by kernel_rfl) (fun _ _ _ h => h) ?_ (uH HK1) ?_
      rotate_left
      · intro W' hS'; (try dsimp only at hS'); go_simp; try with_reducible rfl
      try simp only [Act.put]
      refine AU.tk (i := 6) (v := ?_) rfl (by kernel_rfl) (by kernel_rfl) (fun _ _ _ h => h) ?_ (uH HK1) ?_
      rotate_left
      · intro W' hS'; (try dsimp only at hS'); go_simp; try with_reducible rfl
      try simp only [Act.put]
      refine AU.tk2 (i := 9) (v := ?_) rfl (by kernel_rfl) (by kernel_rfl) (fun _ _ _ h => h) ?_ (uH HK2) ?_
      rotate_left
      · intro W' hS'; (try dsimp only at hS'); go_simp; try with_reducible rfl
      try simp only [Act.put]
      refine AU.step (i := 7) (by kernel_rfl) rfl (fun K hK => ?_)
      go_simp
      refine hK.out _ _ ⟨fun _ => uH KS1 _ (((Chg.refl _ W5).alloc (.cells #[.string xn, .int .i64 (y1 : Int), .int .i64 ((y2 : Int) - 1)] 53)).drew), fun _ => uH KS2 _ (((Chg.refl _ W5).alloc (.cells #[.string xn, .int .i64 (y1 : Int), .int .i64 ((y2 : Int) - 1)] 53)).drew)⟩ ?_
      clear hK K
      try simp only [Act.put, List.setIfInBounds_toArray, List.set_cons_zero, List.set_cons_succ]
      refine AU.step (i := 8) (by kernel_rfl) rfl (fun K hK => ?_)
      have HOWA := own_chg ((uH HOWN).alloc (.cells #[.string xn, .int .i64 (y1 : Int), .int .i64 ((y2 : Int) - 1)] 53)) (Chg.drew (Chg.refl (fun _ => False) (W5.alloc (.cells #[.string xn, .int .i64 (y1 : Int), .int .i64 ((y2 : Int) - 1)] 53)))) (fun _ _ h => h)
      have HRNA := (((rd_new W5 W5.heap.size 53 [.string xn, .int .i64 (y1 : Int), .int .i64 ((y2 : Int) - 1)] rfl).mono (T' := fun _ => True) (fun _ _ => trivial)).chg (Chg.drew (Chg.refl (fun _ => False) (W5.alloc (.cells #[.string xn, .int .i64 (y1 : Int), .int .i64 ((y2 : Int) - 1)] 53)))) (fun _ _ _ h => h))
      refine step_append_rd _ rfl (.tmp 151) (.tmp 157) 24 rfl WS.heap.size 53 i_ (.agg #[.string ⟨#[]⟩, .int .i64 0, .int .i64 0]) 3 32 Tryz.underlying24 hi hz hsz_ hbb rfl (by decide) _ k _ rfl HOWA (fun _ => True) _ 1 1 [.string xn, .int .i64 (y1 : Int), .int .i64 ((y2 : Int) - 1)] rfl rfl HRNA (by intro u hu; simp at hu; rcases hu with rfl | rfl | rfl <;> rfl) (hm1) (hm2) (by rw [show ((W5.alloc (.cells #[.string xn, .int .i64 (y1 : Int), .int .i64 ((y2 : Int) - 1)] 53)).drew).heap.size = (W5.alloc (.cells #[.string xn, .int .i64 (y1 : Int), .int .i64 ((y2 : Int) - 1)] 53)).heap.size from rfl, size_alloc]; have := uH HB1; have := uH HZ; omega) ?_
      intro v5 w5 ho5 hc5 hat
      obtain ⟨V51, V52, hv5⟩ := own_val ho5
      subst hv5
      have hc6 : Chg (fun j_ => (Value.slice VA1 k VA2).ownBlock = some j_) (W5.alloc (.cells #[.string xn, .int .i64 (y1 : Int), .int .i64 ((y2 : Int) - 1)] 53)) w5 := ((Chg.refl _ _).drew).trans' hc5
      have HROW5 := hH (uH HSTEP w5 _ ho5 hc6 hat)
      have hc7 : Chg (fun j_ => (Value.slice VA1 k VA2).ownBlock = some j_) W5 w5 := ((Chg.refl _ W5).alloc (.cells #[.string xn, .int .i64 (y1 : Int), .int .i64 ((y2 : Int) - 1)] 53)).trans' hc6
      have HC5 := hH hc7
      have HBF5 := hH ((uH HBF).chg hc7 (uH HNF))
      have HBR5 := hH ((uH HBR).chg hc7 (uH HNR))
      have HBS5 := hH ((uH HBS).chg hc7 (uH HNS))
      have HK15 := hH (uH KS1 _ hc7)
      have HK25 := hH (uH KS2 _ hc7)
      clear HK1 HK2 HOWA HRNA ho5 hc5 hat hc6 hc7
      refine hK.out _ _ ⟨fun _ => uH HK15, fun _ => uH HK25⟩ ?_
      clear hK K
      try simp only [Act.put, List.setIfInBounds_toArray]
      refine AU.step (i := 10) (by kernel_rfl) rfl (fun K hK => ?_)
      go_simp
      refine hK.out _ _ ⟨fun _ => uH HK15, fun _ => uH HK25⟩ ?_
      clear hK K
      try simp only [Act.put, List.setIfInBounds_toArray, List.set_cons_zero, List.set_cons_succ]
      have c7 := (uH HBF5).cell 3
      have f7 := (uH HBF5).frozen 3
      have c8 := (uH HBR5).cell 0
      have c9 := (uH HBR5).cell 1
      have f8 := (uH HBR5).frozen 0
      have f9 := (uH HBR5).frozen 1
      simp only [List.getElem?_toArray, List.getElem?_cons_zero, List.getElem?_cons_succ] at c7 c8 c9
      refine AU.step (i := 11) (by kernel_rfl) rfl (fun K hK => ?_)
      go_simp
      refine hK.out _ _ ⟨fun h => absurd (by decide) h, fun _ => ⟨((uH HBS5).far (p := ⟨w.heap.size + 1, 3, none⟩) hneFS (.slice V51 (k + 1) V52)).cell 0, ((uH HBS5).far (p := ⟨w.heap.size + 1, 3, none⟩) hneFS (.slice V51 (k + 1) V52)).cell 1⟩⟩ ?_
      clear hK K
      try simp only [Act.put, List.setIfInBounds_toArray, List.set_cons_zero, List.set_cons_succ]
      refine AU.step (i := 12) (by kernel_rfl) rfl (fun K hK => ?_)
      go_simp
      refine hK.out _ _ ⟨fun h => absurd (by decide) h, fun h => absurd (by decide) h⟩ ?_
      clear hK K
      try simp only [Act.put, List.setIfInBounds_toArray, List.set_cons_zero, List.set_cons_succ]
      refine AU.done (by kernel_rfl) ?_ _
      clear c7 f7 c8 c9 f8 f9 KS1 KS2 HK15 HK25
      have hgc := (((uH HBF5).set_ 3 (.slice V51 (k + 1) V52)).far (p := ⟨g6, 0, none⟩) hne1 (.string s6)).far (p := ⟨g6, 1, none⟩) hne1 (.bool b6)
      have hg8 := (((uH HBR5).far (p := ⟨w.heap.size + 1, 3, none⟩) hne2 (.slice V51 (k + 1) V52)).set_ 0 (.string s6)).set_ 1 (.bool b6)
      have hc9 := (((Chg.refl (fun x => x = w.heap.size + 1 ∨ x = g6) w5).setCell (p := ⟨w.heap.size + 1, 3, none⟩) (fun _ => .inl rfl) (.slice V51 (k + 1) V52)).setCell (p := ⟨g6, 0, none⟩) (fun _ => .inr rfl) (.string s6)).setCell (p := ⟨g6, 1, none⟩) (fun _ => .inr rfl) (.bool b6)
      have HRES9 := hH (((uH HRES7).chg (uH HC5) (uH HNT)).chg hc9 (fun e => by rcases e with h | h <;> omega))
      have HROW9 := hH ((uH HROW5).keep RE_fix_ok hc9 (fun b hb _ => by have := uH HGS; rcases hb with h | h <;> omega))
      have HCH9 := hH ((((uH HCH).trans (uH HCW) (fun _ _ h => h.elim)).trans (uH HC5) (fun j hj e => by have := (uH HOWY j e).1; omega)).trans' hc9)
      simp only [List.setIfInBounds_toArray, List.set_cons_zero, List.set_cons_succ] at hgc hg8
      have HGC := hH hgc
      have HG88 := hH hg8
      generalize (((w5.setCell ⟨w.heap.size + 1, 3, none⟩ (.slice V51 (k + 1) V52)).setCell ⟨g6, 0, none⟩ (.string s6)).setCell ⟨g6, 1, none⟩ (.bool b6)) = W9 at *
      have HNXT := hH (NextSt.seq (q := fun t => seqT (pNum 1) fun (n : Nat) => mapT (fun (y : Nat) => (⟨t, (n : Int), (y : Int) - 1⟩ : Fx)) (pNum 1)) (uH HNX0) (NextSt.seq (q := fun (n : Nat) => mapT (fun (y : Nat) => (⟨xn, (n : Int), (y : Int) - 1⟩ : Fx)) (pNum 1)) (uH HNX1) ((uH HNX2).map (fun (y : Nat) => (⟨xn, (y1 : Int), (y : Int) - 1⟩ : Fx)))))
      clear hgc hg8 hc9
      go_wp2_with fail
      go_roundw
      case rel => exact ⟨k + 1, l ++ [⟨xn, (y1 : Int), (y2 : Int) - 1⟩], s6, b6, _, by go_num, by omega, by rw [List.length_append, uH HLL]; rfl, hs6, uH HRES9, uH HGC, uH HG88, uH HROW9, uH HCH9, ManyAt.step (r := s3.data.toList) (show ManyAt pFx n (rstV s2 b2) k l (some s3.data.toList) from uH HMA) hkn (show NextSt pFx (some s3.data.toList) ⟨xn, (y1 : Int), (y2 : Int) - 1⟩ _ from uH HNXT)⟩
      case measure => simp [intOf]; omega
end Go.Proofs.YtinekmjengckdaaGreatDoor

namespace Go.Proofs.YtinekmjengckdaaGreatDoor
open Go.RowKit
set_option maxHeartbeats 8000000
set_option maxRecDepth 1000000
noncomputable def dec1C : Code := (Tryz.f21.body.bind (findHead 13)).getD .skip
theorem dec1 (x1 x5 x7 x8 x9 x10 x11 x12 x13 x14 x15 x16 x17 x18 x19 x20 x21 x22 x23 x24 x25 x26 x27 x28 x29 x30 x31 x32 x33 x34 x35 x36 x37 x38 x39 x40 x41 x42 x43 x44 x45 x46 x47 x48 x49 x50 x51 x52 x53 x54 x55 x56 x57 x58 x59 x60 x61 x62 x63 x64 x65 x66 x67 x68 x69 x70 x71 x72 x73 x74 x75 x76 x77 x78 x79 x80 x81 x82 x83 x84 x85 x86 x87 x88 x89 x90 x91 x92 x93 x94 x95 x96 x97 x98 x99 x100 x101 x102 x103 x104 x105 x106 x107 x108 x109 x110 x111 x112 x113 x114 x115 x116 x117 x118 x119 x120 x121 x122 x123 x124 x125 x126 x127 x128 x129 x130 x131 x132 x133 x134 x135 x136 x137 x138 x139 x140 x141 x142 x143 x144 x145 x146 x147 x148 x149 x150 x151 x152 x153 x154 x155 x156 x157 x158 x159 x160 x161 x162 x163 x164 x165 x166 x167 x168 x169 x170 x171 x172 x173 x174 x175 x176 x177 x178 x179 x180 x181 x182 x183 x184 x185 x186 x187 x188 x189 x190 x191 x192 x193 x194 x195 x196 x197 x198 x199 x200 x201 x202 x203 x204 x205 x206 x207 x208 x209 : Value) (s nm s1 : ByteArray) (b1 : Bool) (w W : World) (g6 : Nat) (lo : List Opn) (A1 : Option Addr) (a1 : Nat) (t0 : Option (List UInt8)) (hs : s.size ≤ 800000000) (hm : s.data.toList.take 4 = magicB) (st : DSt w W g6 nm (.slice A1 lo.length a1) (.slice none 0 0) (.slice none 0 0) (.slice none 0 0) s1 b1) (hr0 : RdO (fun b => g6 < b) W (.slice A1 lo.length a1) lo) (hk0 : lo.length ≤ 4000)
    (h0 : NextSt pText (some (s.data.toList.drop 4)) nm t0) (h1 : NextSt (pRow pOpn) t0 lo (rstV s1 b1)) :
    Code.wp Tryz.prog dec1C (bodyPost Tryz.prog Tryz.f21 (DecD s w)) ⟨#[.string s, x1, .pointer (some ⟨w.heap.size, 0, none⟩), .bool false, .pointer (some ⟨w.heap.size + 1, 0, none⟩), x5, .pointer (some ⟨g6, 0, none⟩), x7, x8, x9, x10, x11, x12, x13, x14, x15, x16, x17, x18, x19, x20, x21, x22, x23, x24, x25, x26, x27, x28, x29, x30, x31, x32, x33, x34, x35, x36, x37, x38, x39, x40, x41, x42, x43, x44, x45, x46, x47, x48, x49, x50, x51, x52, x53, x54, x55, x56, x57, x58, x59, x60, x61, x62, x63, x64, x65, x66, x67, x68, x69, x70, x71, x72, x73, x74, x75, x76, x77, x78, x79, x80, x81, x82, x83, x84, x85, x86, x87, x88, x89, x90, x91, x92, x93, x94, x95, x96, x97, x98, x99, x100, x101, x102, x103, x104, x105, x106, x107, x108, x109, x110, x111, x112, x113, x114, x115, x116, x117, x118, x119, x120, x121, x122, x123, x124, x125, x126, x127, x128, x129, x130, x131, x132, x133, x134, x135, x136, x137, x138, x139, x140, x141, x142, x143, x144, x145, x146, x147, x148, x149, x150, x151, x152, x153, x154, x155, x156, x157, x158, x159, x160, x161, x162, x163, x164, x165, x166, x167, x168, x169, x170, x171, x172, x173, x174, x175, x176, x177, x178, x179, x180, x181, x182, x183, x184, x185, x186, x187, x188, x189, x190, x191, x192, x193, x194, x195, x196, x197, x198, x199, x200, x201, x202, x203, x204, x205, x206, x207, x208, x209], []⟩ W := by
  obtain ⟨i_, hi, hz, hsz_, hbb⟩ := info_parts infoDt
  have r0 := st.rst.cell 0
  have r1 := st.rst.cell 1
  simp only [List.getElem?_toArray, List.getElem?_cons_zero, List.getElem?_cons_succ] at r0 r1
  have HN := hH (refMany_any s1 b1 W st.sz)
  have HDS := hH st
  have HM := hH hm
  have hlo := st.lo
  clear st hm
  have HR0 := hH hr0
  have HH0 := hH h0
  have HH1 := hH h1
  clear hr0 h0 h1
  conv => arg 2; whnf
  go_upto_region 14 with (go_at_call 67; refine (uH HN).mono ?_; rintro e w2 ⟨v, n, s2, b2, rfl, rfl, hok, hs2, hc2, hnx⟩; have HNX := hH hnx; have HC2 := hH hc2; have hb2 := (uH HDS).rst.chg hc2 id; clear r0 r1; have r0 := hb2.cell 0; have r1 := hb2.cell 1; have f0 := hb2.frozen 0; have f1 := hb2.frozen 1; simp only [List.getElem?_toArray, List.getElem?_cons_zero, List.getElem?_cons_succ] at r0 r1; have HB2 := hH hb2; clear hnx hc2 hb2)
  obtain ⟨hb5, hc5⟩ := put2 (uH HB2) (.string s2) (.bool b2)
  have HRST := hH hb5
  have HQ0 := hH (((uH HC2).mono (S' := (· = g6)) (fun _ _ h => h.elim)).trans' hc5)
  have HRES := hH ((uH HDS).res.chg (uH HQ0) (by omega))
  have HIFC := hH ((uH HDS).ifc.chg (uH HQ0) (by omega))
  generalize (w2.setCell ⟨g6, 0, none⟩ (.string s2)).setCell ⟨g6, 1, none⟩ (.bool b2) = WS at *
  have HGS := hH (show g6 < WS.heap.size from (uH HRST).lt)
  have HCWS := hH ((uH HDS).chg.trans (uH HQ0) (fun j hj e => by omega))
  clear hb5 hc5 r0 r1 f0 f1 HB2
  have HMA := hH (ManyAt.start (p := pDt) (n := n) (st0 := rstV s2 b2) hok)
  have HRI := hH (RowIn.nil (f := (fun (d : Dt) u => [.string d.name, .int .i64 d.params, u])) (RE := RE_data) (T := 70) (sz := 3) (base := WS.heap.size) WS)
  have HC00 := hH (Chg.refl (fun x => x = w.heap.size + 1 ∨ x = g6) WS)
  have hn4 : (n : Int) ≤ 4000 := by omega
  go_wp2_with fail
  rename_i K hK
  have HK := hH hK
  clear hK
  go_loopw [12] (fun t wr => ∃ (k : Nat) (l : List Dt) (s3 : ByteArray) (b3 : Bool) (va : Value), t = .int .i64 (k : Int) ∧ k ≤ n ∧ l.length = k ∧ s3.size ≤ 800000000 ∧ Blk wr w.heap.size 27 #[.string ⟨#[]⟩, .slice none 0 0, .slice none 0 0, .slice none 0 0, .slice none 0 0] ∧ Blk wr (w.heap.size + 1) 27 #[.string nm, .slice A1 lo.length a1, va, .slice none 0 0, .slice none 0 0] ∧ Blk wr g6 104 #[.string s3, .bool b3] ∧ RowIn (fun (d : Dt) u => [.string d.name, .int .i64 d.params, u]) RE_data 70 3 WS.heap.size wr va l ∧ Chg (fun x => x = w.heap.size + 1 ∨ x = g6) WS wr ∧ ManyAt pDt n (rstV s2 b2) k l (rstV s3 b3)) (fun t _ => n - (intOf t).toNat)
  case atStart => exact ⟨0, [], s2, b2, _, rfl, Nat.zero_le _, rfl, hs2, uH HRES, uH HIFC, uH HRST, uH HRI, uH HC00, uH HMA⟩
  case round =>
    clear HRES HIFC HRST HMA HRI HC00
    obtain ⟨wq, rfl⟩ : ∃ wq : World, wq = wr := ⟨_, rfl⟩
    obtain ⟨k, l, s3, b3, va, rfl, hk, hll, hs3, hres, hifc, hrst, hrow, hch, hma⟩ := hrel
    have r0 := hrst.cell 0
    have r1 := hrst.cell 1
    simp only [List.getElem?_toArray, List.getElem?_cons_zero, List.getElem?_cons_succ] at r0 r1
    have HRES := hH hres
    have HIFC := hH hifc
    have HRST := hH hrst
    have HROW := hH hrow
    have HCH := hH hch
    have HMA := hH hma
    clear hres hifc hrst hrow hch hma
    by_cases hend : b3 = true ∨ n ≤ k
    · have hgu : ¬ (k : Int) < (n : Int) ∨ ((k : Int) < (n : Int) ∧ b3 = true) := by
        rcases hend with h | h
        · by_cases h2 : k < n
          · exact .inr ⟨by omega, h⟩
          · exact .inl (by omega)
        · exact .inl (by omega)
      have HFIN := hH (row_of_many (uH HNX) ((uH HMA).fin (hend.imp (fun h => by rw [h]; rfl) id)))
      have HRD := hH ((uH HROW).rd RE_data_ok (by decide) (by omega))
      obtain ⟨NA, nc, hva⟩ := (uH HROW).val
      subst hva
      have hl4 : l.length ≤ 4000 := by omega
      have HSTN := hH (show DSt w wq g6 nm (.slice A1 lo.length a1) (.slice NA l.length nc) (.slice none 0 0) (.slice none 0 0) s3 b3 from ⟨(uH HCWS).trans (uH HCH) (fun j hj e => by rcases e with h | h <;> omega), uH HRES, uH HIFC, uH HRST, hlo, hs3, (uH HDS).nmk⟩)
      have HRN := hH (show RdDq (fun b => g6 < b) wq (.slice NA l.length nc) l from RdDq.mono (show RdDq (fun b => WS.heap.size ≤ b) wq (.slice NA l.length nc) l from (uH HRD).1) (fun b hb => by have := uH HGS; omega))
      have HRP0 := hH (((uH HR0).chg (uH HQ0) (fun b hb _ e => by omega)).chg (uH HCH) (fun b hb _ e => by rcases e with h | h <;> omega))
      clear hend
      rcases hgu with hgu | ⟨hgu, rfl⟩
      all_goals
        go_wp2_with fail
        refine uH HK _ _ ?_
        exact dec2 _ _ _ _ _ _ _ _ _ _ _ _ _ _ _ _ _ _ _ _ _ _ _ _ _ _ _ _ _ _ _ _ _ _ _ _ _ _ _ _ _ _ _ _ _ _ _ _ _ _ _ _ _ _ _ _ _ _ _ _ _ _ _ _ _ _ _ _ _ _ _ _ _ _ _ _ _ _ _ _ _ _ _ _ _ _ _ _ _ _ _ _ _ _ _ _ _ _ _ _ _ _ _ _ _ _ _ _ _ _ _ _ _ _ _ _ _ _ _ _ _ _ _ _ _ _ _ _ _ _ _ _ _ _ _ _ _ _ _ _ _ _ _ _ _ _ _ _ _ _ _ _ _ _ _ _ _ _ _ _ _ _ _ _ _ _ _ _ _ _ _ _ _ _ _ _ _ _ _ _ _ _ _ _ _ _ _ _ _ _ _ _ _ _ _ _ _ _ _ _ _ _ _ _ _ s nm s3 _ w wq g6 lo A1 a1 l NA nc t0 (rstV s1 b1) hs (uH HM) (uH HSTN) (uH HRP0) hk0 (uH HRN) hl4 (uH HH0) (uH HH1) (uH HFIN)
    · have hkn : k < n := by omega
      have hki : (k : Int) < (n : Int) := by omega
      obtain rfl : b3 = false := by
        cases b3
        · rfl
        · exact absurd (.inl rfl) hend
      clear hend
      have HN0 := hH (refStr_any s3 false wq hs3)
      go_upto_region 18 with (go_at_call 66; refine (uH HN0).mono ?_; rintro e w3 ⟨v, xn, s4, b4, rfl, rfl, hok0, hs4, hc3, hnx0⟩; have HNX0 := hH hnx0; have HOK0 := hH hok0; have HGB := hH hc3.size; have hc3' := (Chg.refl (fun _ => False) wq).trans' (hc3.alloc (.cells #[.string s4, .bool b4] 104)); have HCW := hH hc3'; have HX := hH (Blk.new w3 104 #[.string s4, .bool b4]); have e0 := (uH HX).cell 0; have e1 := (uH HX).cell 1; simp only [List.getElem?_toArray, List.getElem?_cons_zero, List.getElem?_cons_succ] at e0 e1; clear hnx0 hc3 hc3' hok0 r0 r1)
      have HGX := hH (show w3.heap.size < (w3.alloc (.cells #[.string s4, .bool b4] 104)).heap.size by rw [size_alloc]; omega)
      generalize w3.alloc (.cells #[.string s4, .bool b4] 104) = W3 at *
      generalize w3.heap.size = gb at *
      have HN1 := hH (refNum_1 s4 b4 W3 hs4)
      go_upto_region 19 with (go_at_call 68; refine (uH HN1).mono ?_; rintro e w4 ⟨v, y1, s5, b5, rfl, rfl, hok1, hs5, hc4, hnx1⟩; have HNX1 := hH hnx1; have HOK1 := hH hok1; have HC4 := hH hc4; have hx := (uH HX).chg hc4 id; clear e0 e1; have e0 := hx.cell 0; have e1 := hx.cell 1; have f0 := hx.frozen 0; have f1 := hx.frozen 1; simp only [List.getElem?_toArray, List.getElem?_cons_zero, List.getElem?_cons_succ] at e0 e1; have HX4 := hH hx; clear hnx1 hc4 hx hok1)
      obtain ⟨hx5, hcx⟩ := put2 (uH HX4) (.string s5) (.bool b5)
      have HCW4 := hH (((uH HCW).trans' (uH HC4)).trans hcx (fun j hj e => by have := uH HGB; omega))
      have HGX4 := hH (show gb < ((w4.setCell ⟨gb, 0, none⟩ (.string s5)).setCell ⟨gb, 1, none⟩ (.bool b5)).heap.size by rw [size_set, size_set]; have := uH HGX; have := (uH HC4).size; omega)
      clear HX HCW
      have HX := hH hx5
      have HCW := HCW4
      clear HGX
      have HGX := HGX4
      clear hx5 hcx HCW4 HGX4 HC4 HX4 e0 e1 f0 f1
      generalize (w4.setCell ⟨gb, 0, none⟩ (.string s5)).setCell ⟨gb, 1, none⟩ (.bool b5) = W4 at *
      have e0 := (uH HX).cell 0
      have e1 := (uH HX).cell 1
      simp only [List.getElem?_toArray, List.getElem?_cons_zero, List.getElem?_cons_succ] at e0 e1
      have HN2 := hH (refCtors_any s5 b5 W4 hs5)
      go_upto_region 20 with (go_at_call 69; refine (uH HN2).mono ?_; rintro e w4 ⟨v, y2, s6, b6, rfl, hR, hok2, hs6, hc4, hnx2⟩; (obtain ⟨XA, xc, rfl⟩ := RdR.val hR.1); have HRX0 := hH hR.1; have HCAPX := hH hR.2; clear hR; have HNX2 := hH hnx2; have HOK2 := hH hok2; have HC4 := hH hc4; have hx := (uH HX).chg hc4 id; clear e0 e1; have e0 := hx.cell 0; have e1 := hx.cell 1; have f0 := hx.frozen 0; have f1 := hx.frozen 1; simp only [List.getElem?_toArray, List.getElem?_cons_zero, List.getElem?_cons_succ] at e0 e1; have HX4 := hH hx; clear hnx2 hc4 hx hok2)
      obtain ⟨hx5, hcx⟩ := put2 (uH HX4) (.string s6) (.bool b6)
      have HCW4 := hH (((uH HCW).trans' (uH HC4)).trans hcx (fun j hj e => by have := uH HGB; omega))
      have HGX4 := hH (show gb < ((w4.setCell ⟨gb, 0, none⟩ (.string s6)).setCell ⟨gb, 1, none⟩ (.bool b6)).heap.size by rw [size_set, size_set]; have := uH HGX; have := (uH HC4).size; omega)
      clear HX HCW
      have HX := hH hx5
      have HCW := HCW4
      have HRX := hH (((uH HRX0).chg hcx (fun b hb _ e => by have := uH HGX; omega)).mono (T' := fun b => wq.heap.size ≤ b) (fun b hb => by have := uH HGB; have := uH HGX; omega))
      clear HRX0
      clear HGX
      have HGX := HGX4
      clear hx5 hcx HCW4 HGX4 HC4 HX4 e0 e1 f0 f1
      generalize (w4.setCell ⟨gb, 0, none⟩ (.string s6)).setCell ⟨gb, 1, none⟩ (.bool b6) = W5 at *
      have e0 := (uH HX).cell 0
      have e1 := (uH HX).cell 1
      simp only [List.getElem?_toArray, List.getElem?_cons_zero, List.getElem?_cons_succ] at e0 e1
      clear e0 e1
      have HROWW := hH ((uH HROW).keep RE_data_ok (uH HCW) (fun _ h => h.elim))
      have HOWY := hH (show ∀ j, va.ownBlock = some j → WS.heap.size ≤ j ∧ j < wq.heap.size from by
        obtain ⟨_, _, h2, _⟩ := uH HROW
        exact h2.lt)
      have HBF := hH ((uH HIFC).chg (uH HCW) id)
      have HBR := hH ((uH HRST).chg (uH HCW) id)
      have HRES7 := hH ((uH HRES).chg (uH HCW) id)
      have HBS := HX
      obtain ⟨ps, hps1, hps2, hps3⟩ := uH HROWW
      obtain ⟨VA1, VA2, hva⟩ := own_val hps2
      have hpl : ps.length = k := by rw [← hll, ← hps1, List.length_map]
      have HNF := hH (show ¬ va.ownBlock = some (w.heap.size + 1) from fun e => by have := (uH HOWY _ e).1; have := uH HGS; omega)
      have HNR := hH (show ¬ va.ownBlock = some g6 from fun e => by have := (uH HOWY _ e).1; have := uH HGS; omega)
      have HNS := hH (show ¬ va.ownBlock = some gb from fun e => by have := (uH HOWY _ e).2; have := uH HGB; omega)
      have HNT := hH (show ¬ va.ownBlock = some w.heap.size from fun e => by have := (uH HOWY _ e).1; have := uH HGS; omega)
      have HB1 := hH (show WS.heap.size ≤ wq.heap.size from (uH HCH).size)
      have HZ := hH (uH HCW).size
      have HU := hH (show RE_data (fun b => wq.heap.size ≤ b) W5 (.slice XA y2.length xc) ⟨xn, (y1 : Int), y2⟩ from ⟨uH HRX, Nat.le_trans (Nat.le_of_lt (uH HOK0)) (by decide)⟩)
      have HSTEP := hH (fun W3 v3 (ho : W3.ownsRow WS.heap.size 70 3 v3 (k + 1) ((ps.flatMap fun p => (fun (d : Dt) u => [.string d.name, .int .i64 d.params, u]) p.1 p.2) ++ [.string xn, .int .i64 (y1 : Int), .slice XA y2.length xc])) (hc : Chg (fun j => va.ownBlock = some j) (W5.alloc (.cells #[.string xn, .int .i64 (y1 : Int), .slice XA y2.length xc] 70)) W3) (hat : v3.ownBlock = va.ownBlock ∨ v3.ownBlock = some (W5.alloc (.cells #[.string xn, .int .i64 (y1 : Int), .slice XA y2.length xc] 70)).heap.size) => show RowIn (fun (d : Dt) u => [.string d.name, .int .i64 d.params, u]) RE_data 70 3 WS.heap.size W3 v3 (l ++ [⟨xn, (y1 : Int), y2⟩]) from by
        rw [← hps1]
        exact RowIn.step RE_data_ok hps2 hps3 (fun j hj => (uH HOWY j hj).2) (uH HB1) (uH HZ) (uH HU) (by rw [hpl]; exact ho) hc hat)
      rw [hpl] at hps2 hva
      clear hpl
      have HOWN := hH hps2
      have HLL := hH hll
      subst hva
      clear hps1 hps2 hps3 hll
      have hneFS : ¬ gb = w.heap.size + 1 := by have := uH HGB; have := uH HGS; have := uH HB1; omega
      have hne1 : ¬ w.heap.size + 1 = g6 := by omega
      have hne2 : ¬ g6 = w.heap.size + 1 := by omega
      have hm1 : k + 1 ≤ maxLen := by simp only [maxLen]; omega
      have hm2 : (k + 1) * 48 ≤ 140737488355328 := by omega
      have KS1 := hH (fun W' (hW : Chg (fun j_ => (Value.slice VA1 k VA2).ownBlock = some j_) W5 W') => show W'.cell? ⟨w.heap.size + 1, 2, none⟩ = some (.slice VA1 k VA2) from ((uH HBF).chg hW (uH HNF)).cell 2)
      have KS2 := hH (fun W' (hW : Chg (fun j_ => (Value.slice VA1 k VA2).ownBlock = some j_) W5 W') => show W'.cell? ⟨gb, 0, none⟩ = some (.string s6) ∧ W'.cell? ⟨gb, 1, none⟩ = some (.bool b6) from ⟨((uH HBS).chg hW (uH HNS)).cell 0, ((uH HBS).chg hW (uH HNS)).cell 1⟩)
      have HK1 := hH (uH KS1 _ ((Chg.refl _ W5).drew))
      have HK2 := hH (uH KS2 _ ((Chg.refl _ W5).drew))
      refine wp_region_au (fun W' => W'.cell? ⟨w.heap.size + 1, 2, none⟩ = some (.slice VA1 k VA2)) [10, 11] (fun W' => W'.cell? ⟨gb, 0, none⟩ = some (.string s6) ∧ W'.cell? ⟨gb, 1, none⟩ = some (.bool b6)) [11] 12 (by kernel_rfl) (by kernel_rfl) ?_
      refine AU.tk (i := 0) (v := ?_) rfl (by kernel_rfl) (by kernel_rfl) (fun _ _ _ h => h) ?_ (uH HK1) ?_
      rotate_left
      · intro W' hS'; (try dsimp only at hS'); go_simp; try with_reducible rfl
      try simp only [Act.put, List.setIfInBounds_toArray]
      refine AU.tk (i := 1) (v := ?_) rfl (by kernel_rfl) (by kernel_rfl) (fun _ _ _ h => h) ?_ (uH HK1) ?_
      rotate_left
      · intro W' hS'; (try dsimp only at hS'); go_simp; try with_reducible rfl
      try simp only [Act.put]
      refine AU.tk (i := 2) (v := ?_) rfl (by kernel_rfl) (by kernel_rfl) (fun _ _ _ h => h) ?_ (uH HK1) ?_
      rotate_left
      · intro W' hS'; (try dsimp only at hS'); go_simp; try with_reducible rfl
      try simp only [Act.put]
      refine AU.tk (i := 3) (v := ?_) rfl (by kernel_rfl) (by kernel_rfl) (fun _ _ _ h => h) ?_ (uH HK1) ?_
      rotate_left
      · intro W' hS'; (try dsimp only at hS'); go_simp; try with_reducible rfl
      try simp only [Act.put]
      refine AU.tk (i := 4) (v := ?_) rfl (by kernel_rfl) (by kernel_rfl) (fun _ _ _ h => h) ?_ (uH HK1) ?_
      rotate_left
      · intro W' hS'; (try dsimp only at hS'); go_simp; try with_reducible rfl
      try simp only [Act.put]
      refine AU.tk (i := 5) (v := ?_) rfl (by kernel_rfl) (by kernel_rfl) (fun _ _ _ h => h) ?_ (uH HK1) ?_
      rotate_left
      · intro W' hS'; (try dsimp only at hS'); go_simp; try with_reducible rfl
      try simp only [Act.put]
      refine AU.tk2 (i := 8) (v := ?_) rfl (by kernel_rfl) (by kernel_rfl) (fun _ _ _ h => h) ?_ (uH HK2) ?_
      rotate_left
      · intro W' hS'; (try dsimp only at hS'); go_simp; try with_reducible rfl
      try simp only [Act.put]
      refine AU.step (i := 6) (by kernel_rfl) rfl (fun K hK => ?_)
      go_simp
      refine hK.out _ _ ⟨fun _ => uH KS1 _ (((Chg.refl _ W5).alloc (.cells #[.string xn, .int .i64 (y1 : Int), .slice XA y2.length xc] 70)).drew), fun _ => uH KS2 _ (((Chg.refl _ W5).alloc (.cells #[.string xn, .int .i64 (y1 : Int), .slice XA y2.length xc] 70)).drew)⟩ ?_
      clear hK K
      try simp only [Act.put, List.setIfInBounds_toArray, List.set_cons_zero, List.set_cons_succ]
      refine AU.step (i := 7) (by kernel_rfl) rfl (fun K hK => ?_)
      have HOWA := own_chg ((uH HOWN).alloc (.cells #[.string xn, .int .i64 (y1 : Int), .slice XA y2.length xc] 70)) (Chg.drew (Chg.refl (fun _ => False) (W5.alloc (.cells #[.string xn, .int .i64 (y1 : Int), .slice XA y2.length xc] 70)))) (fun _ _ h => h)
      have HRNA := (((rd_new W5 W5.heap.size 70 [.string xn, .int .i64 (y1 : Int), .slice XA y2.length xc] rfl).mono (T' := fun _ => True) (fun _ _ => trivial)).chg (Chg.drew (Chg.refl (fun _ => False) (W5.alloc (.cells #[.string xn, .int .i64 (y1 : Int), .slice XA y2.length xc] 70)))) (fun _ _ _ h => h))
      refine step_append_rd _ rfl (.tmp 111) (.tmp 116) 23 rfl WS.heap.size 70 i_ (.agg #[.string ⟨#[]⟩, .int .i64 0, .slice none 0 0]) 3 48 Tryz.underlying23 hi hz hsz_ hbb rfl (by decide) _ k _ rfl HOWA (fun _ => True) _ 1 1 [.string xn, .int .i64 (y1 : Int), .slice XA y2.length xc] rfl rfl HRNA (by intro u hu; simp at hu; rcases hu with rfl | rfl | rfl <;> rfl) (hm1) (hm2) (by rw [show ((W5.alloc (.cells #[.string xn, .int .i64 (y1 : Int), .slice XA y2.length xc] 70)).drew).heap.size = (W5.alloc (.cells #[.string xn, .int .i64 (y1 : Int), .slice XA y2.length xc] 70)).heap.size from rfl, size_alloc]; have := uH HB1; have := uH HZ; omega) ?_
      intro v5 w5 ho5 hc5 hat
      obtain ⟨V51, V52, hv5⟩ := own_val ho5
      subst hv5
      have hc6 : Chg (fun j_ => (Value.slice VA1 k VA2).ownBlock = some j_) (W5.alloc (.cells #[.string xn, .int .i64 (y1 : Int), .slice XA y2.length xc] 70)) w5 := ((Chg.refl _ _).drew).trans' hc5
      have HROW5 := hH (uH HSTEP w5 _ ho5 hc6 hat)
      have hc7 : Chg (fun j_ => (Value.slice VA1 k VA2).ownBlock = some j_) W5 w5 := ((Chg.refl _ W5).alloc (.cells #[.string xn, .int .i64 (y1 : Int), .slice XA y2.length xc] 70)).trans' hc6
      have HC5 := hH hc7
      have HBF5 := hH ((uH HBF).chg hc7 (uH HNF))
      have HBR5 := hH ((uH HBR).chg hc7 (uH HNR))
      have HBS5 := hH ((uH HBS).chg hc7 (uH HNS))
      have HK15 := hH (uH KS1 _ hc7)
      have HK25 := hH (uH KS2 _ hc7)
      clear HK1 HK2 HOWA HRNA ho5 hc5 hat hc6 hc7
      refine hK.out _ _ ⟨fun _ => uH HK15, fun _ => uH HK25⟩ ?_
      clear hK K
      try simp only [Act.put, List.setIfInBounds_toArray]
      refine AU.step (i := 9) (by kernel_rfl) rfl (fun K hK => ?_)
      go_simp
      refine hK.out _ _ ⟨fun _ => uH HK15, fun _ => uH HK25⟩ ?_
      clear hK K
      try simp only [Act.put, List.setIfInBounds_toArray, List.set_cons_zero, List.set_cons_succ]
      have c7 := (uH HBF5).cell 2
      have f7 := (uH HBF5).frozen 2
      have c8 := (uH HBR5).cell 0
      have c9 := (uH HBR5).cell 1
      have f8 := (uH HBR5).frozen 0
      have f9 := (uH HBR5).frozen 1
      simp only [List.getElem?_toArray, List.getElem?_cons_zero, List.getElem?_cons_succ] at c7 c8 c9
      refine AU.step (i := 10) (by kernel_rfl) rfl (fun K hK => ?_)
      go_simp
      refine hK.out _ _ ⟨fun h => absurd (by decide) h, fun _ => ⟨((uH HBS5).far (p := ⟨w.heap.size + 1, 2, none⟩) hneFS (.slice V51 (k + 1) V52)).cell 0, ((uH HBS5).far (p := ⟨w.heap.size + 1, 2, none⟩) hneFS (.slice V51 (k + 1) V52)).cell 1⟩⟩ ?_
      clear hK K
      try simp only [Act.put, List.setIfInBounds_toArray, List.set_cons_zero, List.set_cons_succ]
      refine AU.step (i := 11) (by kernel_rfl) rfl (fun K hK => ?_)
      go_simp
      refine hK.out _ _ ⟨fun h => absurd (by decide) h, fun h => absurd (by decide) h⟩ ?_
      clear hK K
      try simp only [Act.put, List.setIfInBounds_toArray, List.set_cons_zero, List.set_cons_succ]
      refine AU.done (by kernel_rfl) ?_ _
      clear c7 f7 c8 c9 f8 f9 KS1 KS2 HK15 HK25
      have hgc := (((uH HBF5).set_ 2 (.slice V51 (k + 1) V52)).far (p := ⟨g6, 0, none⟩) hne1 (.string s6)).far (p := ⟨g6, 1, none⟩) hne1 (.bool b6)
      have hg8 := (((uH HBR5).far (p := ⟨w.heap.size + 1, 2, none⟩) hne2 (.slice V51 (k + 1) V52)).set_ 0 (.string s6)).set_ 1 (.bool b6)
      have hc9 := (((Chg.refl (fun x => x = w.heap.size + 1 ∨ x = g6) w5).setCell (p := ⟨w.heap.size + 1, 2, none⟩) (fun _ => .inl rfl) (.slice V51 (k + 1) V52)).setCell (p := ⟨g6, 0, none⟩) (fun _ => .inr rfl) (.string s6)).setCell (p := ⟨g6, 1, none⟩) (fun _ => .inr rfl) (.bool b6)
      have HRES9 := hH (((uH HRES7).chg (uH HC5) (uH HNT)).chg hc9 (fun e => by rcases e with h | h <;> omega))
      have HROW9 := hH ((uH HROW5).keep RE_data_ok hc9 (fun b hb _ => by have := uH HGS; rcases hb with h | h <;> omega))
      have HCH9 := hH ((((uH HCH).trans (uH HCW) (fun _ _ h => h.elim)).trans (uH HC5) (fun j hj e => by have := (uH HOWY j e).1; omega)).trans' hc9)
      simp only [List.setIfInBounds_toArray, List.set_cons_zero, List.set_cons_succ] at hgc hg8
      have HGC := hH hgc
      have HG88 := hH hg8
      generalize (((w5.setCell ⟨w.heap.size + 1, 2, none⟩ (.slice V51 (k + 1) V52)).setCell ⟨g6, 0, none⟩ (.string s6)).setCell ⟨g6, 1, none⟩ (.bool b6)) = W9 at *
      have HNXT := hH (NextSt.seq (q := fun t => seqT (pNum 1) fun (n : Nat) => mapT (fun y => (⟨t, (n : Int), y⟩ : Dt)) (pRow pCt)) (uH HNX0) (NextSt.seq (q := fun (n : Nat) => mapT (fun y => (⟨xn, (n : Int), y⟩ : Dt)) (pRow pCt)) (uH HNX1) ((uH HNX2).map (fun y => (⟨xn, (y1 : Int), y⟩ : Dt)))))
      clear hgc hg8 hc9
      go_wp2_with fail
      go_roundw
      case rel => exact ⟨k + 1, l ++ [⟨xn, (y1 : Int), y2⟩], s6, b6, _, by go_num, by omega, by rw [List.length_append, uH HLL]; rfl, hs6, uH HRES9, uH HGC, uH HG88, uH HROW9, uH HCH9, ManyAt.step (r := s3.data.toList) (show ManyAt pDt n (rstV s2 b2) k l (some s3.data.toList) from uH HMA) hkn (show NextSt pDt (some s3.data.toList) ⟨xn, (y1 : Int), y2⟩ _ from uH HNXT)⟩
      case measure => simp [intOf]; omega
end Go.Proofs.YtinekmjengckdaaGreatDoor

namespace Go.Proofs.YtinekmjengckdaaGreatDoor
open Go.RowKit
set_option maxHeartbeats 8000000
set_option maxRecDepth 1000000
noncomputable def dec0C : Code := (Tryz.f21.body.bind (findHead 6)).getD .skip
theorem dec0 (x1 x5 x7 x8 x9 x10 x11 x12 x13 x14 x15 x16 x17 x18 x19 x20 x21 x22 x23 x24 x25 x26 x27 x28 x29 x30 x31 x32 x33 x34 x35 x36 x37 x38 x39 x40 x41 x42 x43 x44 x45 x46 x47 x48 x49 x50 x51 x52 x53 x54 x55 x56 x57 x58 x59 x60 x61 x62 x63 x64 x65 x66 x67 x68 x69 x70 x71 x72 x73 x74 x75 x76 x77 x78 x79 x80 x81 x82 x83 x84 x85 x86 x87 x88 x89 x90 x91 x92 x93 x94 x95 x96 x97 x98 x99 x100 x101 x102 x103 x104 x105 x106 x107 x108 x109 x110 x111 x112 x113 x114 x115 x116 x117 x118 x119 x120 x121 x122 x123 x124 x125 x126 x127 x128 x129 x130 x131 x132 x133 x134 x135 x136 x137 x138 x139 x140 x141 x142 x143 x144 x145 x146 x147 x148 x149 x150 x151 x152 x153 x154 x155 x156 x157 x158 x159 x160 x161 x162 x163 x164 x165 x166 x167 x168 x169 x170 x171 x172 x173 x174 x175 x176 x177 x178 x179 x180 x181 x182 x183 x184 x185 x186 x187 x188 x189 x190 x191 x192 x193 x194 x195 x196 x197 x198 x199 x200 x201 x202 x203 x204 x205 x206 x207 x208 x209 : Value) (s nm s1 : ByteArray) (b1 : Bool) (w W : World) (g6 : Nat)  (hs : s.size ≤ 800000000) (hm : s.data.toList.take 4 = magicB) (st : DSt w W g6 nm (.slice none 0 0) (.slice none 0 0) (.slice none 0 0) (.slice none 0 0) s1 b1) 
    (h0 : NextSt pText (some (s.data.toList.drop 4)) nm (rstV s1 b1)) :
    Code.wp Tryz.prog dec0C (bodyPost Tryz.prog Tryz.f21 (DecD s w)) ⟨#[.string s, x1, .pointer (some ⟨w.heap.size, 0, none⟩), .bool false, .pointer (some ⟨w.heap.size + 1, 0, none⟩), x5, .pointer (some ⟨g6, 0, none⟩), x7, x8, x9, x10, x11, x12, x13, x14, x15, x16, x17, x18, x19, x20, x21, x22, x23, x24, x25, x26, x27, x28, x29, x30, x31, x32, x33, x34, x35, x36, x37, x38, x39, x40, x41, x42, x43, x44, x45, x46, x47, x48, x49, x50, x51, x52, x53, x54, x55, x56, x57, x58, x59, x60, x61, x62, x63, x64, x65, x66, x67, x68, x69, x70, x71, x72, x73, x74, x75, x76, x77, x78, x79, x80, x81, x82, x83, x84, x85, x86, x87, x88, x89, x90, x91, x92, x93, x94, x95, x96, x97, x98, x99, x100, x101, x102, x103, x104, x105, x106, x107, x108, x109, x110, x111, x112, x113, x114, x115, x116, x117, x118, x119, x120, x121, x122, x123, x124, x125, x126, x127, x128, x129, x130, x131, x132, x133, x134, x135, x136, x137, x138, x139, x140, x141, x142, x143, x144, x145, x146, x147, x148, x149, x150, x151, x152, x153, x154, x155, x156, x157, x158, x159, x160, x161, x162, x163, x164, x165, x166, x167, x168, x169, x170, x171, x172, x173, x174, x175, x176, x177, x178, x179, x180, x181, x182, x183, x184, x185, x186, x187, x188, x189, x190, x191, x192, x193, x194, x195, x196, x197, x198, x199, x200, x201, x202, x203, x204, x205, x206, x207, x208, x209], []⟩ W := by
  obtain ⟨i_, hi, hz, hsz_, hbb⟩ := info_parts infoOpn
  have r0 := st.rst.cell 0
  have r1 := st.rst.cell 1
  simp only [List.getElem?_toArray, List.getElem?_cons_zero, List.getElem?_cons_succ] at r0 r1
  have HN := hH (refMany_any s1 b1 W st.sz)
  have HDS := hH st
  have HM := hH hm
  have hlo := st.lo
  clear st hm
  have HH0 := hH h0
  clear  h0
  conv => arg 2; whnf
  go_upto_region 7 with (go_at_call 67; refine (uH HN).mono ?_; rintro e w2 ⟨v, n, s2, b2, rfl, rfl, hok, hs2, hc2, hnx⟩; have HNX := hH hnx; have HC2 := hH hc2; have hb2 := (uH HDS).rst.chg hc2 id; clear r0 r1; have r0 := hb2.cell 0; have r1 := hb2.cell 1; have f0 := hb2.frozen 0; have f1 := hb2.frozen 1; simp only [List.getElem?_toArray, List.getElem?_cons_zero, List.getElem?_cons_succ] at r0 r1; have HB2 := hH hb2; clear hnx hc2 hb2)
  obtain ⟨hb5, hc5⟩ := put2 (uH HB2) (.string s2) (.bool b2)
  have HRST := hH hb5
  have HQ0 := hH (((uH HC2).mono (S' := (· = g6)) (fun _ _ h => h.elim)).trans' hc5)
  have HRES := hH ((uH HDS).res.chg (uH HQ0) (by omega))
  have HIFC := hH ((uH HDS).ifc.chg (uH HQ0) (by omega))
  generalize (w2.setCell ⟨g6, 0, none⟩ (.string s2)).setCell ⟨g6, 1, none⟩ (.bool b2) = WS at *
  have HGS := hH (show g6 < WS.heap.size from (uH HRST).lt)
  have HCWS := hH ((uH HDS).chg.trans (uH HQ0) (fun j hj e => by omega))
  clear hb5 hc5 r0 r1 f0 f1 HB2
  have HMA := hH (ManyAt.start (p := pOpn) (n := n) (st0 := rstV s2 b2) hok)
  have HRI := hH (RowIn.nil (f := (fun (o : Opn) _ => [.string o.name, .int .u32 o.digest])) (RE := RE_open) (T := 51) (sz := 2) (base := WS.heap.size) WS)
  have HC00 := hH (Chg.refl (fun x => x = w.heap.size + 1 ∨ x = g6) WS)
  have hn4 : (n : Int) ≤ 4000 := by omega
  go_wp2_with fail
  rename_i K hK
  have HK := hH hK
  clear hK
  go_loopw [8] (fun t wr => ∃ (k : Nat) (l : List Opn) (s3 : ByteArray) (b3 : Bool) (va : Value), t = .int .i64 (k : Int) ∧ k ≤ n ∧ l.length = k ∧ s3.size ≤ 800000000 ∧ Blk wr w.heap.size 27 #[.string ⟨#[]⟩, .slice none 0 0, .slice none 0 0, .slice none 0 0, .slice none 0 0] ∧ Blk wr (w.heap.size + 1) 27 #[.string nm, va, .slice none 0 0, .slice none 0 0, .slice none 0 0] ∧ Blk wr g6 104 #[.string s3, .bool b3] ∧ RowIn (fun (o : Opn) _ => [.string o.name, .int .u32 o.digest]) RE_open 51 2 WS.heap.size wr va l ∧ Chg (fun x => x = w.heap.size + 1 ∨ x = g6) WS wr ∧ ManyAt pOpn n (rstV s2 b2) k l (rstV s3 b3)) (fun t _ => n - (intOf t).toNat)
  case atStart => exact ⟨0, [], s2, b2, _, rfl, Nat.zero_le _, rfl, hs2, uH HRES, uH HIFC, uH HRST, uH HRI, uH HC00, uH HMA⟩
  case round =>
    clear HRES HIFC HRST HMA HRI HC00
    obtain ⟨wq, rfl⟩ : ∃ wq : World, wq = wr := ⟨_, rfl⟩
    obtain ⟨k, l, s3, b3, va, rfl, hk, hll, hs3, hres, hifc, hrst, hrow, hch, hma⟩ := hrel
    have r0 := hrst.cell 0
    have r1 := hrst.cell 1
    simp only [List.getElem?_toArray, List.getElem?_cons_zero, List.getElem?_cons_succ] at r0 r1
    have HRES := hH hres
    have HIFC := hH hifc
    have HRST := hH hrst
    have HROW := hH hrow
    have HCH := hH hch
    have HMA := hH hma
    clear hres hifc hrst hrow hch hma
    by_cases hend : b3 = true ∨ n ≤ k
    · have hgu : ¬ (k : Int) < (n : Int) ∨ ((k : Int) < (n : Int) ∧ b3 = true) := by
        rcases hend with h | h
        · by_cases h2 : k < n
          · exact .inr ⟨by omega, h⟩
          · exact .inl (by omega)
        · exact .inl (by omega)
      have HFIN := hH (row_of_many (uH HNX) ((uH HMA).fin (hend.imp (fun h => by rw [h]; rfl) id)))
      have HRD := hH ((uH HROW).rd RE_open_ok (by decide) (by omega))
      obtain ⟨NA, nc, hva⟩ := (uH HROW).val
      subst hva
      have hl4 : l.length ≤ 4000 := by omega
      have HSTN := hH (show DSt w wq g6 nm (.slice NA l.length nc) (.slice none 0 0) (.slice none 0 0) (.slice none 0 0) s3 b3 from ⟨(uH HCWS).trans (uH HCH) (fun j hj e => by rcases e with h | h <;> omega), uH HRES, uH HIFC, uH HRST, hlo, hs3, (uH HDS).nmk⟩)
      have HRN := hH (show RdO (fun b => g6 < b) wq (.slice NA l.length nc) l from RdO.mono (show RdO (fun b => WS.heap.size ≤ b) wq (.slice NA l.length nc) l from (uH HRD).1) (fun b hb => by have := uH HGS; omega))
      clear hend
      rcases hgu with hgu | ⟨hgu, rfl⟩
      all_goals
        go_wp2_with fail
        refine uH HK _ _ ?_
        exact dec1 _ _ _ _ _ _ _ _ _ _ _ _ _ _ _ _ _ _ _ _ _ _ _ _ _ _ _ _ _ _ _ _ _ _ _ _ _ _ _ _ _ _ _ _ _ _ _ _ _ _ _ _ _ _ _ _ _ _ _ _ _ _ _ _ _ _ _ _ _ _ _ _ _ _ _ _ _ _ _ _ _ _ _ _ _ _ _ _ _ _ _ _ _ _ _ _ _ _ _ _ _ _ _ _ _ _ _ _ _ _ _ _ _ _ _ _ _ _ _ _ _ _ _ _ _ _ _ _ _ _ _ _ _ _ _ _ _ _ _ _ _ _ _ _ _ _ _ _ _ _ _ _ _ _ _ _ _ _ _ _ _ _ _ _ _ _ _ _ _ _ _ _ _ _ _ _ _ _ _ _ _ _ _ _ _ _ _ _ _ _ _ _ _ _ _ _ _ _ _ _ _ _ _ _ _ s nm s3 _ w wq g6  l NA nc  (rstV s1 b1) hs (uH HM) (uH HSTN)  (uH HRN) hl4 (uH HH0) (uH HFIN)
    · have hkn : k < n := by omega
      have hki : (k : Int) < (n : Int) := by omega
      obtain rfl : b3 = false := by
        cases b3
        · rfl
        · exact absurd (.inl rfl) hend
      clear hend
      have HN0 := hH (refStr_any s3 false wq hs3)
      go_upto_region 11 with (go_at_call 66; refine (uH HN0).mono ?_; rintro e w3 ⟨v, xn, s4, b4, rfl, rfl, hok0, hs4, hc3, hnx0⟩; have HNX0 := hH hnx0; have HOK0 := hH hok0; have HGB := hH hc3.size; have hc3' := (Chg.refl (fun _ => False) wq).trans' (hc3.alloc (.cells #[.string s4, .bool b4] 104)); have HCW := hH hc3'; have HX := hH (Blk.new w3 104 #[.string s4, .bool b4]); have e0 := (uH HX).cell 0; have e1 := (uH HX).cell 1; simp only [List.getElem?_toArray, List.getElem?_cons_zero, List.getElem?_cons_succ] at e0 e1; clear hnx0 hc3 hc3' hok0 r0 r1)
      have HGX := hH (show w3.heap.size < (w3.alloc (.cells #[.string s4, .bool b4] 104)).heap.size by rw [size_alloc]; omega)
      generalize w3.alloc (.cells #[.string s4, .bool b4] 104) = W3 at *
      generalize w3.heap.size = gb at *
      have HN1 := hH (refNum_4 s4 b4 W3 hs4)
      go_upto_region 12 with (go_at_call 68; refine (uH HN1).mono ?_; rintro e w4 ⟨v, y1, s5, b5, rfl, rfl, hok1, hs5, hc4, hnx1⟩; have HNX1 := hH hnx1; have HOK1 := hH hok1; have HC4 := hH hc4; have hx := (uH HX).chg hc4 id; clear e0 e1; have e0 := hx.cell 0; have e1 := hx.cell 1; have f0 := hx.frozen 0; have f1 := hx.frozen 1; simp only [List.getElem?_toArray, List.getElem?_cons_zero, List.getElem?_cons_succ] at e0 e1; have HX4 := hH hx; clear hnx1 hc4 hx hok1)
      obtain ⟨hx5, hcx⟩ := put2 (uH HX4) (.string s5) (.bool b5)
      have HCW4 := hH (((uH HCW).trans' (uH HC4)).trans hcx (fun j hj e => by have := uH HGB; omega))
      have HGX4 := hH (show gb < ((w4.setCell ⟨gb, 0, none⟩ (.string s5)).setCell ⟨gb, 1, none⟩ (.bool b5)).heap.size by rw [size_set, size_set]; have := uH HGX; have := (uH HC4).size; omega)
      clear HX HCW
      have HX := hH hx5
      have HCW := HCW4
      clear HGX
      have HGX := HGX4
      clear hx5 hcx HCW4 HGX4 HC4 HX4 e0 e1 f0 f1
      generalize (w4.setCell ⟨gb, 0, none⟩ (.string s5)).setCell ⟨gb, 1, none⟩ (.bool b5) = W4 at *
      have e0 := (uH HX).cell 0
      have e1 := (uH HX).cell 1
      simp only [List.getElem?_toArray, List.getElem?_cons_zero, List.getElem?_cons_succ] at e0 e1
      clear e0 e1
      have hwu : IntKind.u32.wrap (y1 : Int) = (y1 : Int) := by have := uH HOK1; simp only [IntKind.wrap, IntKind.bits, IntKind.signed]; simp; omega
      have HROWW := hH ((uH HROW).keep RE_open_ok (uH HCW) (fun _ h => h.elim))
      have HOWY := hH (show ∀ j, va.ownBlock = some j → WS.heap.size ≤ j ∧ j < wq.heap.size from by
        obtain ⟨_, _, h2, _⟩ := uH HROW
        exact h2.lt)
      have HBF := hH ((uH HIFC).chg (uH HCW) id)
      have HBR := hH ((uH HRST).chg (uH HCW) id)
      have HRES7 := hH ((uH HRES).chg (uH HCW) id)
      have HBS := HX
      obtain ⟨ps, hps1, hps2, hps3⟩ := uH HROWW
      obtain ⟨VA1, VA2, hva⟩ := own_val hps2
      have hpl : ps.length = k := by rw [← hll, ← hps1, List.length_map]
      have HNF := hH (show ¬ va.ownBlock = some (w.heap.size + 1) from fun e => by have := (uH HOWY _ e).1; have := uH HGS; omega)
      have HNR := hH (show ¬ va.ownBlock = some g6 from fun e => by have := (uH HOWY _ e).1; have := uH HGS; omega)
      have HNS := hH (show ¬ va.ownBlock = some gb from fun e => by have := (uH HOWY _ e).2; have := uH HGB; omega)
      have HNT := hH (show ¬ va.ownBlock = some w.heap.size from fun e => by have := (uH HOWY _ e).1; have := uH HGS; omega)
      have HB1 := hH (show WS.heap.size ≤ wq.heap.size from (uH HCH).size)
      have HZ := hH (uH HCW).size
      have HU := hH (show RE_open (fun b => wq.heap.size ≤ b) W4 undef ⟨xn, (y1 : Int)⟩ from ⟨Nat.le_trans (Nat.le_of_lt (uH HOK0)) (by decide), Int.natCast_nonneg _, by show (y1 : Int) < 4294967296; have := uH HOK1; omega⟩)
      have HSTEP := hH (fun W3 v3 (ho : W3.ownsRow WS.heap.size 51 2 v3 (k + 1) ((ps.flatMap fun p => (fun (o : Opn) _ => [.string o.name, .int .u32 o.digest]) p.1 p.2) ++ [.string xn, .int .u32 (y1 : Int)])) (hc : Chg (fun j => va.ownBlock = some j) (W4.alloc (.cells #[.string xn, .int .u32 (y1 : Int)] 51)) W3) (hat : v3.ownBlock = va.ownBlock ∨ v3.ownBlock = some (W4.alloc (.cells #[.string xn, .int .u32 (y1 : Int)] 51)).heap.size) => show RowIn (fun (o : Opn) _ => [.string o.name, .int .u32 o.digest]) RE_open 51 2 WS.heap.size W3 v3 (l ++ [⟨xn, (y1 : Int)⟩]) from by
        rw [← hps1]
        exact RowIn.step RE_open_ok hps2 hps3 (fun j hj => (uH HOWY j hj).2) (uH HB1) (uH HZ) (uH HU) (by rw [hpl]; exact ho) hc hat)
      rw [hpl] at hps2 hva
      clear hpl
      have HOWN := hH hps2
      have HLL := hH hll
      subst hva
      clear hps1 hps2 hps3 hll
      have hneFS : ¬ gb = w.heap.size + 1 := by have := uH HGB; have := uH HGS; have := uH HB1; omega
      have hne1 : ¬ w.heap.size + 1 = g6 := by omega
      have hne2 : ¬ g6 = w.heap.size + 1 := by omega
      have hm1 : k + 1 ≤ maxLen := by simp only [maxLen]; omega
      have hm2 : (k + 1) * 24 ≤ 140737488355328 := by omega
      have KS1 := hH (fun W' (hW : Chg (fun j_ => (Value.slice VA1 k VA2).ownBlock = some j_) W4 W') => show W'.cell? ⟨w.heap.size + 1, 1, none⟩ = some (.slice VA1 k VA2) from ((uH HBF).chg hW (uH HNF)).cell 1)
      have KS2 := hH (fun W' (hW : Chg (fun j_ => (Value.slice VA1 k VA2).ownBlock = some j_) W4 W') => show W'.cell? ⟨gb, 0, none⟩ = some (.string s5) ∧ W'.cell? ⟨gb, 1, none⟩ = some (.bool b5) from ⟨((uH HBS).chg hW (uH HNS)).cell 0, ((uH HBS).chg hW (uH HNS)).cell 1⟩)
      have HK1 := hH (uH KS1 _ ((Chg.refl _ W4).drew))
      have HK2 := hH (uH KS2 _ ((Chg.refl _ W4).drew))
      refine wp_region_au (fun W' => W'.cell? ⟨w.heap.size + 1, 1, none⟩ = some (.slice VA1 k VA2)) [10, 11] (fun W' => W'.cell? ⟨gb, 0, none⟩ = some (.string s5) ∧ W'.cell? ⟨gb, 1, none⟩ = some (.bool b5)) [11] 12 (by kernel_rfl) (by kernel_rfl) ?_
      refine AU.tk (i := 0) (v := ?_) rfl (by kernel_rfl) (by kernel_rfl) (fun _ _ _ h => h) ?_ (uH HK1) ?_
      rotate_left
      · intro W' hS'; (try dsimp only at hS'); go_simp; try with_reducible rfl
      try simp only [Act.put, List.setIfInBounds_toArray]
      refine AU.tk (i := 1) (v := ?_) rfl (by kernel_rfl) (by kernel_rfl) (fun _ _ _ h => h) ?_ (uH HK1) ?_
      rotate_left
      · intro W' hS'; (try dsimp only at hS'); go_simp; try with_reducible rfl
      try simp only [Act.put]
      refine AU.tk (i := 2) (v := ?_) rfl (by kernel_rfl) (by kernel_rfl) (fun _ _ _ h => h) ?_ (uH HK1) ?_
      rotate_left
      · intro W' hS'; (try dsimp only at hS'); go_simp; try with_reducible rfl
      try simp only [Act.put]
      refine AU.tk (i := 3) (v := ?_) rfl (by kernel_rfl) (by kernel_rfl) (fun _ _ _ h => h) ?_ (uH HK1) ?_
      rotate_left
      · intro W' hS'; (try dsimp only at hS'); go_simp; try with_reducible rfl
      try simp only [Act.put]
      refine AU.tk (i := 4) (v := ?_) rfl (by kernel_rfl) (by kernel_rfl) (fun _ _ _ h => h) ?_ (uH HK1) ?_
      rotate_left
      · intro W' hS'; (try dsimp only at hS'); go_simp; try with_reducible rfl
      try simp only [Act.put]
      refine AU.tk (i := 5) (v := ?_) rfl (by kernel_rfl) (by kernel_rfl) (fun _ _ _ h => h) ?_ (uH HK1) ?_
      rotate_left
      · intro W' hS'; (try dsimp only at hS'); go_simp; try with_reducible rfl
      try simp only [Act.put]
      refine AU.tk2 (i := 8) (v := ?_) rfl (by kernel_rfl) (by kernel_rfl) (fun _ _ _ h => h) ?_ (uH HK2) ?_
      rotate_left
      · intro W' hS'; (try dsimp only at hS'); go_simp; try with_reducible rfl
      try simp only [Act.put]
      refine AU.step (i := 6) (by kernel_rfl) rfl (fun K hK => ?_)
      go_simp
      refine hK.out _ _ ⟨fun _ => uH KS1 _ (((Chg.refl _ W4).alloc (.cells #[.string xn, .int .u32 (y1 : Int)] 51)).drew), fun _ => uH KS2 _ (((Chg.refl _ W4).alloc (.cells #[.string xn, .int .u32 (y1 : Int)] 51)).drew)⟩ ?_
      clear hK K
      try simp only [Act.put, List.setIfInBounds_toArray, List.set_cons_zero, List.set_cons_succ]
      refine AU.step (i := 7) (by kernel_rfl) rfl (fun K hK => ?_)
      have HOWA := own_chg ((uH HOWN).alloc (.cells #[.string xn, .int .u32 (y1 : Int)] 51)) (Chg.drew (Chg.refl (fun _ => False) (W4.alloc (.cells #[.string xn, .int .u32 (y1 : Int)] 51)))) (fun _ _ h => h)
      have HRNA := (((rd_new W4 W4.heap.size 51 [.string xn, .int .u32 (y1 : Int)] rfl).mono (T' := fun _ => True) (fun _ _ => trivial)).chg (Chg.drew (Chg.refl (fun _ => False) (W4.alloc (.cells #[.string xn, .int .u32 (y1 : Int)] 51)))) (fun _ _ _ h => h))
      refine step_append_rd _ rfl (.tmp 71) (.tmp 76) 22 rfl WS.heap.size 51 i_ (.agg #[.string ⟨#[]⟩, .int .u32 0]) 2 24 Tryz.underlying22 hi hz hsz_ hbb rfl (by decide) _ k _ rfl HOWA (fun _ => True) _ 1 1 [.string xn, .int .u32 (y1 : Int)] rfl rfl HRNA (by intro u hu; simp at hu; rcases hu with rfl | rfl <;> rfl) (hm1) (hm2) (by rw [show ((W4.alloc (.cells #[.string xn, .int .u32 (y1 : Int)] 51)).drew).heap.size = (W4.alloc (.cells #[.string xn, .int .u32 (y1 : Int)] 51)).heap.size from rfl, size_alloc]; have := uH HB1; have := uH HZ; omega) ?_
      intro v5 w5 ho5 hc5 hat
      obtain ⟨V51, V52, hv5⟩ := own_val ho5
      subst hv5
      have hc6 : Chg (fun j_ => (Value.slice VA1 k VA2).ownBlock = some j_) (W4.alloc (.cells #[.string xn, .int .u32 (y1 : Int)] 51)) w5 := ((Chg.refl _ _).drew).trans' hc5
      have HROW5 := hH (uH HSTEP w5 _ ho5 hc6 hat)
      have hc7 : Chg (fun j_ => (Value.slice VA1 k VA2).ownBlock = some j_) W4 w5 := ((Chg.refl _ W4).alloc (.cells #[.string xn, .int .u32 (y1 : Int)] 51)).trans' hc6
      have HC5 := hH hc7
      have HBF5 := hH ((uH HBF).chg hc7 (uH HNF))
      have HBR5 := hH ((uH HBR).chg hc7 (uH HNR))
      have HBS5 := hH ((uH HBS).chg hc7 (uH HNS))
      have HK15 := hH (uH KS1 _ hc7)
      have HK25 := hH (uH KS2 _ hc7)
      clear HK1 HK2 HOWA HRNA ho5 hc5 hat hc6 hc7
      refine hK.out _ _ ⟨fun _ => uH HK15, fun _ => uH HK25⟩ ?_
      clear hK K
      try simp only [Act.put, List.setIfInBounds_toArray]
      refine AU.step (i := 9) (by kernel_rfl) rfl (fun K hK => ?_)
      go_simp
      refine hK.out _ _ ⟨fun _ => uH HK15, fun _ => uH HK25⟩ ?_
      clear hK K
      try simp only [Act.put, List.setIfInBounds_toArray, List.set_cons_zero, List.set_cons_succ]
      have c7 := (uH HBF5).cell 1
      have f7 := (uH HBF5).frozen 1
      have c8 := (uH HBR5).cell 0
      have c9 := (uH HBR5).cell 1
      have f8 := (uH HBR5).frozen 0
      have f9 := (uH HBR5).frozen 1
      simp only [List.getElem?_toArray, List.getElem?_cons_zero, List.getElem?_cons_succ] at c7 c8 c9
      refine AU.step (i := 10) (by kernel_rfl) rfl (fun K hK => ?_)
      go_simp
      refine hK.out _ _ ⟨fun h => absurd (by decide) h, fun _ => ⟨((uH HBS5).far (p := ⟨w.heap.size + 1, 1, none⟩) hneFS (.slice V51 (k + 1) V52)).cell 0, ((uH HBS5).far (p := ⟨w.heap.size + 1, 1, none⟩) hneFS (.slice V51 (k + 1) V52)).cell 1⟩⟩ ?_
      clear hK K
      try simp only [Act.put, List.setIfInBounds_toArray, List.set_cons_zero, List.set_cons_succ]
      refine AU.step (i := 11) (by kernel_rfl) rfl (fun K hK => ?_)
      go_simp
      refine hK.out _ _ ⟨fun h => absurd (by decide) h, fun h => absurd (by decide) h⟩ ?_
      clear hK K
      try simp only [Act.put, List.setIfInBounds_toArray, List.set_cons_zero, List.set_cons_succ]
      refine AU.done (by kernel_rfl) ?_ _
      clear c7 f7 c8 c9 f8 f9 KS1 KS2 HK15 HK25
      have hgc := (((uH HBF5).set_ 1 (.slice V51 (k + 1) V52)).far (p := ⟨g6, 0, none⟩) hne1 (.string s5)).far (p := ⟨g6, 1, none⟩) hne1 (.bool b5)
      have hg8 := (((uH HBR5).far (p := ⟨w.heap.size + 1, 1, none⟩) hne2 (.slice V51 (k + 1) V52)).set_ 0 (.string s5)).set_ 1 (.bool b5)
      have hc9 := (((Chg.refl (fun x => x = w.heap.size + 1 ∨ x = g6) w5).setCell (p := ⟨w.heap.size + 1, 1, none⟩) (fun _ => .inl rfl) (.slice V51 (k + 1) V52)).setCell (p := ⟨g6, 0, none⟩) (fun _ => .inr rfl) (.string s5)).setCell (p := ⟨g6, 1, none⟩) (fun _ => .inr rfl) (.bool b5)
      have HRES9 := hH (((uH HRES7).chg (uH HC5) (uH HNT)).chg hc9 (fun e => by rcases e with h | h <;> omega))
      have HROW9 := hH ((uH HROW5).keep RE_open_ok hc9 (fun b hb _ => by have := uH HGS; rcases hb with h | h <;> omega))
      have HCH9 := hH ((((uH HCH).trans (uH HCW) (fun _ _ h => h.elim)).trans (uH HC5) (fun j hj e => by have := (uH HOWY j e).1; omega)).trans' hc9)
      simp only [List.setIfInBounds_toArray, List.set_cons_zero, List.set_cons_succ] at hgc hg8
      have HGC := hH hgc
      have HG88 := hH hg8
      generalize (((w5.setCell ⟨w.heap.size + 1, 1, none⟩ (.slice V51 (k + 1) V52)).setCell ⟨g6, 0, none⟩ (.string s5)).setCell ⟨g6, 1, none⟩ (.bool b5)) = W9 at *
      have HNXT := hH (NextSt.seq (q := fun t => mapT (fun (y : Nat) => (⟨t, (y : Int)⟩ : Opn)) (pNum 4)) (uH HNX0) ((uH HNX1).map (fun (y : Nat) => (⟨xn, (y : Int)⟩ : Opn))))
      clear hgc hg8 hc9
      go_wp2_with fail
      go_roundw
      case rel => exact ⟨k + 1, l ++ [⟨xn, (y1 : Int)⟩], s5, b5, _, by go_num, by omega, by rw [List.length_append, uH HLL]; rfl, hs5, uH HRES9, uH HGC, uH HG88, uH HROW9, uH HCH9, ManyAt.step (r := s3.data.toList) (show ManyAt pOpn n (rstV s2 b2) k l (some s3.data.toList) from uH HMA) hkn (show NextSt pOpn (some s3.data.toList) ⟨xn, (y1 : Int)⟩ _ from uH HNXT)⟩
      case measure => simp [intOf]; omega
end Go.Proofs.YtinekmjengckdaaGreatDoor

namespace Go.Proofs.YtinekmjengckdaaGreatDoor
open Go.RowKit
set_option maxHeartbeats 8000000
set_option maxRecDepth 1000000
theorem take4 (s : ByteArray) : (s.extract 0 4).data.toList = s.data.toList.take 4 := by
  rw [ext_list, List.drop_zero]
theorem drop4 (s : ByteArray) : (s.extract 4 s.size).data.toList = s.data.toList.drop 4 := by
  rw [ext_list, List.take_of_length_le (l := s.data.toList.drop 4) (by rw [List.length_drop, toList_size]; omega)]
theorem no_magic {s : ByteArray} (h : s.data.toList.take 4 ≠ magicB) : decG (ifcB ltS) s.data.toList = none := by
  unfold decG
  rw [if_neg h]
theorem refDecode_any (s : ByteArray) (w : World) (hs : s.size ≤ 800000000) : Calls Tryz.prog 21 #[.string s] w (DecD s w) := by
  have hb := Blk.new w 27 #[.string ⟨#[]⟩, .slice none 0 0, .slice none 0 0, .slice none 0 0, .slice none 0 0]
  have hc0 : Chg (fun _ => False) w (w.alloc (.cells #[.string ⟨#[]⟩, .slice none 0 0, .slice none 0 0, .slice none 0 0, .slice none 0 0] 27)) := (Chg.refl _ w).alloc _
  have HC0 := hH hc0
  have q0 := hb.cell 0
  have q1 := hb.cell 1
  have q2 := hb.cell 2
  have q3 := hb.cell 3
  have q4 := hb.cell 4
  have f0 := hb.frozen 0
  have f1 := hb.frozen 1
  have f2 := hb.frozen 2
  have f3 := hb.frozen 3
  have f4 := hb.frozen 4
  simp only [List.getElem?_toArray, List.getElem?_cons_zero, List.getElem?_cons_succ] at q0 q1 q2 q3 q4
  have HB := hH hb
  clear hb hc0
  by_cases h4 : s.size < 4
  · have h4' : (s.size : Int) < 4 := by omega
    have HNO := hH (no_magic (s := s) (fun e => by
      have := congrArg List.length e
      rw [List.length_take, toList_size] at this
      have e2 : magicB.length = 4 := rfl
      omega))
    go_enter Tryz.func21, Tryz.ntmps21
    go_wp2_with fail
    refine bodyPost_ret (v := .tuple #[.agg #[.string ⟨#[]⟩, .slice none 0 0, .slice none 0 0, .slice none 0 0, .slice none 0 0], .bool false]) (by simp [results, Tryz.results21, go_sem, q0, q1, q2, q3, q4]) rfl (DecD.no (uH HNO) rfl ?_)
    repeat (refine Chg.setCell ?_ (fun h => (by dsimp only at h; omega)) _)
    exact uH HC0
  · have h4' : ¬ (s.size : Int) < 4 := by omega
    have h4'' : (4 : Int) ≤ (s.size : Int) := by omega
    have h44 : 4 ≤ s.size := by omega
    have htx := text_eq (s.extract 0 4) [84, 82, 71, 73]
    by_cases hmg : s.extract 0 4 = ⟨[84, 82, 71, 73].toArray⟩
    rotate_left
    · rw [decide_eq_false hmg] at htx
      have htx2 := htx.symm
      have HNO := hH (no_magic (s := s) (fun e => hmg (by
        apply ByteArray.ext
        apply Array.toList_inj.1
        rw [take4, e]
        rfl)))
      clear htx hmg
      go_enter Tryz.func21, Tryz.ntmps21
      go_wp2_with fail
      refine bodyPost_ret (v := .tuple #[.agg #[.string ⟨#[]⟩, .slice none 0 0, .slice none 0 0, .slice none 0 0, .slice none 0 0], .bool false]) (by simp [results, Tryz.results21, go_sem, q0, q1, q2, q3, q4]) rfl (DecD.no (uH HNO) rfl ?_)
      repeat (refine Chg.setCell ?_ (fun h => (by dsimp only at h; omega)) _)
      exact uH HC0
    · rw [decide_eq_true hmg] at htx
      have htx2 := htx.symm
      have HM := hH (show s.data.toList.take 4 = magicB by rw [← take4, hmg]; rfl)
      have HI := hH (Blk.new_at (w.alloc (.cells #[.string ⟨#[]⟩, .slice none 0 0, .slice none 0 0, .slice none 0 0, .slice none 0 0] 27)) (w.heap.size + 1) 27 #[.string ⟨#[]⟩, .slice none 0 0, .slice none 0 0, .slice none 0 0, .slice none 0 0] (size_alloc _ _).symm)
      have HB1 := hH ((uH HB).alloc (.cells #[.string ⟨#[]⟩, .slice none 0 0, .slice none 0 0, .slice none 0 0, .slice none 0 0] 27))
      have HC1 := hH ((uH HC0).alloc (.cells #[.string ⟨#[]⟩, .slice none 0 0, .slice none 0 0, .slice none 0 0, .slice none 0 0] 27))
      have HZ1 := hH (show w.heap.size + 2 = ((w.alloc (.cells #[.string ⟨#[]⟩, .slice none 0 0, .slice none 0 0, .slice none 0 0, .slice none 0 0] 27)).alloc (.cells #[.string ⟨#[]⟩, .slice none 0 0, .slice none 0 0, .slice none 0 0, .slice none 0 0] 27)).heap.size by rw [size_alloc, size_alloc])
      have HN := hH (refStr_any (s.extract 4 s.size) false ((w.alloc (.cells #[.string ⟨#[]⟩, .slice none 0 0, .slice none 0 0, .slice none 0 0, .slice none 0 0] 27)).alloc (.cells #[.string ⟨#[]⟩, .slice none 0 0, .slice none 0 0, .slice none 0 0, .slice none 0 0] 27)) (ext_le hs))
      have HDR := hH (drop4 s)
      clear htx hmg
      go_enter Tryz.func21, Tryz.ntmps21
      go_upto_region 5 with (go_at_call 66; refine (uH HN).mono ?_; rintro e w2 ⟨v, nm, s1, b1, rfl, rfl, hok, hs1, hc2, hnx⟩; have HNX := hH hnx; have HOK := hH hok; have hc3 := hc2.alloc (.cells #[.string s1, .bool b1] 104); have HI2 := hH ((uH HI).chg hc3 id); have HB2 := hH ((uH HB1).chg hc3 id); have HC2 := hH ((uH HC1).trans' hc3); have HX := hH (Blk.new w2 104 #[.string s1, .bool b1]); have HG := hH hc2.size; have p0 := (uH HI2).cell 0; have e0 := (uH HI2).frozen 0; simp only [List.getElem?_toArray, List.getElem?_cons_zero] at p0; clear hnx hc2 hc3 hok q0 q1 q2 q3 q4 f0 f1 f2 f3 f4)
      rename_i K hK
      have HK := hH hK
      clear hK
      have hg : w.heap.size + 1 < w2.heap.size := by have := uH HG; have := uH HZ1; omega
      generalize w2.alloc (.cells #[.string s1, .bool b1] 104) = W2 at *
      generalize w2.heap.size = g6 at *
      have hi3 := (uH HI2).set_ 0 (.string nm)
      have hb3 := (uH HB2).far (p := ⟨w.heap.size + 1, 0, none⟩) (by show ¬ w.heap.size = w.heap.size + 1; omega) (.string nm)
      have hx3 := (uH HX).far (p := ⟨w.heap.size + 1, 0, none⟩) (by show ¬ g6 = w.heap.size + 1; omega) (.string nm)
      have hc3 := (uH HC2).setCell (p := ⟨w.heap.size + 1, 0, none⟩) (fun h => by dsimp only at h; omega) (.string nm)
      simp only [List.setIfInBounds_toArray, List.set_cons_zero] at hi3
      have HST := hH (show DSt w (W2.setCell ⟨w.heap.size + 1, 0, none⟩ (.string nm)) g6 nm (.slice none 0 0) (.slice none 0 0) (.slice none 0 0) (.slice none 0 0) s1 b1 from ⟨hc3, hb3, hi3, hx3, hg, hs1, uH HOK⟩)
      clear hi3 hb3 hx3 hc3
      go_wp2_with fail
      refine uH HK _ _ ?_
      exact dec0 _ _ _ _ _ _ _ _ _ _ _ _ _ _ _ _ _ _ _ _ _ _ _ _ _ _ _ _ _ _ _ _ _ _ _ _ _ _ _ _ _ _ _ _ _ _ _ _ _ _ _ _ _ _ _ _ _ _ _ _ _ _ _ _ _ _ _ _ _ _ _ _ _ _ _ _ _ _ _ _ _ _ _ _ _ _ _ _ _ _ _ _ _ _ _ _ _ _ _ _ _ _ _ _ _ _ _ _ _ _ _ _ _ _ _ _ _ _ _ _ _ _ _ _ _ _ _ _ _ _ _ _ _ _ _ _ _ _ _ _ _ _ _ _ _ _ _ _ _ _ _ _ _ _ _ _ _ _ _ _ _ _ _ _ _ _ _ _ _ _ _ _ _ _ _ _ _ _ _ _ _ _ _ _ _ _ _ _ _ _ _ _ _ _ _ _ _ _ _ _ _ _ _ _ _ s nm s1 b1 w _ g6 hs (uH HM) (uH HST) (by
        have := uH HNX
        unfold rstV at this
        rw [if_neg (by decide), uH HDR] at this
        exact this)
end Go.Proofs.YtinekmjengckdaaGreatDoor
