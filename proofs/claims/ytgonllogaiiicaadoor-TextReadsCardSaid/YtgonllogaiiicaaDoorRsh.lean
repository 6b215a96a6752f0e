/-
  Layer 17, the document's side: what is shown.
-/
import Derived.Test.YtgonllogaiiicaaDoorRtl
import Derived.Test.YtgonllogaiiicaaDoorM01
import Derived.Test.YtgonllogaiiicaaDoorWc
import Derived.Deep.RegionHeld3
namespace Go.Proofs.YtgonllogaiiicaaDoor
open Go.RowKit
set_option maxHeartbeats 4000000
set_option maxRecDepth 100000
theorem bytes_of (l : Bs) : (⟨l.toArray⟩ : ByteArray).data.toList = l := by simp
theorem name_at (o : Nat) (h : o ≤ 20) : opNames[o]? = some (opName (o : Int)) := by
  unfold opName
  rw [Int.toNat_natCast, List.getD_eq_getElem?_getD]
  have hl : o < opNames.length := by show o < 21; omega
  rw [List.getElem?_eq_getElem hl]
  rfl
theorem names_row (o : Nat) (h : o ≤ 20) (W : World) : Calls Tryd.prog 37 #[] W fun e w' => ∃ q : Nat, e = .returned (.slice (some ⟨q, 0, none⟩) 21 21) ∧ w'.cell? ⟨q, o, none⟩ = some (.string ⟨(opName (o : Int)).toArray⟩) ∧ Chg (fun _ => False) W w' :=
  (refNames_any W).mono fun e w' ⟨h1, h2⟩ => ⟨W.heap.size, h1, by
    rw [h2, (Blk.new W 9 (opNames.map bv).toArray).cell o]
    simp only [List.getElem?_toArray, List.getElem?_map, name_at o h]
    rfl, by rw [h2]; exact (Chg.refl _ W).alloc _⟩
theorem opName_len (o : Nat) (h : o ≤ 20) : (opName (o : Int)).length ≤ 5 := by
  have key : ∀ k : Fin 21, (opName ((k.1 : Nat) : Int)).length ≤ 5 := by decide +kernel
  exact key ⟨o, by omega⟩
theorem nameL_len (l : List Ins) (k : Nat) : (nameL l k).length ≤ k + 2 := by
  have h1 := dec_len1 (countT l k)
  have h2 := countT_le l k
  unfold nameL
  rw [List.length_cons]
  omega
theorem refNum_of (o : Nat) (n : Nat) (h : numsN (o : Int) = n) (w : World) : Calls Tryd.prog 38 #[.int .i64 (o : Int)] w fun e w' => e = .returned (.int .i64 (n : Int)) ∧ w = w' := by
  have := refNumbers_any (o : Int) w
  rw [numI_eq, h] at this
  exact this
theorem data_cat (a b : ByteArray) : (a ++ b).data.toList = a.data.toList ++ b.data.toList := by
  rw [ByteArray.data_append, Array.toList_append]
theorem refShow_any (l : List Ins) (c : Nat) (A : Option Addr) (T : Nat → Prop) (w : World) (hr : Rd T w A (l.flatMap insv)) (hc : checkE l = 0) (hlen : (showT l).length ≤ 1000000000) :
    Calls Tryd.prog 13 #[.slice A l.length c] w fun e w' => e = .returned (.string ⟨(showT l).toArray⟩) ∧ Chg (fun _ => False) w w' := by
  obtain ⟨hn, hins, hto⟩ := checkE_zero hc
  have hr0 := hr
  have HR := hide hr
  have HIN := hide hins
  have HTO := hide hto
  have HS0 := hide (show (⟨#[]⟩ : ByteArray).data.toList ++ showK l 0 (l.drop 0) = showT l from rfl)
  have HTK := hide (fun k => show l.length ≤ k → showK l k (l.drop k) = [] from fun h => by rw [List.drop_eq_nil_of_le h]; rfl)
  have HTN := hide (fun k (x : Ins) (h : l[k]? = some x) => show showK l k (l.drop k) = (if told l k then nameL l k ++ [58, 10] else []) ++ (lineI l x ++ 10 :: showK l (k + 1) (l.drop (k + 1))) from by
    obtain ⟨h1, h2⟩ := List.getElem?_eq_some_iff.1 h
    rw [List.drop_eq_getElem_cons h1, h2]; rfl)
  generalize showT l = SH at *
  clear hr hins hto hc
  have hqf := run_str_of_bytes (P := Tryd.prog) (w.alloc (.cells #[.int .u8 10] 5)) 56 9 5 ⟨w.heap.size, 0, none⟩ 1 1 [10] rfl Tryd.underlying56 Tryd.underlying5 Tryd.underlying9 (fun j v hv => by
    cases j with
    | zero =>
      simp only [List.map_cons, List.getElem?_cons_zero, Option.some.injEq] at hv
      subst hv
      exact (Blk.new w 5 #[.int .u8 10]).cell 0
    | succ j => simp at hv)
  go_enter Tryd.func13, Tryd.ntmps13
  go_wp2_with fail
  go_loopw [3, 5] (fun s i wr => ∃ (k : Nat) (S : ByteArray), i = .int .i64 (k : Int) ∧ k ≤ l.length ∧ s = .string S ∧ S.data.toList ++ showK l k (l.drop k) = SH ∧ Chg (fun _ => False) w wr) (fun _ i _ => l.length - (intOf i).toNat)
  case atStart => exact ⟨0, ⟨#[]⟩, rfl, Nat.zero_le _, rfl, unhide HS0, (Chg.refl _ w).alloc _⟩
  case round =>
    clear HS0 hqf
    obtain ⟨wq, rfl⟩ : ∃ wq : World, wq = wr := ⟨_, rfl⟩
    obtain ⟨k, S, rfl, hk, rfl, hS, hch⟩ := hrel
    by_cases hlt : k < l.length
    · have hki : (k : Int) < (l.length : Int) := by omega
      have hSl : S.size ≤ 1000000000 := by
        have := congrArg List.length hS
        rw [List.length_append] at this
        have e : S.data.toList.length = S.size := rfl
        omega
      obtain ⟨b, o, rfl, _, hat⟩ := code_at ((unhide HR).chg hch (fun _ _ _ => id)) (by rintro rfl; simp at hlt)
      have hx := List.getElem?_eq_getElem hlt
      generalize l[k] = x at *
      obtain ⟨q0, q1, q2⟩ := hat k x hx
      obtain ⟨i1, i2, i3, i4, i5, i6, i7, i8⟩ := insB_parts ((unhide HIN) x (List.mem_of_getElem? hx))
      have hTO := (unhide HTO) x (List.mem_of_getElem? hx)
      have HNX := hide ((unhide HTN) k x hx)
      obtain ⟨xo, xa, xb⟩ := x
      simp only at i1 i2 i3 i4 i5 i6 i7 i8 q0 q1 q2 hTO
      obtain ⟨o, rfl⟩ : ∃ o : Nat, xo = (o : Int) := ⟨xo.toNat, by omega⟩
      obtain ⟨a, rfl⟩ : ∃ a : Nat, xa = (a : Int) := ⟨xa.toNat, by omega⟩
      obtain ⟨z, rfl⟩ : ∃ z : Nat, xb = (z : Int) := ⟨xb.toNat, by omega⟩
      have ho20 : o ≤ 20 := by omega
      have ha : a ≤ 1048576 := by omega
      have hz : z ≤ 1048576 := by omega
      have HS := hide hS
      have HCH := hide hch
      obtain ⟨wb, hwb⟩ : ∃ wb, wq.alloc (.cells #[.int .i64 (o : Int), .int .i64 (a : Int), .int .i64 (z : Int)] 42) = wb := ⟨_, rfl⟩
      have bk := Blk.new wq 42 #[.int .i64 (o : Int), .int .i64 (a : Int), .int .i64 (z : Int)]
      have hcb : Chg (fun _ => False) wq (wq.alloc (.cells #[.int .i64 (o : Int), .int .i64 (a : Int), .int .i64 (z : Int)] 42)) := (Chg.refl _ wq).alloc _
      rw [hwb] at bk hcb
      obtain ⟨g, hg0⟩ : ∃ g, wq.heap.size = g := ⟨_, rfl⟩
      rw [hg0] at bk
      have HCB := hide hcb
      have KSW := hide (fun W (hW : Chg (fun _ => False) wb W) => show W.cell? ⟨g, 0, none⟩ = some (.int .i64 (o : Int)) ∧ W.cell? ⟨g, 1, none⟩ = some (.int .i64 (a : Int)) ∧ W.cell? ⟨g, 2, none⟩ = some (.int .i64 (z : Int)) from ⟨(bk.chg hW id).cell 0, (bk.chg hW id).cell 1, (bk.chg hW id).cell 2⟩)
      have HRB := hide (fun W (hW : Chg (fun _ => False) wb W) => (unhide HR).chg (((unhide HCH).trans' (unhide HCB)).trans' hW) (fun _ _ _ => id))
      have HT := hide (fun W (hW : Chg (fun _ => False) wb W) => refTold_any l c k _ T W (unhide HRB _ hW) (by omega))
      have HNK := hide (fun W (hW : Chg (fun _ => False) wb W) => refName_any l c k _ T W (unhide HRB _ hW) (by omega) (by omega))
      have HNA := hide (fun W (hW : Chg (fun _ => False) wb W) => refName_any l c a _ T W (unhide HRB _ hW) (by omega) (by omega))
      have HDA := hide (fun W => refDigits_any a W (by omega))
      have HDZ := hide (fun W => refDigits_any z W (by omega))
      have HNS := hide (fun W => names_row o ho20 W)
      have HGO := hide (fun W => refGoes_any (o : Int) W)
      have l1 := nameL_len l k
      have l2 := nameL_len l a
      have l3 := dec_len1 a
      have l4 := dec_len1 z
      have l5 := opName_len o ho20
      have HLI : Hid (∀ G : Bool, goesB (o : Int) = G → ∀ N : Nat, numsN (o : Int) = N → lineI l ⟨(o : Int), (a : Int), (z : Int)⟩ = 32 :: 32 :: (opName (o : Int) ++ ((if G then [nameL l a] else []) ++ ((if G then [(z : Int)].take N else [(a : Int), (z : Int)].take N)).map fun v => Lib.decDigits v.toNat).flatMap (32 :: ·))) := hide (by
        rintro G rfl N rfl
        rfl)
      have hng := numsN_goes (o := (o : Int))
      have hnl := numsN_le (o : Int)
      have HNU := hide (fun n h W => refNum_of o n h W)
      clear hcb hat hx hch hS bk i7 i8 hTO
      generalize nameL l k = NK at *
      generalize nameL l a = NA at *
      generalize opName (o : Int) = OP at *
      obtain ⟨DA, hda⟩ : ∃ DA, Lib.decDigits a = DA := ⟨_, rfl⟩
      obtain ⟨DZ, hdz⟩ : ∃ DZ, Lib.decDigits z = DZ := ⟨_, rfl⟩
      rw [hda] at HDA l3
      rw [hdz] at HDZ l4
      have HDAE := hide hda
      have HDZE := hide hdz
      clear hda hdz
      have g1 : (⟨NK.toArray⟩ : ByteArray).size ≤ 1000000000 := by show NK.toArray.size ≤ _; rw [List.size_toArray]; omega
      have g2 : (⟨NA.toArray⟩ : ByteArray).size ≤ 1000000000 := by show NA.toArray.size ≤ _; rw [List.size_toArray]; omega
      have g3 : (⟨DA.toArray⟩ : ByteArray).size ≤ 1000000000 := by show DA.toArray.size ≤ _; rw [List.size_toArray]; omega
      have g4 : (⟨DZ.toArray⟩ : ByteArray).size ≤ 1000000000 := by show DZ.toArray.size ≤ _; rw [List.size_toArray]; omega
      have g5 : (⟨OP.toArray⟩ : ByteArray).size ≤ 1000000000 := by show OP.toArray.size ≤ _; rw [List.size_toArray]; omega
      have HB1 := hide (bytes_of NK)
      have HB2 := hide (bytes_of NA)
      have HB3 := hide (bytes_of DA)
      have HB4 := hide (bytes_of DZ)
      have HB5 := hide (bytes_of OP)
      generalize (⟨NK.toArray⟩ : ByteArray) = XK at *
      generalize (⟨NA.toArray⟩ : ByteArray) = XA at *
      generalize (⟨DA.toArray⟩ : ByteArray) = YA at *
      generalize (⟨DZ.toArray⟩ : ByteArray) = YZ at *
      generalize (⟨OP.toArray⟩ : ByteArray) = XO at *
      clear l1 l2 l3 l4 l5
      have c0 : (⟨#[32, 32]⟩ : ByteArray).size = 2 := rfl
      have c1 : (⟨#[58]⟩ : ByteArray).size = 1 := rfl
      have c2 : (⟨#[10]⟩ : ByteArray).size = 1 := rfl
      have hob : (o : Int) < 21 := by omega
      have r1 := fun wx : World => run_string_add_sum (P := Tryd.prog) wx ⟨#[32, 32]⟩ XO (by omega)
      have HD := hide (Chg.refl (fun _ => False) wb)
      (obtain ⟨p0, p1, p2⟩ := unhide KSW _ (unhide HD))
      cases htk : told l k
      all_goals
        rw [htk] at HT HNX
        have HTW := HT
        clear htk HT
      · have r2 := fun wx : World => run_string_add_sum (P := Tryd.prog) wx (S) (⟨#[32, 32]⟩ ++ XO) (by simp only [ByteArray.size_append]; omega)
        go_upto_region 9 with (first
          | (go_at_call 35; (with_reducible refine (unhide HTW _ (unhide HD)).mono ?_); rintro e w2 ⟨rfl, rfl⟩)
          | (go_at_call 36; (with_reducible refine (unhide HNK _ (unhide HD)).mono ?_); rintro e w2 ⟨rfl, hc2⟩; have HN_ := hide ((unhide HD).trans' hc2); clear HD; have HD := HN_; clear HN_ hc2; clear p0 p1 p2; (obtain ⟨p0, p1, p2⟩ := unhide KSW _ (unhide HD))))
        have HN_ : Hid (Chg (fun _ => False) wb wb.drew) := hide (Chg.drew (unhide HD))
        clear HD
        have HD := HN_
        clear HN_
        clear p0 p1 p2
        (obtain ⟨p0, p1, p2⟩ := unhide KSW _ (unhide HD))
        go_region_law (first
          | (go_simp; go_at_call 37; refine (unhide HNS _).mono ?_; rintro e w4 ⟨q, rfl, hcell, hc2⟩
             have HN_ := hide ((unhide HD).trans' hc2); clear HD; have HD := HN_; clear HN_ hc2; clear p0 p1 p2; (obtain ⟨p0, p1, p2⟩ := unhide KSW _ (unhide HD))))
        all_goals
          cases hg : goesB (o : Int) with
          | false =>
            rcases (show numsN (o : Int) = 0 ∨ numsN (o : Int) = 1 ∨ numsN (o : Int) = 2 by omega) with hN | hN | hN
            · have HN1 := hide (unhide HNU 0 hN)
              have HLI1 := hide (unhide HLI false hg 0 hN)
              have HG1 := HGO
              rw [hg] at HG1
              clear hN hg HGO HLI HNU
              go_wp2_with (first
                | (go_at_call 38; (with_reducible refine (unhide HN1 _).mono ?_); rintro e w5 ⟨rfl, rfl⟩)
                | (go_at_call 34; (with_reducible refine (unhide HG1 _).mono ?_); rintro e w6 ⟨rfl, rfl⟩)
                | (go_at_call 36; (with_reducible refine (unhide HNA _ (unhide HD)).mono ?_); rintro e w7 ⟨rfl, hc2⟩; have HN_ := hide ((unhide HD).trans' hc2); clear HD; have HD := HN_; clear HN_ hc2; clear p0 p1 p2; (obtain ⟨p0, p1, p2⟩ := unhide KSW _ (unhide HD)))
                | (go_at_call 39; (with_reducible refine (unhide HDA _).mono ?_); rintro e w8 ⟨rfl, hc2⟩; have HN_ := hide ((unhide HD).trans' hc2); clear HD; have HD := HN_; clear HN_ hc2; clear p0 p1 p2; (obtain ⟨p0, p1, p2⟩ := unhide KSW _ (unhide HD)))
                | (go_at_call 39; (with_reducible refine (unhide HDZ _).mono ?_); rintro e w9 ⟨rfl, hc2⟩; have HN_ := hide ((unhide HD).trans' hc2); clear HD; have HD := HN_; clear HN_ hc2; clear p0 p1 p2; (obtain ⟨p0, p1, p2⟩ := unhide KSW _ (unhide HD))))
              go_roundw
              case rel =>
                refine ⟨k + 1, ((S ++ (⟨#[32, 32]⟩ ++ XO)) ++ ⟨#[10]⟩), by go_num, by omega, by first | rfl | simp only [ByteArray.append_assoc], ?_, (unhide HCH).trans' ((unhide HCB).trans' (unhide HD))⟩
                rw [← unhide HS, unhide HNX, unhide HLI1]
                simp [unhide HB5]
              case measure => simp [intOf]; omega
            · have HN1 := hide (unhide HNU 1 hN)
              have HLI1 := hide (unhide HLI false hg 1 hN)
              have HG1 := HGO
              rw [hg] at HG1
              clear hN hg HGO HLI HNU
              go_wp2_with (first
                | (go_at_call 38; (with_reducible refine (unhide HN1 _).mono ?_); rintro e w5 ⟨rfl, rfl⟩)
                | (go_at_call 34; (with_reducible refine (unhide HG1 _).mono ?_); rintro e w6 ⟨rfl, rfl⟩)
                | (go_at_call 36; (with_reducible refine (unhide HNA _ (unhide HD)).mono ?_); rintro e w7 ⟨rfl, hc2⟩; have HN_ := hide ((unhide HD).trans' hc2); clear HD; have HD := HN_; clear HN_ hc2; clear p0 p1 p2; (obtain ⟨p0, p1, p2⟩ := unhide KSW _ (unhide HD)))
                | (go_at_call 39; (with_reducible refine (unhide HDA _).mono ?_); rintro e w8 ⟨rfl, hc2⟩; have HN_ := hide ((unhide HD).trans' hc2); clear HD; have HD := HN_; clear HN_ hc2; clear p0 p1 p2; (obtain ⟨p0, p1, p2⟩ := unhide KSW _ (unhide HD)))
                | (go_at_call 39; (with_reducible refine (unhide HDZ _).mono ?_); rintro e w9 ⟨rfl, hc2⟩; have HN_ := hide ((unhide HD).trans' hc2); clear HD; have HD := HN_; clear HN_ hc2; clear p0 p1 p2; (obtain ⟨p0, p1, p2⟩ := unhide KSW _ (unhide HD))))
              go_roundw
              case rel =>
                refine ⟨k + 1, (((S ++ (⟨#[32, 32]⟩ ++ XO)) ++ (⟨#[32]⟩ ++ YA)) ++ ⟨#[10]⟩), by go_num, by omega, by first | rfl | simp only [ByteArray.append_assoc], ?_, (unhide HCH).trans' ((unhide HCB).trans' (unhide HD))⟩
                rw [← unhide HS, unhide HNX, unhide HLI1]
                simp [unhide HB3, unhide HB5, unhide HDAE]
              case measure => simp [intOf]; omega
            · have HN1 := hide (unhide HNU 2 hN)
              have HLI1 := hide (unhide HLI false hg 2 hN)
              have HG1 := HGO
              rw [hg] at HG1
              clear hN hg HGO HLI HNU
              go_wp2_with (first
                | (go_at_call 38; (with_reducible refine (unhide HN1 _).mono ?_); rintro e w5 ⟨rfl, rfl⟩)
                | (go_at_call 34; (with_reducible refine (unhide HG1 _).mono ?_); rintro e w6 ⟨rfl, rfl⟩)
                | (go_at_call 36; (with_reducible refine (unhide HNA _ (unhide HD)).mono ?_); rintro e w7 ⟨rfl, hc2⟩; have HN_ := hide ((unhide HD).trans' hc2); clear HD; have HD := HN_; clear HN_ hc2; clear p0 p1 p2; (obtain ⟨p0, p1, p2⟩ := unhide KSW _ (unhide HD)))
                | (go_at_call 39; (with_reducible refine (unhide HDA _).mono ?_); rintro e w8 ⟨rfl, hc2⟩; have HN_ := hide ((unhide HD).trans' hc2); clear HD; have HD := HN_; clear HN_ hc2; clear p0 p1 p2; (obtain ⟨p0, p1, p2⟩ := unhide KSW _ (unhide HD)))
                | (go_at_call 39; (with_reducible refine (unhide HDZ _).mono ?_); rintro e w9 ⟨rfl, hc2⟩; have HN_ := hide ((unhide HD).trans' hc2); clear HD; have HD := HN_; clear HN_ hc2; clear p0 p1 p2; (obtain ⟨p0, p1, p2⟩ := unhide KSW _ (unhide HD))))
              go_roundw
              case rel =>
                refine ⟨k + 1, ((((S ++ (⟨#[32, 32]⟩ ++ XO)) ++ (⟨#[32]⟩ ++ YA)) ++ (⟨#[32]⟩ ++ YZ)) ++ ⟨#[10]⟩), by go_num, by omega, by first | rfl | simp only [ByteArray.append_assoc], ?_, (unhide HCH).trans' ((unhide HCB).trans' (unhide HD))⟩
                rw [← unhide HS, unhide HNX, unhide HLI1]
                simp [unhide HB3, unhide HB4, unhide HB5, unhide HDAE, unhide HDZE]
              case measure => simp [intOf]; omega
          | true =>
            have hng1 := hng hg
            rcases (show numsN (o : Int) = 0 ∨ numsN (o : Int) = 1 by omega) with hN | hN
            · have HN1 := hide (unhide HNU 0 hN)
              have HLI1 := hide (unhide HLI true hg 0 hN)
              have HG1 := HGO
              rw [hg] at HG1
              clear hN hg HGO HLI HNU
              go_wp2_with (first
                | (go_at_call 38; (with_reducible refine (unhide HN1 _).mono ?_); rintro e w5 ⟨rfl, rfl⟩)
                | (go_at_call 34; (with_reducible refine (unhide HG1 _).mono ?_); rintro e w6 ⟨rfl, rfl⟩)
                | (go_at_call 36; (with_reducible refine (unhide HNA _ (unhide HD)).mono ?_); rintro e w7 ⟨rfl, hc2⟩; have HN_ := hide ((unhide HD).trans' hc2); clear HD; have HD := HN_; clear HN_ hc2; clear p0 p1 p2; (obtain ⟨p0, p1, p2⟩ := unhide KSW _ (unhide HD)))
                | (go_at_call 39; (with_reducible refine (unhide HDA _).mono ?_); rintro e w8 ⟨rfl, hc2⟩; have HN_ := hide ((unhide HD).trans' hc2); clear HD; have HD := HN_; clear HN_ hc2; clear p0 p1 p2; (obtain ⟨p0, p1, p2⟩ := unhide KSW _ (unhide HD)))
                | (go_at_call 39; (with_reducible refine (unhide HDZ _).mono ?_); rintro e w9 ⟨rfl, hc2⟩; have HN_ := hide ((unhide HD).trans' hc2); clear HD; have HD := HN_; clear HN_ hc2; clear p0 p1 p2; (obtain ⟨p0, p1, p2⟩ := unhide KSW _ (unhide HD))))
              go_roundw
              case rel =>
                refine ⟨k + 1, (((S ++ (⟨#[32, 32]⟩ ++ XO)) ++ (⟨#[32]⟩ ++ XA)) ++ ⟨#[10]⟩), by go_num, by omega, by first | rfl | simp only [ByteArray.append_assoc], ?_, (unhide HCH).trans' ((unhide HCB).trans' (unhide HD))⟩
                rw [← unhide HS, unhide HNX, unhide HLI1]
                simp [unhide HB2, unhide HB5]
              case measure => simp [intOf]; omega
            · have HN1 := hide (unhide HNU 1 hN)
              have HLI1 := hide (unhide HLI true hg 1 hN)
              have HG1 := HGO
              rw [hg] at HG1
              clear hN hg HGO HLI HNU
              go_wp2_with (first
                | (go_at_call 38; (with_reducible refine (unhide HN1 _).mono ?_); rintro e w5 ⟨rfl, rfl⟩)
                | (go_at_call 34; (with_reducible refine (unhide HG1 _).mono ?_); rintro e w6 ⟨rfl, rfl⟩)
                | (go_at_call 36; (with_reducible refine (unhide HNA _ (unhide HD)).mono ?_); rintro e w7 ⟨rfl, hc2⟩; have HN_ := hide ((unhide HD).trans' hc2); clear HD; have HD := HN_; clear HN_ hc2; clear p0 p1 p2; (obtain ⟨p0, p1, p2⟩ := unhide KSW _ (unhide HD)))
                | (go_at_call 39; (with_reducible refine (unhide HDA _).mono ?_); rintro e w8 ⟨rfl, hc2⟩; have HN_ := hide ((unhide HD).trans' hc2); clear HD; have HD := HN_; clear HN_ hc2; clear p0 p1 p2; (obtain ⟨p0, p1, p2⟩ := unhide KSW _ (unhide HD)))
                | (go_at_call 39; (with_reducible refine (unhide HDZ _).mono ?_); rintro e w9 ⟨rfl, hc2⟩; have HN_ := hide ((unhide HD).trans' hc2); clear HD; have HD := HN_; clear HN_ hc2; clear p0 p1 p2; (obtain ⟨p0, p1, p2⟩ := unhide KSW _ (unhide HD))))
              go_roundw
              case rel =>
                refine ⟨k + 1, ((((S ++ (⟨#[32, 32]⟩ ++ XO)) ++ (⟨#[32]⟩ ++ XA)) ++ (⟨#[32]⟩ ++ YZ)) ++ ⟨#[10]⟩), by go_num, by omega, by first | rfl | simp only [ByteArray.append_assoc], ?_, (unhide HCH).trans' ((unhide HCB).trans' (unhide HD))⟩
                rw [← unhide HS, unhide HNX, unhide HLI1]
                simp [unhide HB2, unhide HB4, unhide HB5, unhide HDZE]
              case measure => simp [intOf]; omega
      · have r2 := fun wx : World => run_string_add_sum (P := Tryd.prog) wx (S ++ (XK ++ ⟨#[58]⟩ ++ ⟨#[10]⟩)) (⟨#[32, 32]⟩ ++ XO) (by simp only [ByteArray.size_append]; omega)
        go_upto_region 9 with (first
          | (go_at_call 35; (with_reducible refine (unhide HTW _ (unhide HD)).mono ?_); rintro e w2 ⟨rfl, rfl⟩)
          | (go_at_call 36; (with_reducible refine (unhide HNK _ (unhide HD)).mono ?_); rintro e w2 ⟨rfl, hc2⟩; have HN_ := hide ((unhide HD).trans' hc2); clear HD; have HD := HN_; clear HN_ hc2; clear p0 p1 p2; (obtain ⟨p0, p1, p2⟩ := unhide KSW _ (unhide HD))))
        have HN_ : Hid (Chg (fun _ => False) wb w2.drew) := hide (Chg.drew (unhide HD))
        clear HD
        have HD := HN_
        clear HN_
        clear p0 p1 p2
        (obtain ⟨p0, p1, p2⟩ := unhide KSW _ (unhide HD))
        go_region_law (first
          | (go_simp; go_at_call 37; refine (unhide HNS _).mono ?_; rintro e w4 ⟨q, rfl, hcell, hc2⟩
             have HN_ := hide ((unhide HD).trans' hc2); clear HD; have HD := HN_; clear HN_ hc2; clear p0 p1 p2; (obtain ⟨p0, p1, p2⟩ := unhide KSW _ (unhide HD))))
        all_goals
          cases hg : goesB (o : Int) with
          | false =>
            rcases (show numsN (o : Int) = 0 ∨ numsN (o : Int) = 1 ∨ numsN (o : Int) = 2 by omega) with hN | hN | hN
            · have HN1 := hide (unhide HNU 0 hN)
              have HLI1 := hide (unhide HLI false hg 0 hN)
              have HG1 := HGO
              rw [hg] at HG1
              clear hN hg HGO HLI HNU
              go_wp2_with (first
                | (go_at_call 38; (with_reducible refine (unhide HN1 _).mono ?_); rintro e w5 ⟨rfl, rfl⟩)
                | (go_at_call 34; (with_reducible refine (unhide HG1 _).mono ?_); rintro e w6 ⟨rfl, rfl⟩)
                | (go_at_call 36; (with_reducible refine (unhide HNA _ (unhide HD)).mono ?_); rintro e w7 ⟨rfl, hc2⟩; have HN_ := hide ((unhide HD).trans' hc2); clear HD; have HD := HN_; clear HN_ hc2; clear p0 p1 p2; (obtain ⟨p0, p1, p2⟩ := unhide KSW _ (unhide HD)))
                | (go_at_call 39; (with_reducible refine (unhide HDA _).mono ?_); rintro e w8 ⟨rfl, hc2⟩; have HN_ := hide ((unhide HD).trans' hc2); clear HD; have HD := HN_; clear HN_ hc2; clear p0 p1 p2; (obtain ⟨p0, p1, p2⟩ := unhide KSW _ (unhide HD)))
                | (go_at_call 39; (with_reducible refine (unhide HDZ _).mono ?_); rintro e w9 ⟨rfl, hc2⟩; have HN_ := hide ((unhide HD).trans' hc2); clear HD; have HD := HN_; clear HN_ hc2; clear p0 p1 p2; (obtain ⟨p0, p1, p2⟩ := unhide KSW _ (unhide HD))))
              go_roundw
              case rel =>
                refine ⟨k + 1, ((S ++ (XK ++ ⟨#[58]⟩ ++ ⟨#[10]⟩) ++ (⟨#[32, 32]⟩ ++ XO)) ++ ⟨#[10]⟩), by go_num, by omega, by first | rfl | simp only [ByteArray.append_assoc], ?_, (unhide HCH).trans' ((unhide HCB).trans' (unhide HD))⟩
                rw [← unhide HS, unhide HNX, unhide HLI1]
                simp [unhide HB1, unhide HB5]
              case measure => simp [intOf]; omega
            · have HN1 := hide (unhide HNU 1 hN)
              have HLI1 := hide (unhide HLI false hg 1 hN)
              have HG1 := HGO
              rw [hg] at HG1
              clear hN hg HGO HLI HNU
              go_wp2_with (first
                | (go_at_call 38; (with_reducible refine (unhide HN1 _).mono ?_); rintro e w5 ⟨rfl, rfl⟩)
                | (go_at_call 34; (with_reducible refine (unhide HG1 _).mono ?_); rintro e w6 ⟨rfl, rfl⟩)
                | (go_at_call 36; (with_reducible refine (unhide HNA _ (unhide HD)).mono ?_); rintro e w7 ⟨rfl, hc2⟩; have HN_ := hide ((unhide HD).trans' hc2); clear HD; have HD := HN_; clear HN_ hc2; clear p0 p1 p2; (obtain ⟨p0, p1, p2⟩ := unhide KSW _ (unhide HD)))
                | (go_at_call 39; (with_reducible refine (unhide HDA _).mono ?_); rintro e w8 ⟨rfl, hc2⟩; have HN_ := hide ((unhide HD).trans' hc2); clear HD; have HD := HN_; clear HN_ hc2; clear p0 p1 p2; (obtain ⟨p0, p1, p2⟩ := unhide KSW _ (unhide HD)))
                | (go_at_call 39; (with_reducible refine (unhide HDZ _).mono ?_); rintro e w9 ⟨rfl, hc2⟩; have HN_ := hide ((unhide HD).trans' hc2); clear HD; have HD := HN_; clear HN_ hc2; clear p0 p1 p2; (obtain ⟨p0, p1, p2⟩ := unhide KSW _ (unhide HD))))
              go_roundw
              case rel =>
                refine ⟨k + 1, (((S ++ (XK ++ ⟨#[58]⟩ ++ ⟨#[10]⟩) ++ (⟨#[32, 32]⟩ ++ XO)) ++ (⟨#[32]⟩ ++ YA)) ++ ⟨#[10]⟩), by go_num, by omega, by first | rfl | simp only [ByteArray.append_assoc], ?_, (unhide HCH).trans' ((unhide HCB).trans' (unhide HD))⟩
                rw [← unhide HS, unhide HNX, unhide HLI1]
                simp [unhide HB1, unhide HB3, unhide HB5, unhide HDAE]
              case measure => simp [intOf]; omega
            · have HN1 := hide (unhide HNU 2 hN)
              have HLI1 := hide (unhide HLI false hg 2 hN)
              have HG1 := HGO
              rw [hg] at HG1
              clear hN hg HGO HLI HNU
              go_wp2_with (first
                | (go_at_call 38; (with_reducible refine (unhide HN1 _).mono ?_); rintro e w5 ⟨rfl, rfl⟩)
                | (go_at_call 34; (with_reducible refine (unhide HG1 _).mono ?_); rintro e w6 ⟨rfl, rfl⟩)
                | (go_at_call 36; (with_reducible refine (unhide HNA _ (unhide HD)).mono ?_); rintro e w7 ⟨rfl, hc2⟩; have HN_ := hide ((unhide HD).trans' hc2); clear HD; have HD := HN_; clear HN_ hc2; clear p0 p1 p2; (obtain ⟨p0, p1, p2⟩ := unhide KSW _ (unhide HD)))
                | (go_at_call 39; (with_reducible refine (unhide HDA _).mono ?_); rintro e w8 ⟨rfl, hc2⟩; have HN_ := hide ((unhide HD).trans' hc2); clear HD; have HD := HN_; clear HN_ hc2; clear p0 p1 p2; (obtain ⟨p0, p1, p2⟩ := unhide KSW _ (unhide HD)))
                | (go_at_call 39; (with_reducible refine (unhide HDZ _).mono ?_); rintro e w9 ⟨rfl, hc2⟩; have HN_ := hide ((unhide HD).trans' hc2); clear HD; have HD := HN_; clear HN_ hc2; clear p0 p1 p2; (obtain ⟨p0, p1, p2⟩ := unhide KSW _ (unhide HD))))
              go_roundw
              case rel =>
                refine ⟨k + 1, ((((S ++ (XK ++ ⟨#[58]⟩ ++ ⟨#[10]⟩) ++ (⟨#[32, 32]⟩ ++ XO)) ++ (⟨#[32]⟩ ++ YA)) ++ (⟨#[32]⟩ ++ YZ)) ++ ⟨#[10]⟩), by go_num, by omega, by first | rfl | simp only [ByteArray.append_assoc], ?_, (unhide HCH).trans' ((unhide HCB).trans' (unhide HD))⟩
                rw [← unhide HS, unhide HNX, unhide HLI1]
                simp [unhide HB1, unhide HB3, unhide HB4, unhide HB5, unhide HDAE, unhide HDZE]
              case measure => simp [intOf]; omega
          | true =>
            have hng1 := hng hg
            rcases (show numsN (o : Int) = 0 ∨ numsN (o : Int) = 1 by omega) with hN | hN
            · have HN1 := hide (unhide HNU 0 hN)
              have HLI1 := hide (unhide HLI true hg 0 hN)
              have HG1 := HGO
              rw [hg] at HG1
              clear hN hg HGO HLI HNU
              go_wp2_with (first
                | (go_at_call 38; (with_reducible refine (unhide HN1 _).mono ?_); rintro e w5 ⟨rfl, rfl⟩)
                | (go_at_call 34; (with_reducible refine (unhide HG1 _).mono ?_); rintro e w6 ⟨rfl, rfl⟩)
                | (go_at_call 36; (with_reducible refine (unhide HNA _ (unhide HD)).mono ?_); rintro e w7 ⟨rfl, hc2⟩; have HN_ := hide ((unhide HD).trans' hc2); clear HD; have HD := HN_; clear HN_ hc2; clear p0 p1 p2; (obtain ⟨p0, p1, p2⟩ := unhide KSW _ (unhide HD)))
                | (go_at_call 39; (with_reducible refine (unhide HDA _).mono ?_); rintro e w8 ⟨rfl, hc2⟩; have HN_ := hide ((unhide HD).trans' hc2); clear HD; have HD := HN_; clear HN_ hc2; clear p0 p1 p2; (obtain ⟨p0, p1, p2⟩ := unhide KSW _ (unhide HD)))
                | (go_at_call 39; (with_reducible refine (unhide HDZ _).mono ?_); rintro e w9 ⟨rfl, hc2⟩; have HN_ := hide ((unhide HD).trans' hc2); clear HD; have HD := HN_; clear HN_ hc2; clear p0 p1 p2; (obtain ⟨p0, p1, p2⟩ := unhide KSW _ (unhide HD))))
              go_roundw
              case rel =>
                refine ⟨k + 1, (((S ++ (XK ++ ⟨#[58]⟩ ++ ⟨#[10]⟩) ++ (⟨#[32, 32]⟩ ++ XO)) ++ (⟨#[32]⟩ ++ XA)) ++ ⟨#[10]⟩), by go_num, by omega, by first | rfl | simp only [ByteArray.append_assoc], ?_, (unhide HCH).trans' ((unhide HCB).trans' (unhide HD))⟩
                rw [← unhide HS, unhide HNX, unhide HLI1]
                simp [unhide HB1, unhide HB2, unhide HB5]
              case measure => simp [intOf]; omega
            · have HN1 := hide (unhide HNU 1 hN)
              have HLI1 := hide (unhide HLI true hg 1 hN)
              have HG1 := HGO
              rw [hg] at HG1
              clear hN hg HGO HLI HNU
              go_wp2_with (first
                | (go_at_call 38; (with_reducible refine (unhide HN1 _).mono ?_); rintro e w5 ⟨rfl, rfl⟩)
                | (go_at_call 34; (with_reducible refine (unhide HG1 _).mono ?_); rintro e w6 ⟨rfl, rfl⟩)
                | (go_at_call 36; (with_reducible refine (unhide HNA _ (unhide HD)).mono ?_); rintro e w7 ⟨rfl, hc2⟩; have HN_ := hide ((unhide HD).trans' hc2); clear HD; have HD := HN_; clear HN_ hc2; clear p0 p1 p2; (obtain ⟨p0, p1, p2⟩ := unhide KSW _ (unhide HD)))
                | (go_at_call 39; (with_reducible refine (unhide HDA _).mono ?_); rintro e w8 ⟨rfl, hc2⟩; have HN_ := hide ((unhide HD).trans' hc2); clear HD; have HD := HN_; clear HN_ hc2; clear p0 p1 p2; (obtain ⟨p0, p1, p2⟩ := unhide KSW _ (unhide HD)))
                | (go_at_call 39; (with_reducible refine (unhide HDZ _).mono ?_); rintro e w9 ⟨rfl, hc2⟩; have HN_ := hide ((unhide HD).trans' hc2); clear HD; have HD := HN_; clear HN_ hc2; clear p0 p1 p2; (obtain ⟨p0, p1, p2⟩ := unhide KSW _ (unhide HD))))
              go_roundw
              case rel =>
                refine ⟨k + 1, ((((S ++ (XK ++ ⟨#[58]⟩ ++ ⟨#[10]⟩) ++ (⟨#[32, 32]⟩ ++ XO)) ++ (⟨#[32]⟩ ++ XA)) ++ (⟨#[32]⟩ ++ YZ)) ++ ⟨#[10]⟩), by go_num, by omega, by first | rfl | simp only [ByteArray.append_assoc], ?_, (unhide HCH).trans' ((unhide HCB).trans' (unhide HD))⟩
                rw [← unhide HS, unhide HNX, unhide HLI1]
                simp [unhide HB1, unhide HB2, unhide HB4, unhide HB5, unhide HDZE]
              case measure => simp [intOf]; omega
    · obtain rfl : k = l.length := by omega
      have hki : ¬ (l.length : Int) < (l.length : Int) := by omega
      have h0 := (unhide HTK) l.length (Nat.le_refl _)
      rw [h0, List.append_nil] at hS
      have HS1 := hide (show S = ⟨SH.toArray⟩ by
        rw [← hS])
      have HCH := hide hch
      clear hS hch h0
      go_wp2_with fail
      go_ret
      exact ⟨retv (congrArg Value.string (unhide HS1)), unhide HCH⟩
end Go.Proofs.YtgonllogaiiicaaDoor
