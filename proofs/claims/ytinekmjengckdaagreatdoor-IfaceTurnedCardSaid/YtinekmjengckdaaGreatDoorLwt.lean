/-
  Layer 23: the law: bytes of which one is another one are none.
-/
import Derived.Test.YtinekmjengckdaaGreatDoorM36
import Derived.Test.YtinekmjengckdaaGreatDoorM37
import Derived.Test.YtinekmjengckdaaGreatDoorPlw
namespace Go.Proofs.YtinekmjengckdaaGreatDoor
open Go.RowKit
set_option maxHeartbeats 4000000
set_option maxRecDepth 100000
theorem xor_u8 (c d : UInt8) : bits .xor .u8 (c.toNat : Int) (d.toNat : Int) = ((c ^^^ d).toNat : Int) := by
  rw [u8_xor_nat _ _ c.toNat_lt d.toNat_lt, UInt8.toNat_xor]
theorem cell_set_ne (w : World) (g k j : Nat) (v : Value) (h : ¬ k = j) : (w.setCell ⟨g, k, none⟩ v).cell? ⟨g, j, none⟩ = w.cell? ⟨g, j, none⟩ :=
  by
  refine World.cell?_setCell_other (a := ⟨g, k, none⟩) (b := ⟨g, j, none⟩) (w := w) (v := v) ?_
  intro e
  injection e with _ e
  exact h e
theorem bytes_got (w : World) (l : List UInt8) : (∀ j x, l[j]? = some x → (Lib.bytesWorld w 5 ⟨l.toArray⟩).cell? ⟨w.heap.size, j, none⟩ = some (.int .u8 (x.toNat : Int))) ∧ (∀ j, j < l.length → (Lib.bytesWorld w 5 ⟨l.toArray⟩).frozen? ⟨w.heap.size, j, none⟩ = false) ∧ Chg (fun _ => False) w (Lib.bytesWorld w 5 ⟨l.toArray⟩) ∧ (Lib.bytesWorld w 5 ⟨l.toArray⟩).heap.size = w.heap.size + 1 := by
  refine ⟨fun j x hx => ?_, fun j hj => ?_, ⟨rfl, rfl, rfl, by rw [Lib.bytesWorld_size]; omega, fun j hj _ => Lib.bytesWorld_at_old w 5 _ j hj⟩, Lib.bytesWorld_size w 5 _⟩
  · have hj := (List.getElem?_eq_some_iff.1 hx).1
    rw [Lib.bytesWorld_cell w 5 ⟨l.toArray⟩ j (by show j < l.toArray.size; simpa using hj)]
    have e : (ByteArray.data ⟨l.toArray⟩).toList = l := rfl
    rw [e, List.getD_eq_getElem?_getD, hx]
    rfl
  · simp only [World.frozen?, Lib.bytesWorld_at_new]
    have : j < (Lib.bytesCells w 5 ⟨l.toArray⟩).size := by
      simp [Lib.bytesCells]
      omega
    simp
    omega
theorem turned_law (i : Ifc) (vo vd vf vs : Value) (a b : Int) (T : Nat → Prop) (w : World) (h1 : RdIf T w i vo vd vf vs) (ha : 0 ≤ a ∧ a < 65536) (hbb : 0 ≤ b ∧ b < 256) (lay : Lay w) :
    Calls Tryz.prog 7 #[.agg #[.string i.name, vo, vd, vf, vs], .int .u16 a, .int .u8 b] w fun e w' => e = .returned (.bool true) ∧ Chg (fun _ => False) w w' := by
  obtain ⟨A1, a1, rfl⟩ := RdR.val h1.opens
  obtain ⟨A2, a2, rfl⟩ := RdR.val h1.datas
  obtain ⟨A3, a3, rfl⟩ := RdR.val h1.fixes
  obtain ⟨A4, a4, rfl⟩ := RdR.val h1.sigs
  have h0 : Chg (fun _ => False) w (w.alloc (.cells #[.string i.name, .slice A1 i.opens.length a1, .slice A2 i.datas.length a2, .slice A3 i.fixes.length a3, .slice A4 i.sigs.length a4] 27)) := (Chg.refl _ w).alloc _
  have hb1 : Blk (w.alloc (.cells #[.string i.name, .slice A1 i.opens.length a1, .slice A2 i.datas.length a2, .slice A3 i.fixes.length a3, .slice A4 i.sigs.length a4] 27)) w.heap.size 27 #[.string i.name, .slice A1 i.opens.length a1, .slice A2 i.datas.length a2, .slice A3 i.fixes.length a3, .slice A4 i.sigs.length a4] := Blk.new w _ _
  have KSW := hide (fun W' (hW : Chg (fun _ => False) (w.alloc (.cells #[.string i.name, .slice A1 i.opens.length a1, .slice A2 i.datas.length a2, .slice A3 i.fixes.length a3, .slice A4 i.sigs.length a4] 27)) W') => show W'.cell? ⟨w.heap.size, 0, none⟩ = some (.string i.name) ∧ W'.cell? ⟨w.heap.size, 1, none⟩ = some (.slice A1 i.opens.length a1) ∧ W'.cell? ⟨w.heap.size, 2, none⟩ = some (.slice A2 i.datas.length a2) ∧ W'.cell? ⟨w.heap.size, 3, none⟩ = some (.slice A3 i.fixes.length a3) ∧ W'.cell? ⟨w.heap.size, 4, none⟩ = some (.slice A4 i.sigs.length a4) from ⟨(hb1.chg hW id).cell 0, (hb1.chg hW id).cell 1, (hb1.chg hW id).cell 2, (hb1.chg hW id).cell 3, (hb1.chg hW id).cell 4⟩)
  have HA := hide (fun W (hW : Chg (fun _ => False) (w.alloc (.cells #[.string i.name, .slice A1 i.opens.length a1, .slice A2 i.datas.length a2, .slice A3 i.fixes.length a3, .slice A4 i.sigs.length a4] 27)) W) => awake_any W (lay.chg (h0.trans' hW) (fun _ _ => id)))
  have HW := hide (fun W (hW : Chg (fun _ => False) (w.alloc (.cells #[.string i.name, .slice A1 i.opens.length a1, .slice A2 i.datas.length a2, .slice A3 i.fixes.length a3, .slice A4 i.sigs.length a4] 27)) W) => few_if i _ _ _ _ T W (h1.chg (h0.trans' hW) (fun _ _ _ => id)))
  have HRI := hide (fun W (hW : Chg (fun _ => False) (w.alloc (.cells #[.string i.name, .slice A1 i.opens.length a1, .slice A2 i.datas.length a2, .slice A3 i.fixes.length a3, .slice A4 i.sigs.length a4] 27)) W) => h1.chg (h0.trans' hW) (fun _ _ _ => id))
  have HD := hide (Chg.refl (fun _ => False) (w.alloc (.cells #[.string i.name, .slice A1 i.opens.length a1, .slice A2 i.datas.length a2, .slice A3 i.fixes.length a3, .slice A4 i.sigs.length a4] 27)))
  (obtain ⟨q0, q1, q2, q3, q4⟩ := unhide KSW _ (unhide HD))
  have H0 := hide h0
  cases hb : ifcB ltS i
  · have HEN := hide (fun (hf : IfF i) W (hW : Chg (fun _ => False) (w.alloc (.cells #[.string i.name, .slice A1 i.opens.length a1, .slice A2 i.datas.length a2, .slice A3 i.fixes.length a3, .slice A4 i.sigs.length a4] 27)) W) => show Calls Tryz.prog 11 #[.agg #[.string i.name, .slice A1 i.opens.length a1, .slice A2 i.datas.length a2, .slice A3 i.fixes.length a3, .slice A4 i.sigs.length a4]] W fun e w' => e = .returned (.tuple #[.string ⟨#[]⟩, .int .i64 230]) ∧ Chg (fun _ => False) W w' from by
      have hr := unhide HRI _ hW
      have := encode_any i _ _ _ _ _ W hr (hf.sz hr) (lay.chg (h0.trans' hW) (fun _ _ => id))
      unfold encS ifE at this
      rw [hb] at this
      exact this)
    clear h1 lay h0 hb1 hb HRI
    go_enter Tryz.func7, Tryz.ntmps7
    go_wp2_with (first
      | (go_at_call 9; (with_reducible refine (unhide HA _ (unhide HD)).mono ?_); rintro e w2 ⟨rfl, hc2⟩; have HN_ := hide ((unhide HD).trans' hc2); clear HD; have HD := HN_; clear HN_ hc2; clear q0 q1 q2 q3 q4; (obtain ⟨q0, q1, q2, q3, q4⟩ := unhide KSW _ (unhide HD)))
      | (go_at_call 10; (with_reducible refine (unhide HW _ (unhide HD)).mono ?_); rintro e w3 ⟨rb, rfl, hb, hc2⟩; have HB := hide hb; clear hb; have HN_ := hide ((unhide HD).trans' hc2); clear HD; have HD := HN_; clear HN_ hc2; clear q0 q1 q2 q3 q4; (obtain ⟨q0, q1, q2, q3, q4⟩ := unhide KSW _ (unhide HD)))
      | (go_at_call 11; (with_reducible refine (unhide HEN (unhide HB (nF (by assumption))) _ (unhide HD)).mono ?_); rintro e w4 ⟨rfl, hc2⟩; have HN_ := hide ((unhide HD).trans' hc2); clear HD; have HD := HN_; clear HN_ hc2; clear q0 q1 q2 q3 q4; (obtain ⟨q0, q1, q2, q3, q4⟩ := unhide KSW _ (unhide HD))))
    all_goals (go_ret; exact ⟨rfl, (unhide H0).trans' (unhide HD)⟩)
  · have HEN := hide (fun (hf : IfF i) W (hW : Chg (fun _ => False) (w.alloc (.cells #[.string i.name, .slice A1 i.opens.length a1, .slice A2 i.datas.length a2, .slice A3 i.fixes.length a3, .slice A4 i.sigs.length a4] 27)) W) => show Calls Tryz.prog 11 #[.agg #[.string i.name, .slice A1 i.opens.length a1, .slice A2 i.datas.length a2, .slice A3 i.fixes.length a3, .slice A4 i.sigs.length a4]] W fun e w' => e = .returned (.tuple #[.string ⟨(encP i).toArray⟩, .int .i64 0]) ∧ Chg (fun _ => False) W w' from by
      have hr := unhide HRI _ hW
      have := encode_any i _ _ _ _ _ W hr (hf.sz hr) (lay.chg (h0.trans' hW) (fun _ _ => id))
      unfold encS ifE at this
      rw [hb] at this
      exact this)
    by_cases hb0 : b = 0
    · subst hb0
      clear h1 lay h0 hb1 hb HRI
      go_enter Tryz.func7, Tryz.ntmps7
      go_wp2_with (first
        | (go_at_call 9; (with_reducible refine (unhide HA _ (unhide HD)).mono ?_); rintro e w2 ⟨rfl, hc2⟩; have HN_ := hide ((unhide HD).trans' hc2); clear HD; have HD := HN_; clear HN_ hc2; clear q0 q1 q2 q3 q4; (obtain ⟨q0, q1, q2, q3, q4⟩ := unhide KSW _ (unhide HD)))
        | (go_at_call 10; (with_reducible refine (unhide HW _ (unhide HD)).mono ?_); rintro e w3 ⟨rb, rfl, hb, hc2⟩; have HB := hide hb; clear hb; have HN_ := hide ((unhide HD).trans' hc2); clear HD; have HD := HN_; clear HN_ hc2; clear q0 q1 q2 q3 q4; (obtain ⟨q0, q1, q2, q3, q4⟩ := unhide KSW _ (unhide HD)))
        | (go_at_call 11; (with_reducible refine (unhide HEN (unhide HB (nF (by assumption))) _ (unhide HD)).mono ?_); rintro e w4 ⟨rfl, hc2⟩; have HN_ := hide ((unhide HD).trans' hc2); clear HD; have HD := HN_; clear HN_ hc2; clear q0 q1 q2 q3 q4; (obtain ⟨q0, q1, q2, q3, q4⟩ := unhide KSW _ (unhide HD))))
      all_goals (go_ret; exact ⟨rfl, (unhide H0).trans' (unhide HD)⟩)
    obtain ⟨d, rfl, hd0⟩ : ∃ d : UInt8, b = (d.toNat : Int) ∧ d ≠ 0 := by
      refine ⟨UInt8.ofNat b.toNat, ?_, fun e => ?_⟩
      · rw [UInt8.toNat_ofNat', Nat.mod_eq_of_lt (by omega)]
        omega
      · have := congrArg UInt8.toNat e
        rw [UInt8.toNat_ofNat', Nat.mod_eq_of_lt (by omega)] at this
        have h2 : (0 : UInt8).toNat = 0 := rfl
        omega
    have HDN := hide (fun (s : ByteArray) (hn : decG (ifcB ltS) s.data.toList = none) (hs : s.size ≤ 800000000) W (hW : Chg (fun _ => False) w W) => show Calls Tryz.prog 20 #[.string s] W fun e w' => ∃ B1 b1 B2 b2 B3 b3 B4 b4, e = .returned (.tuple #[.agg #[.string ⟨#[]⟩, .slice B1 0 b1, .slice B2 0 b2, .slice B3 0 b3, .slice B4 0 b4], .int .i64 231]) ∧ Chg (fun _ => False) W w' from
      (decode_any s W hs (lay.chg hW (fun _ _ => id))).mono fun e w' h => by
        obtain ⟨j, vo, vd, vf, vs, g1, g2, g3, g4, _⟩ := h
        rw [hn] at g1 g3
        obtain rfl : j = ⟨⟨#[]⟩, [], [], [], []⟩ := g3
        obtain ⟨A1, a1, hv1⟩ := RdR.val g4.opens
        obtain ⟨A2, a2, hv2⟩ := RdR.val g4.datas
        obtain ⟨A3, a3, hv3⟩ := RdR.val g4.fixes
        obtain ⟨A4, a4, hv4⟩ := RdR.val g4.sigs
        subst hv1 hv2 hv3 hv4
        exact ⟨A1, a1, A2, a2, A3, a3, A4, a4, g1, g2⟩)
    have HFIT := hide (fun (hf : IfF i) => show IfcFit i ∧ (encP i).length ≤ 700000004 from ⟨ifc_fit hb (hf.sz h1).short, by have := hf.len7; rw [enc_len]; omega⟩)
    clear h1 lay h0 hb1 hb HRI
    go_enter Tryz.func7, Tryz.ntmps7
    go_wp2_with (first
      | (go_at_call 9; (with_reducible refine (unhide HA _ (unhide HD)).mono ?_); rintro e w2 ⟨rfl, hc2⟩; have HN_ := hide ((unhide HD).trans' hc2); clear HD; have HD := HN_; clear HN_ hc2; clear q0 q1 q2 q3 q4; (obtain ⟨q0, q1, q2, q3, q4⟩ := unhide KSW _ (unhide HD)))
      | (go_at_call 10; (with_reducible refine (unhide HW _ (unhide HD)).mono ?_); rintro e w3 ⟨rb, rfl, hb, hc2⟩; have HB := hide hb; clear hb; have HN_ := hide ((unhide HD).trans' hc2); clear HD; have HD := HN_; clear HN_ hc2; clear q0 q1 q2 q3 q4; (obtain ⟨q0, q1, q2, q3, q4⟩ := unhide KSW _ (unhide HD)))
      | (go_at_call 11; (with_reducible refine (unhide HEN (unhide HB (nF (by assumption))) _ (unhide HD)).mono ?_); rintro e w4 ⟨rfl, hc2⟩; have HN_ := hide ((unhide HD).trans' hc2); clear HD; have HD := HN_; clear HN_ hc2; clear q0 q1 q2 q3 q4; (obtain ⟨q0, q1, q2, q3, q4⟩ := unhide KSW _ (unhide HD))))
    · go_ret
      exact ⟨rfl, (unhide H0).trans' (unhide HD)⟩
    obtain ⟨hfit, hlen7⟩ := unhide HFIT (unhide HB (nF (by assumption)))
    have HFT := hide hfit
    clear hfit HFIT HB HEN HW HA
    have hN0 : 0 < (encP i).length := by rw [enc_len]; omega
    obtain ⟨k, hk, hkl⟩ : ∃ k : Nat, a % ((encP i).length : Int) = (k : Int) ∧ k < (encP i).length := by
      refine ⟨(a % ((encP i).length : Int)).toNat, ?_, ?_⟩
      · have := Int.emod_nonneg a (b := ((encP i).length : Int)) (by omega)
        omega
      · have := Int.emod_lt_of_pos a (b := ((encP i).length : Int)) (by omega)
        have := Int.emod_nonneg a (b := ((encP i).length : Int)) (by omega)
        omega
    generalize a % ((encP i).length : Int) = kk at *
    subst hk
    obtain ⟨c, hc⟩ : ∃ c : UInt8, (encP i)[k]? = some c := ⟨_, List.getElem?_eq_getElem hkl⟩
    have qc := fun (w : World) (s : ByteArray) => Lib.run_convert_string_bytes (P := Tryz.prog) w 9 46 5 s Tryz.underlying9 Tryz.underlying46 Tryz.underlying5
    rw [qc]
    go_upto_region 8 with fail
    obtain ⟨hbc, hbf, hcw, hgz⟩ := bytes_got w4 (encP i)
    generalize Lib.bytesWorld w4 5 ⟨(encP i).toArray⟩ = WB at *
    have hcell := hbc k c hc
    have hfr := hbf k hkl
    have hki : (k : Int) < ((encP i).length : Int) := by omega
    have HBC := hide hbc
    have HCW := hide hcw
    have HGZ := hide hgz
    clear hbc hbf hcw hgz
    go_upto_region 9 with fail
    have hx8 := xor_u8 c d
    rw [hx8]
    have HE8 := hide (enc_set (ok := ifcB ltS) hc hd0)
    have hz8 : ((encP i).set k (c ^^^ d)).length = (encP i).length := List.length_set
    have hw8 : Chg (fun _ => False) w (WB.setCell ⟨w4.heap.size, k, none⟩ (.int .u8 ((c ^^^ d).toNat : Int))) := by
      refine (((unhide H0).trans' (unhide HD)).trans' (unhide HCW)).trans ((Chg.refl (· = w4.heap.size) WB).setCell (fun _ => rfl) _) (fun j hj e => ?_)
      have := (unhide H0).size
      have := (unhide HD).size
      have e : j = w4.heap.size := e
      have h5 : w.heap.size < ((w.alloc (.cells #[.string i.name, .slice A1 i.opens.length a1, .slice A2 i.datas.length a2, .slice A3 i.fixes.length a3, .slice A4 i.sigs.length a4] 27))).heap.size := by rw [size_alloc]; omega
      omega
    have hqs := run_str_of_bytes (P := Tryz.prog) (WB.setCell ⟨w4.heap.size, k, none⟩ (.int .u8 ((c ^^^ d).toNat : Int))) 46 9 5 ⟨w4.heap.size, 0, none⟩ (grownCap w4 (encP i).length 0 5) (encP i).length ((encP i).set k (c ^^^ d)) hz8.symm Tryz.underlying46 Tryz.underlying5 Tryz.underlying9 (fun j v hv => by
      rw [List.getElem?_map] at hv
      obtain ⟨x, hx, rfl⟩ := Option.map_eq_some_iff.1 hv
      have ea : (⟨w4.heap.size, 0, none⟩ : Addr).add j = ⟨w4.heap.size, j, none⟩ := by simp [Addr.add]; exact fun h => h.symm
      rw [ea]
      by_cases hjk : k = j
      · subst hjk
        rw [List.getElem?_set_self hkl] at hx
        injection hx with hx
        subst hx
        exact World.cell?_setCell_same' _ _ _ (by rw [hcell]; rfl)
      · rw [List.getElem?_set_ne hjk] at hx
        rw [cell_set_ne _ _ _ _ _ hjk]
        exact unhide HBC j x hx)
    have HW8 := hide hw8
    generalize WB.setCell ⟨w4.heap.size, k, none⟩ (.int .u8 ((c ^^^ d).toNat : Int)) = W8 at *
    clear hw8 hcell hfr HBC HCW HGZ HD H0 KSW hx8 q0 q1 q2 q3 q4
    have HZ1 := hide (show (ByteArray.mk ((encP i).set k (c ^^^ d)).toArray).size ≤ 800000000 from by
      show ((encP i).set k (c ^^^ d)).toArray.size ≤ _
      rw [List.size_toArray, hz8]
      omega)
    go_upto_region 10 with (go_at_call 20; (with_reducible refine (unhide HDN _ (unhide HE8) (unhide HZ1) _ (unhide HW8)).mono ?_); rintro e w5 ⟨B1, b1, B2, b2, B3, b3, B4, b4, rfl, hc2⟩; have HC5 := hide ((unhide HW8).trans' hc2); clear hc2)
    have hc6 : Chg (fun _ => False) w (w5.alloc (.cells #[.string ⟨#[]⟩, .slice B1 0 b1, .slice B2 0 b2, .slice B3 0 b3, .slice B4 0 b4] 27)) := (unhide HC5).alloc _
    generalize w5.alloc (.cells #[.string ⟨#[]⟩, .slice B1 0 b1, .slice B2 0 b2, .slice B3 0 b3, .slice B4 0 b4] 27) = w6 at *
    have HC6 := hide hc6
    have hx10 : ((⟨(encP i).toArray⟩ : ByteArray).extract 0 k).data.toList = (encP i).take k := by simp
    have HE10 := hide (show decG (ifcB ltS) ((⟨(encP i).toArray⟩ : ByteArray).extract 0 k).data.toList = none by rw [hx10]; exact enc_take (unhide HFT) hkl)
    have HZ10 := hide (show ((⟨(encP i).toArray⟩ : ByteArray).extract 0 k).size ≤ 800000000 from by
      have e := congrArg List.length hx10
      rw [List.length_take] at e
      have e2 : ((⟨(encP i).toArray⟩ : ByteArray).extract 0 k).data.toList.length = ((⟨(encP i).toArray⟩ : ByteArray).extract 0 k).size := toList_size _
      omega)
    clear hc6 hx10 HE8 HZ1 HW8 HC5 hqs
    go_upto_region 11 with (go_at_call 20; (with_reducible refine (unhide HDN _ (unhide HE10) (unhide HZ10) _ (unhide HC6)).mono ?_); rintro e w7 ⟨D1, d1, D2, d2, D3, d3, D4, d4, rfl, hc2⟩; have HC7 := hide ((unhide HC6).trans' hc2); clear hc2)
    have hc8 : Chg (fun _ => False) w (w7.alloc (.cells #[.string ⟨#[]⟩, .slice D1 0 d1, .slice D2 0 d2, .slice D3 0 d3, .slice D4 0 d4] 27)) := (unhide HC7).alloc _
    generalize w7.alloc (.cells #[.string ⟨#[]⟩, .slice D1 0 d1, .slice D2 0 d2, .slice D3 0 d3, .slice D4 0 d4] 27) = w8 at *
    have HC8 := hide (hc8.alloc (.cells #[.int .u8 (d.toNat : Int)] 5))
    clear hc8 HC7 HC6 HE10 HZ10
    have hq1 := fun (c : Nat) => run_str_of_bytes (P := Tryz.prog) (w8.alloc (.cells #[.int .u8 (d.toNat : Int)] 5)) 46 9 5 ⟨w8.heap.size, 0, none⟩ c 1 [d] rfl Tryz.underlying46 Tryz.underlying5 Tryz.underlying9 (fun j v hv => by
      obtain ⟨hj, _⟩ := List.getElem?_eq_some_iff.1 hv
      have hj0 : j = 0 := by simp at hj; omega
      subst hj0
      injection hv with hv
      subst hv
      exact (Blk.new w8 5 #[.int .u8 (d.toNat : Int)]).cell 0)
    have hx11 : ((⟨(encP i).toArray⟩ : ByteArray) ++ (⟨#[d]⟩ : ByteArray)).data.toList = encP i ++ [d] := by simp
    have HE11 := hide (show decG (ifcB ltS) ((⟨(encP i).toArray⟩ : ByteArray) ++ (⟨#[d]⟩ : ByteArray)).data.toList = none by rw [hx11]; exact enc_more (unhide HFT) d)
    have HZ11 := hide (show ((⟨(encP i).toArray⟩ : ByteArray) ++ (⟨#[d]⟩ : ByteArray)).size ≤ 800000000 from by
      have e := congrArg List.length hx11
      rw [List.length_append] at e
      have e2 : ((⟨(encP i).toArray⟩ : ByteArray) ++ (⟨#[d]⟩ : ByteArray)).data.toList.length = ((⟨(encP i).toArray⟩ : ByteArray) ++ (⟨#[d]⟩ : ByteArray)).size := toList_size _
      have e3 : [d].length = 1 := rfl
      omega)
    clear hx11
    go_upto_region 12 with (go_at_call 20; (with_reducible refine (unhide HDN _ (unhide HE11) (unhide HZ11) _ (unhide HC8)).mono ?_); rintro e w9 ⟨D1, d1, D2, d2, D3, d3, D4, d4, rfl, hc2⟩; have HC9 := hide ((unhide HC8).trans' hc2); clear hc2)
    have HC10 := hide ((unhide HC9).alloc (.cells #[.string ⟨#[]⟩, .slice D1 0 d1, .slice D2 0 d2, .slice D3 0 d3, .slice D4 0 d4] 27))
    go_wp2_with fail
    go_ret
    exact ⟨rfl, unhide HC10⟩
end Go.Proofs.YtinekmjengckdaaGreatDoor
