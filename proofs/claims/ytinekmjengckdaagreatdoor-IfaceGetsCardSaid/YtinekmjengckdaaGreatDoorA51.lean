/-
  Layer 23, the document's side: an interface's bytes, but for its sum. Layer 23, the document's side: an interface's bytes.
-/
import Derived.Test.YtinekmjengckdaaGreatDoorA43
import Derived.Test.YtinekmjengckdaaGreatDoorA28
import Derived.Deep.RegionHeld3
namespace Go.Proofs.YtinekmjengckdaaGreatDoor
open Go.RowKit
set_option maxHeartbeats 8000000
set_option maxRecDepth 100000
theorem sz_low (m n : Nat) : (⟨(low m n).toArray⟩ : ByteArray).size = m := by show (low m n).toArray.size = m; rw [List.size_toArray, low_len]
theorem sz_text (s : ByteArray) : (⟨(textP s).toArray⟩ : ByteArray).size = 2 + s.size := by show (textP s).toArray.size = _; rw [List.size_toArray, text_plen]
theorem sz_mk (l : List UInt8) : (⟨l.toArray⟩ : ByteArray).size = l.length := by show l.toArray.size = _; rw [List.size_toArray]
theorem typ_le {t : List Nd} (h : TypFit t) : (typP t).length ≤ 300000000 := by
  have h1 := row_le (f := nodeP) (l := t) 65544 4000 h.1 (fun n hn => by
    rcases h.2 n hn with ⟨_, ht, _⟩ | ⟨_, _, _, _, ht⟩
    · exact node_le (m := 65536) (by rw [ht]; decide)
    · exact node_le (m := 65536) (by omega))
  have e : typP t = rowP nodeP t := rfl
  rw [e]
  omega
section
variable {α β : Type} {f : α → List UInt8} {g : β → List UInt8} {h : List UInt8} {L : List α} {k : Nat} {x : α}
theorem nest_start (hd : List UInt8) (l : List β) : flatTo f h L k ++ (⟨hd.toArray⟩ : ByteArray) = flatTo g ((h ++ (L.take k).flatMap f) ++ hd) l 0 := by
  unfold flatTo
  rw [str_cat]
  simp
theorem nest_end (hx : L[k]? = some x) (hd : List UInt8) (l : List β) (hfx : f x = hd ++ l.flatMap g) : flatTo g ((h ++ (L.take k).flatMap f) ++ hd) l l.length = flatTo f h L (k + 1) := by
  rw [flatTo_all, flatTo_next f h hx, hfx]
  unfold flatTo
  rw [str_cat, List.append_assoc]
theorem nest_size (hx : L[k]? = some x) (hd : List UInt8) (l : List β) (hfx : f x = hd ++ l.flatMap g) (j : Nat) : (flatTo g ((h ++ (L.take k).flatMap f) ++ hd) l j).size ≤ (flatTo f h L (k + 1)).size := by
  rw [← nest_end hx hd l hfx, flatTo_all, sz_mk]
  exact flatTo_size _ _ _ _
end
def hdA (i : Ifc) : List UInt8 := magicB ++ textP i.name ++ low 2 i.opens.length
def hdB (i : Ifc) : List UInt8 := (hdA i ++ i.opens.flatMap opnP) ++ low 2 i.datas.length
def hdC (i : Ifc) : List UInt8 := (hdB i ++ i.datas.flatMap dtP) ++ low 2 i.fixes.length
def hdD (i : Ifc) : List UInt8 := (hdC i ++ i.fixes.flatMap fxP) ++ low 2 i.sigs.length
theorem hd_all (i : Ifc) : hdD i ++ i.sigs.flatMap sgP = allP i := by
  unfold hdD hdC hdB hdA allP rowP
  simp only [List.append_assoc]
theorem hd_le (i : Ifc) : (hdA i ++ i.opens.flatMap opnP).length ≤ (allP i).length ∧ (hdB i ++ i.datas.flatMap dtP).length ≤ (allP i).length ∧ (hdC i ++ i.fixes.flatMap fxP).length ≤ (allP i).length ∧ (hdD i ++ i.sigs.flatMap sgP).length ≤ (allP i).length := by
  rw [← hd_all]
  unfold hdD hdC hdB
  simp only [List.length_append]
  omega
theorem row_next {α : Type} (f : α → List UInt8) (h : List UInt8) (l : List α) (n : Nat) {β : Type} (g : β → List UInt8) (m : List β) : flatTo f h l l.length ++ (⟨(low 2 n).toArray⟩ : ByteArray) = flatTo g ((h ++ l.flatMap f) ++ low 2 n) m 0 := by
  rw [flatTo_all, str_cat]
  simp [flatTo]
theorem opnP_str (x : Opn) : (⟨(textP x.name).toArray⟩ : ByteArray) ++ (⟨(low 4 x.digest.toNat).toArray⟩ : ByteArray) = ⟨(opnP x).toArray⟩ := by
  rw [str_cat]
  rfl
theorem dtP_hd (d : Dt) : dtP d = (textP d.name ++ low 1 d.params.toNat ++ low 2 d.cons.length) ++ d.cons.flatMap ctP := by
  unfold dtP rowP
  simp only [List.append_assoc]
theorem ctP_hd (c : Ct) : ctP c = (textP c.name ++ low 2 c.args.length) ++ c.args.flatMap typP := by
  unfold ctP rowP
  simp only [List.append_assoc]
theorem dtP_str (d : Dt) : (⟨(textP d.name).toArray⟩ : ByteArray) ++ (⟨(low 1 d.params.toNat).toArray⟩ : ByteArray) ++ (⟨(low 2 d.cons.length).toArray⟩ : ByteArray) = ⟨(textP d.name ++ low 1 d.params.toNat ++ low 2 d.cons.length).toArray⟩ := by rw [str_cat, str_cat]
theorem ctP_str (c : Ct) : (⟨(textP c.name).toArray⟩ : ByteArray) ++ (⟨(low 2 c.args.length).toArray⟩ : ByteArray) = ⟨(textP c.name ++ low 2 c.args.length).toArray⟩ := by rw [str_cat]
theorem fxP_str (f : Fx) : (⟨(textP f.op).toArray⟩ : ByteArray) ++ (⟨(low 1 f.level.toNat).toArray⟩ : ByteArray) ++ (⟨(low 1 (f.side + 1).toNat).toArray⟩ : ByteArray) = ⟨(fxP f).toArray⟩ := by
  rw [str_cat, str_cat, List.append_assoc]
  rfl
theorem sgP_str (s : Sg) : (⟨(textP s.name).toArray⟩ : ByteArray) ++ (⟨(typP s.type).toArray⟩ : ByteArray) = ⟨(sgP s).toArray⟩ := by
  rw [str_cat]
  rfl
theorem hdA_str (i : Ifc) : (⟨#[84, 82, 71, 73]⟩ : ByteArray) ++ (⟨(textP i.name).toArray⟩ : ByteArray) ++ (⟨(low 2 i.opens.length).toArray⟩ : ByteArray) = flatTo opnP (hdA i) i.opens 0 := by
  have e : (⟨#[84, 82, 71, 73]⟩ : ByteArray) = ⟨magicB.toArray⟩ := rfl
  rw [e, str_cat, str_cat]
  simp [flatTo, hdA]
theorem refAll_any (i : Ifc) (vo vd vf vs : Value) (T : Nat → Prop) (w : World) (hr : RdIf T w i vo vd vf vs) (hf : IfcFit i) (hl : (allP i).length ≤ 900000000) :
    Calls Tryz.prog 19 #[.agg #[.string i.name, vo, vd, vf, vs]] w fun e w' => e = .returned (.string ⟨(allP i).toArray⟩) ∧ Chg (fun _ => False) w w' := by
  obtain ⟨A1, c1, rfl⟩ := RdR.val hr.opens
  obtain ⟨A2, c2, rfl⟩ := RdR.val hr.datas
  obtain ⟨A3, c3, rfl⟩ := RdR.val hr.fixes
  obtain ⟨A4, c4, rfl⟩ := RdR.val hr.sigs
  have h0 := (Chg.refl (fun _ => False) w).alloc (.cells #[.string i.name, .slice A1 i.opens.length c1, .slice A2 i.datas.length c2, .slice A3 i.fixes.length c3, .slice A4 i.sigs.length c4] 27)
  have hbx := Blk.new w 27 #[.string i.name, .slice A1 i.opens.length c1, .slice A2 i.datas.length c2, .slice A3 i.fixes.length c3, .slice A4 i.sigs.length c4]
  have KSW := hH (fun W' (hW : Chg (fun _ => False) (w.alloc (.cells #[.string i.name, .slice A1 i.opens.length c1, .slice A2 i.datas.length c2, .slice A3 i.fixes.length c3, .slice A4 i.sigs.length c4] 27)) W') => show W'.cell? ⟨w.heap.size, 0, none⟩ = some (.string i.name) ∧ W'.cell? ⟨w.heap.size, 1, none⟩ = some (.slice A1 i.opens.length c1) ∧ W'.cell? ⟨w.heap.size, 2, none⟩ = some (.slice A2 i.datas.length c2) ∧ W'.cell? ⟨w.heap.size, 3, none⟩ = some (.slice A3 i.fixes.length c3) ∧ W'.cell? ⟨w.heap.size, 4, none⟩ = some (.slice A4 i.sigs.length c4) from ⟨(hbx.chg hW id).cell 0, (hbx.chg hW id).cell 1, (hbx.chg hW id).cell 2, (hbx.chg hW id).cell 3, (hbx.chg hW id).cell 4⟩)
  have HRI := hH (fun W (hW : Chg (fun _ => False) (w.alloc (.cells #[.string i.name, .slice A1 i.opens.length c1, .slice A2 i.datas.length c2, .slice A3 i.fixes.length c3, .slice A4 i.sigs.length c4] 27)) W) => hr.chg (h0.trans' hW) (fun _ _ _ => id))
  have H0 := hH h0
  have HF := hH hf
  obtain ⟨s1, s2, s3, s4⟩ := hd_le i
  have HS1 := hH (fun k => show (flatTo opnP (hdA i) i.opens k).size ≤ 900000000 from Nat.le_trans (flatTo_size _ _ _ _) (Nat.le_trans s1 hl))
  have HS2 := hH (fun k => show (flatTo dtP (hdB i) i.datas k).size ≤ 900000000 from Nat.le_trans (flatTo_size _ _ _ _) (Nat.le_trans s2 hl))
  have HS3 := hH (fun k => show (flatTo fxP (hdC i) i.fixes k).size ≤ 900000000 from Nat.le_trans (flatTo_size _ _ _ _) (Nat.le_trans s3 hl))
  have HS4 := hH (fun k => show (flatTo sgP (hdD i) i.sigs k).size ≤ 900000000 from Nat.le_trans (flatTo_size _ _ _ _) (Nat.le_trans s4 hl))
  have HR1 := hH (show flatTo opnP (hdA i) i.opens i.opens.length ++ (⟨(low 2 i.datas.length).toArray⟩ : ByteArray) = flatTo dtP (hdB i) i.datas 0 from row_next opnP (hdA i) i.opens i.datas.length dtP i.datas)
  have HR2 := hH (show flatTo dtP (hdB i) i.datas i.datas.length ++ (⟨(low 2 i.fixes.length).toArray⟩ : ByteArray) = flatTo fxP (hdC i) i.fixes 0 from row_next dtP (hdB i) i.datas i.fixes.length fxP i.fixes)
  have HR3 := hH (show flatTo fxP (hdC i) i.fixes i.fixes.length ++ (⟨(low 2 i.sigs.length).toArray⟩ : ByteArray) = flatTo sgP (hdD i) i.sigs 0 from row_next fxP (hdC i) i.fixes i.sigs.length sgP i.sigs)
  have HR4 := hH (show flatTo sgP (hdD i) i.sigs i.sigs.length = ⟨(allP i).toArray⟩ by rw [flatTo_all, hd_all])
  have HA := hH (hdA_str i)
  have HT0 := hH (fun W => refText_any i.name W (by have := hf.name; omega))
  have HL1 := hH (fun W => refLow_2 i.opens.length W (by have := hf.opens; omega))
  have HL2 := hH (fun W => refLow_2 i.datas.length W (by have := hf.datas; omega))
  have HL3 := hH (fun W => refLow_2 i.fixes.length W (by have := hf.fixes; omega))
  have HL4 := hH (fun W => refLow_2 i.sigs.length W (by have := hf.sigs; omega))
  have HD := hH (Chg.refl (fun _ => False) (w.alloc (.cells #[.string i.name, .slice A1 i.opens.length c1, .slice A2 i.datas.length c2, .slice A3 i.fixes.length c3, .slice A4 i.sigs.length c4] 27)))
  (obtain ⟨q0, q1, q2, q3, q4⟩ := uH KSW _ (uH HD))
  have g0 : (⟨#[84, 82, 71, 73]⟩ : ByteArray).size = 4 := rfl
  have g1 := sz_text i.name
  have g2 := sz_low 2 i.opens.length
  have g3 := hf.name
  generalize (⟨(textP i.name).toArray⟩ : ByteArray) = TN at *
  generalize (⟨(low 2 i.opens.length).toArray⟩ : ByteArray) = LN at *
  have k1 := fun wx : World => run_string_add_sum (P := Tryz.prog) wx ⟨#[84, 82, 71, 73]⟩ TN (by (try simp only [ByteArray.size_append]); omega)
  have k2 := fun wx : World => run_string_add_sum (P := Tryz.prog) wx (⟨#[84, 82, 71, 73]⟩ ++ TN) LN (by (try simp only [ByteArray.size_append]); omega)
  clear g0 g1 g2 g3 hr h0 hf hl s1 s2 s3 s4 hbx
  go_enter Tryz.func19, Tryz.ntmps19
  go_upto_region 1 with fail
  generalize hW1 : (w.alloc (.cells #[.string i.name, .slice A1 i.opens.length c1, .slice A2 i.datas.length c2, .slice A3 i.fixes.length c3, .slice A4 i.sigs.length c4] 27)) = W1 at *
  clear hW1
  have KSX := hH (fun W (hW : Chg (fun _ => False) W1 W) => show W.cell? ⟨w.heap.size, 0, none⟩ = some (.string i.name) ∧ W.cell? ⟨w.heap.size, 1, none⟩ = some (.slice A1 i.opens.length c1) from ⟨(uH KSW _ hW).1, (uH KSW _ hW).2.1⟩)
  have HCQ : Hid (Chg (fun _ => False) W1 W1.drew) := hH (Chg.drew (Chg.refl _ _))
  have HKK := hH (uH KSX _ (uH HCQ))
  go_wp2_with fail
  go_region_held3 (fun W => W.cell? ⟨w.heap.size, 0, none⟩ = some (.string i.name) ∧ W.cell? ⟨w.heap.size, 1, none⟩ = some (.slice A1 i.opens.length c1)) (first | exact uH HKK | go_keep) (first
    | (go_at_call 54; (with_reducible refine (uH HT0 _).mono ?_); rintro e w2 ⟨rfl, hc2⟩; have HN_ := hH ((uH HCQ).trans' hc2); clear HCQ; have HCQ := HN_; clear HN_ HKK; have HKK := hH (uH KSX _ (uH HCQ)); clear hc2)
    | (go_at_call 53; (with_reducible refine (uH HL1 _).mono ?_); rintro e w2 ⟨rfl, hc2⟩; have HN_ := hH ((uH HCQ).trans' hc2); clear HCQ; have HCQ := HN_; clear HN_ HKK; have HKK := hH (uH KSX _ (uH HCQ)); clear hc2))
  rw [uH HA]
  clear k1 k2 HD
  go_wp2_with fail
  go_loopw [3, 4] (fun s t wr => ∃ k : Nat, t = .int .i64 (k : Int) ∧ k ≤ i.opens.length ∧ s = .string (flatTo opnP (hdA i) i.opens k) ∧ Chg (fun _ => False) W1 wr) (fun _ t _ => i.opens.length - (intOf t).toNat)
  case atStart => exact ⟨0, rfl, Nat.zero_le _, rfl, uH HCQ⟩
  case round =>
    clear HCQ HKK q0 q1 q2 q3 q4
    obtain ⟨wq, rfl⟩ : ∃ wq : World, wq = wr := ⟨_, rfl⟩
    obtain ⟨k, rfl, hk, rfl, hch⟩ := hrel
    (obtain ⟨q0, q1, q2, q3, q4⟩ := uH KSW _ hch)
    have hsz := uH HS1 k
    have n1 := (uH HF).opens
    by_cases hlt : k < i.opens.length
    · have hki : (k : Int) < (i.opens.length : Int) := by omega
      have hx : i.opens[k]? = some i.opens[k] := List.getElem?_eq_getElem hlt
      generalize i.opens[k] = x at *
      have hfx := (uH HF).open_ x (List.mem_of_getElem? hx)
      obtain ⟨b, o, cc, hv, _, hok, d0, d1⟩ := ((uH HRI) wq hch).opens.at_ hx
      injection hv with hv1 hv2 hv3
      subst hv1 hv3
      clear hv2
      have HNX := hH (flatTo_next opnP (hdA i) hx)
      have hnp := opnP_str x
      obtain ⟨hx1, hx2, hx3⟩ := hfx
      obtain ⟨m, hm⟩ : ∃ m : Nat, x.digest = (m : Int) := ⟨x.digest.toNat, by omega⟩
      rw [hm, Int.toNat_natCast] at hnp
      rw [hm] at d1 hx3
      have HTX := hH (fun W => refText_any x.name W (by omega))
      have HLX := hH (fun W => refLow_4 m W (by omega))
      have hw1 : IntKind.i64.wrap (m : Int) = (m : Int) := IntWalk.i64_in _ (by omega)
      have hw2 : wrap64 (m : Int) = (m : Int) := w64 _ (by omega)
      have g1 := sz_text x.name
      have g2 := sz_low 4 m
      have HNP := hH hnp
      have HCH := hH hch
      generalize flatTo opnP (hdA i) i.opens k = S at *
      generalize (⟨(textP x.name).toArray⟩ : ByteArray) = TX at *
      generalize (⟨(low 4 m).toArray⟩ : ByteArray) = LX at *
      have k1 := fun wx : World => run_string_add_sum (P := Tryz.prog) wx TX LX (by (try simp only [ByteArray.size_append]); omega)
      have k2 := fun wx : World => run_string_add_sum (P := Tryz.prog) wx S (TX ++ LX) (by (try simp only [ByteArray.size_append]); omega)
      clear g1 g2 hx1 hx2 hm hnp hch hx hok hsz q0 q2 q3 q4
      have KSX := hH (fun W (hW : Chg (fun _ => False) wq W) => show W.cell? ⟨w.heap.size, 1, none⟩ = some (.slice (some ⟨b, o, none⟩) i.opens.length c1) ∧ W.cell? ⟨b, o + k * 2, none⟩ = some (.string x.name) ∧ W.cell? ⟨b, o + k * 2 + 1, none⟩ = some (.int .u32 (m : Int)) from ⟨(hW.cell (World.block_lt_of_cell? wq _ q1) id).trans q1, (hW.cell (World.block_lt_of_cell? wq _ d0) id).trans d0, (hW.cell (World.block_lt_of_cell? wq _ d1) id).trans d1⟩)
      have HCQ : Hid (Chg (fun _ => False) wq wq.drew) := hH (Chg.drew (Chg.refl _ _))
      have HKK := hH (uH KSX _ (uH HCQ))
      go_wp2_with fail
      go_region_held3 (fun W => W.cell? ⟨w.heap.size, 1, none⟩ = some (.slice (some ⟨b, o, none⟩) i.opens.length c1) ∧ W.cell? ⟨b, o + k * 2, none⟩ = some (.string x.name) ∧ W.cell? ⟨b, o + k * 2 + 1, none⟩ = some (.int .u32 (m : Int))) (first | exact uH HKK | go_keep) (first
        | (go_at_call 54; (with_reducible refine (uH HTX _).mono ?_); rintro e w2 ⟨rfl, hc2⟩; have HN_ := hH ((uH HCQ).trans' hc2); clear HCQ; have HCQ := HN_; clear HN_ HKK; have HKK := hH (uH KSX _ (uH HCQ)); clear hc2)
        | (go_at_call 53; (with_reducible refine (uH HLX _).mono ?_); rintro e w2 ⟨rfl, hc2⟩; have HN_ := hH ((uH HCQ).trans' hc2); clear HCQ; have HCQ := HN_; clear HN_ HKK; have HKK := hH (uH KSX _ (uH HCQ)); clear hc2))
      go_wp2_with fail
      go_roundw
      case rel => exact ⟨k + 1, by go_num, by omega, by rw [uH HNX, ← uH HNP], (uH HCH).trans' (uH HCQ)⟩
      case measure => simp [intOf]; omega
    · obtain rfl : k = i.opens.length := by omega
      have hki : ¬ (i.opens.length : Int) < (i.opens.length : Int) := by omega
      have HD := hH hch
      have g2 := sz_low 2 i.datas.length
      have HR1' := hH (uH HR1)
      generalize flatTo opnP (hdA i) i.opens i.opens.length = S at *
      generalize (⟨(low 2 i.datas.length).toArray⟩ : ByteArray) = LN2 at *
      have k1 := fun wx : World => run_string_add_sum (P := Tryz.prog) wx S LN2 (by (try simp only [ByteArray.size_append]); omega)
      clear hch hsz g2
      go_wp2_with (go_at_call 53; (with_reducible refine (uH HL2 _).mono ?_); rintro e w2 ⟨rfl, hc2⟩; replace HD := hH ((uH HD).trans' hc2); clear hc2; clear q0 q1 q2 q3 q4; (obtain ⟨q0, q1, q2, q3, q4⟩ := uH KSW _ (uH HD)))
      rw [uH HR1']
      clear k1 q0 q1 q2 q3 q4
      go_loopw [3, 5, 6, 7, 8] (fun s t _ _ _ wr => ∃ k : Nat, t = .int .i64 (k : Int) ∧ k ≤ i.datas.length ∧ s = .string (flatTo dtP (hdB i) i.datas k) ∧ Chg (fun _ => False) W1 wr) (fun _ t _ _ _ _ => i.datas.length - (intOf t).toNat)
      case atStart => exact ⟨0, rfl, Nat.zero_le _, rfl, uH HD⟩
      case round =>
        clear HD
        obtain ⟨wq, rfl⟩ : ∃ wq : World, wq = wr := ⟨_, rfl⟩
        obtain ⟨k, rfl, hk, rfl, hch⟩ := hrel
        (obtain ⟨q0, q1, q2, q3, q4⟩ := uH KSW _ hch)
        have hsz := uH HS2 k
        have n2 := (uH HF).datas
        by_cases hlt : k < i.datas.length
        · have hki : (k : Int) < (i.datas.length : Int) := by omega
          have hx : i.datas[k]? = some i.datas[k] := List.getElem?_eq_getElem hlt
          generalize i.datas[k] = x at *
          have hfx := (uH HF).data_ x (List.mem_of_getElem? hx)
          obtain ⟨b, o, cc, u, hv, _, hru, hok, d0, d1, d2⟩ := ((uH HRI) wq hch).datas.at_ hx
          injection hv with hv1 hv2 hv3
          subst hv1 hv3
          clear hv2
          obtain ⟨B, c6, rfl⟩ := RdR.val hru
          obtain ⟨hx1, hx2, hx3, hx4, hx5⟩ := hfx
          obtain ⟨m, hm⟩ : ∃ m : Nat, x.params = (m : Int) := ⟨x.params.toNat, by omega⟩
          have hdp := dtP_hd x
          have hds := dtP_str x
          rw [hm, Int.toNat_natCast] at hdp hds
          rw [hm] at d1 hx3
          have HST := hH (nest_start (f := dtP) (g := ctP) (h := hdB i) (L := i.datas) (k := k) (textP x.name ++ low 1 m ++ low 2 x.cons.length) x.cons)
          have HEN := hH (nest_end (h := hdB i) hx _ _ hdp)
          have HSZ := hH (fun j => Nat.le_trans (nest_size (h := hdB i) hx _ _ hdp j) (uH HS2 (k + 1)))
          have HDS := hH hds
          have HCF := hH hx5
          have HTX := hH (fun W => refText_any x.name W (by omega))
          have HLX := hH (fun W => refLow_1 m W (by omega))
          have HLY := hH (fun W => refLow_2 x.cons.length W (by omega))
          have g1 := sz_text x.name
          have g2 := sz_low 1 m
          have g3 := sz_low 2 x.cons.length
          have hbq := Blk.new wq 70 #[.string x.name, .int .i64 (m : Int), .slice B x.cons.length c6]
          have cq : Chg (fun _ => False) wq (wq.alloc (.cells #[.string x.name, .int .i64 (m : Int), .slice B x.cons.length c6] 70)) := (Chg.refl _ _).alloc _
          have KSB := hH (fun W (hW : Chg (fun _ => False) (wq.alloc (.cells #[.string x.name, .int .i64 (m : Int), .slice B x.cons.length c6] 70)) W) => show W.cell? ⟨wq.heap.size, 0, none⟩ = some (.string x.name) ∧ W.cell? ⟨wq.heap.size, 1, none⟩ = some (.int .i64 (m : Int)) ∧ W.cell? ⟨wq.heap.size, 2, none⟩ = some (.slice B x.cons.length c6) from ⟨(hbq.chg hW id).cell 0, (hbq.chg hW id).cell 1, (hbq.chg hW id).cell 2⟩)
          have HRC := hH (fun W (hW : Chg (fun _ => False) (wq.alloc (.cells #[.string x.name, .int .i64 (m : Int), .slice B x.cons.length c6] 70)) W) => hru.chg (cq.trans' hW) (fun _ _ _ => id))
          have HCH := hH (hch.trans' cq)
          generalize flatTo dtP (hdB i) i.datas k = S at *
          generalize (hdB i ++ (i.datas.take k).flatMap dtP) ++ (textP x.name ++ low 1 m ++ low 2 x.cons.length) = H2 at *
          generalize (⟨(textP x.name ++ low 1 m ++ low 2 x.cons.length).toArray⟩ : ByteArray) = HDX at *
          generalize (⟨(textP x.name).toArray⟩ : ByteArray) = TX at *
          generalize (⟨(low 1 m).toArray⟩ : ByteArray) = LX at *
          generalize (⟨(low 2 x.cons.length).toArray⟩ : ByteArray) = LY at *
          have k1 := fun wx : World => run_string_add_sum (P := Tryz.prog) wx TX LX (by (try simp only [ByteArray.size_append]); omega)
          have k2 := fun wx : World => run_string_add_sum (P := Tryz.prog) wx (TX ++ LX) LY (by (try simp only [ByteArray.size_append]); omega)
          have k3 := fun wx : World => run_string_add_sum (P := Tryz.prog) wx S (TX ++ LX ++ LY) (by (try simp only [ByteArray.size_append]); omega)
          clear hx1 hx2 hm hdp hds hch hx hok hsz g1 g2 g3 q0 q1 q3 q4 hru hbq cq hx5
          go_upto_region 11 with fail
          generalize hW2 : (wq.alloc (.cells #[.string x.name, .int .i64 (m : Int), .slice B x.cons.length c6] 70)) = W2 at *
          clear hW2 d0 d1 d2 q2
          have KSX := hH (fun W (hW : Chg (fun _ => False) W2 W) => show W.cell? ⟨wq.heap.size, 0, none⟩ = some (.string x.name) ∧ W.cell? ⟨wq.heap.size, 1, none⟩ = some (.int .i64 (m : Int)) ∧ W.cell? ⟨wq.heap.size, 2, none⟩ = some (.slice B x.cons.length c6) from ⟨(uH KSB _ hW).1, (uH KSB _ hW).2.1, (uH KSB _ hW).2.2⟩)
          have HCQ : Hid (Chg (fun _ => False) W2 W2.drew) := hH (Chg.drew (Chg.refl _ _))
          have HKK := hH (uH KSX _ (uH HCQ))
          go_wp2_with fail
          go_region_held3 (fun W => W.cell? ⟨wq.heap.size, 0, none⟩ = some (.string x.name) ∧ W.cell? ⟨wq.heap.size, 1, none⟩ = some (.int .i64 (m : Int)) ∧ W.cell? ⟨wq.heap.size, 2, none⟩ = some (.slice B x.cons.length c6)) (first | exact uH HKK | go_keep) (first
            | (go_at_call 54; (with_reducible refine (uH HTX _).mono ?_); rintro e w2 ⟨rfl, hc2⟩; have HN_ := hH ((uH HCQ).trans' hc2); clear HCQ; have HCQ := HN_; clear HN_ HKK; have HKK := hH (uH KSX _ (uH HCQ)); clear hc2)
            | (go_at_call 53; (with_reducible refine (uH HLX _).mono ?_); rintro e w2 ⟨rfl, hc2⟩; have HN_ := hH ((uH HCQ).trans' hc2); clear HCQ; have HCQ := HN_; clear HN_ HKK; have HKK := hH (uH KSX _ (uH HCQ)); clear hc2)
            | (go_at_call 53; (with_reducible refine (uH HLY _).mono ?_); rintro e w2 ⟨rfl, hc2⟩; have HN_ := hH ((uH HCQ).trans' hc2); clear HCQ; have HCQ := HN_; clear HN_ HKK; have HKK := hH (uH KSX _ (uH HCQ)); clear hc2))
          rw [uH HDS, uH HST]
          clear k1 k2 k3 HKK
          go_wp2_with fail
          go_loopw [3, 7, 8] (fun s t _ wr => ∃ c : Nat, t = .int .i64 (c : Int) ∧ c ≤ x.cons.length ∧ s = .string (flatTo ctP H2 x.cons c) ∧ Chg (fun _ => False) W2 wr) (fun _ t _ _ => x.cons.length - (intOf t).toNat)
          case atStart => exact ⟨0, rfl, Nat.zero_le _, rfl, uH HCQ⟩
          case round =>
            clear HCQ
            obtain ⟨wy, rfl⟩ : ∃ wy : World, wy = wr := ⟨_, rfl⟩
            obtain ⟨c, rfl, hc, rfl, hcy⟩ := hrel
            obtain ⟨z0, z1, z2⟩ := uH KSB _ hcy
            have hsz := uH HSZ c
            by_cases hlc : c < x.cons.length
            · have hci : (c : Int) < (x.cons.length : Int) := by omega
              have hy : x.cons[c]? = some x.cons[c] := List.getElem?_eq_getElem hlc
              generalize x.cons[c] = y at *
              obtain ⟨hy1, hy2, hy3⟩ := (uH HCF) y (List.mem_of_getElem? hy)
              obtain ⟨b2, o2, cc2, u2, hv, _, hru, hok, e0, e1⟩ := RdC.at_ (uH HRC _ hcy) hy
              injection hv with hv1 hv2 hv3
              subst hv1 hv3
              clear hv2
              obtain ⟨B2, c7, rfl⟩ := RdR.val hru
              have HST2 := hH (nest_start (f := ctP) (g := typP) (h := H2) (L := x.cons) (k := c) (textP y.name ++ low 2 y.args.length) y.args)
              have HEN2 := hH (nest_end (h := H2) hy _ _ (ctP_hd y))
              have HSZ2 := hH (fun j => Nat.le_trans (nest_size (h := H2) hy _ _ (ctP_hd y) j) (uH HSZ (c + 1)))
              have HDS2 := hH (ctP_str y)
              have HTF := hH hy3
              have HTY := hH (fun W => refText_any y.name W (by omega))
              have HLZ := hH (fun W => refLow_2 y.args.length W (by omega))
              have g1 := sz_text y.name
              have g2 := sz_low 2 y.args.length
              have HRN := hH (fun W (hW : Chg (fun _ => False) wy W) => hru.chg hW (fun _ _ _ => id))
              have HCY := hH hcy
              generalize flatTo ctP H2 x.cons c = S2 at *
              generalize (H2 ++ (x.cons.take c).flatMap ctP) ++ (textP y.name ++ low 2 y.args.length) = H3 at *
              generalize (⟨(textP y.name ++ low 2 y.args.length).toArray⟩ : ByteArray) = HDY at *
              generalize (⟨(textP y.name).toArray⟩ : ByteArray) = TY at *
              generalize (⟨(low 2 y.args.length).toArray⟩ : ByteArray) = LZ at *
              have k1 := fun wx : World => run_string_add_sum (P := Tryz.prog) wx TY LZ (by (try simp only [ByteArray.size_append]); omega)
              have k2 := fun wx : World => run_string_add_sum (P := Tryz.prog) wx S2 (TY ++ LZ) (by (try simp only [ByteArray.size_append]); omega)
              clear hcy hy hok hsz g1 g2 hru hy3
              clear z0 z1
              have KSX := hH (fun W (hW : Chg (fun _ => False) wy W) => show W.cell? ⟨wq.heap.size, 2, none⟩ = some (.slice (some ⟨b2, o2, none⟩) x.cons.length c6) ∧ W.cell? ⟨b2, o2 + c * 2, none⟩ = some (.string y.name) ∧ W.cell? ⟨b2, o2 + c * 2 + 1, none⟩ = some (.slice B2 y.args.length c7) from ⟨(hW.cell (World.block_lt_of_cell? wy _ z2) id).trans z2, (hW.cell (World.block_lt_of_cell? wy _ e0) id).trans e0, (hW.cell (World.block_lt_of_cell? wy _ e1) id).trans e1⟩)
              have HCQ : Hid (Chg (fun _ => False) wy wy.drew) := hH (Chg.drew (Chg.refl _ _))
              have HKK := hH (uH KSX _ (uH HCQ))
              go_wp2_with fail
              go_region_held3 (fun W => W.cell? ⟨wq.heap.size, 2, none⟩ = some (.slice (some ⟨b2, o2, none⟩) x.cons.length c6) ∧ W.cell? ⟨b2, o2 + c * 2, none⟩ = some (.string y.name) ∧ W.cell? ⟨b2, o2 + c * 2 + 1, none⟩ = some (.slice B2 y.args.length c7)) (first | exact uH HKK | go_keep) (first
                | (go_at_call 54; (with_reducible refine (uH HTY _).mono ?_); rintro e w2 ⟨rfl, hc2⟩; have HN_ := hH ((uH HCQ).trans' hc2); clear HCQ; have HCQ := HN_; clear HN_ HKK; have HKK := hH (uH KSX _ (uH HCQ)); clear hc2)
                | (go_at_call 53; (with_reducible refine (uH HLZ _).mono ?_); rintro e w2 ⟨rfl, hc2⟩; have HN_ := hH ((uH HCQ).trans' hc2); clear HCQ; have HCQ := HN_; clear HN_ HKK; have HKK := hH (uH KSX _ (uH HCQ)); clear hc2))
              rw [uH HDS2, uH HST2]
              clear k1 k2 HKK
              go_wp2_with fail
              go_loopw [3, 8] (fun s t wr => ∃ a : Nat, t = .int .i64 (a : Int) ∧ a ≤ y.args.length ∧ s = .string (flatTo typP H3 y.args a) ∧ Chg (fun _ => False) wy wr) (fun _ t _ => y.args.length - (intOf t).toNat)
              case atStart => exact ⟨0, rfl, Nat.zero_le _, rfl, uH HCQ⟩
              case round =>
                clear HCQ z2 e0 e1
                obtain ⟨wz, rfl⟩ : ∃ wz : World, wz = wr := ⟨_, rfl⟩
                obtain ⟨a, rfl, ha, rfl, hcz⟩ := hrel
                obtain ⟨z2, e0, e1⟩ := uH KSX _ hcz
                have hsz := uH HSZ2 a
                by_cases hla : a < y.args.length
                · have hai : (a : Int) < (y.args.length : Int) := by omega
                  have ht : y.args[a]? = some y.args[a] := List.getElem?_eq_getElem hla
                  generalize y.args[a] = t at *
                  have htf := (uH HTF) t (List.mem_of_getElem? ht)
                  obtain ⟨b3, o3, cc3, u3, hv, _, hru, t0⟩ := RdNs.at_ (uH HRN _ hcz) ht
                  injection hv with hv1 hv2 hv3
                  subst hv1 hv3
                  clear hv2
                  have htl := typ_le htf
                  have HNX := hH (flatTo_next typP H3 ht)
                  have HCT := hH (refTyp_any t u3 T wz hru htf (by omega))
                  have g1 := sz_mk (typP t)
                  have HCZ := hH hcz
                  generalize flatTo typP H3 y.args a = S3 at *
                  generalize (⟨(typP t).toArray⟩ : ByteArray) = TT at *
                  have k1 := fun wx : World => run_string_add_sum (P := Tryz.prog) wx S3 TT (by (try simp only [ByteArray.size_append]); omega)
                  clear hcz ht hru htl g1 hsz htf
                  go_wp2_with (go_at_call 55; (with_reducible refine (uH HCT).mono ?_); rintro e w2 ⟨rfl, hc2⟩; have HC2 := hH ((uH HCZ).trans' hc2); clear hc2)
                  go_roundw
                  case rel => exact ⟨a + 1, by go_num, by omega, by rw [uH HNX], uH HC2⟩
                  case measure => simp [intOf]; omega
                · obtain rfl : a = y.args.length := by omega
                  have hai : ¬ (y.args.length : Int) < (y.args.length : Int) := by omega
                  have HC2 := hH ((uH HCY).trans' hcz)
                  clear hcz hsz
                  go_wp2_with fail
                  go_roundw
                  case rel => exact ⟨c + 1, by go_num, by omega, by rw [uH HEN2], uH HC2⟩
                  case measure => simp [intOf]; omega
            · obtain rfl : c = x.cons.length := by omega
              have hci : ¬ (x.cons.length : Int) < (x.cons.length : Int) := by omega
              have HC2 := hH ((uH HCH).trans' hcy)
              clear hcy hsz
              go_wp2_with fail
              go_roundw
              case rel =>
                first | exact ⟨k + 1, by go_num, by omega, by rw [uH HEN], uH HC2⟩ | ((repeat apply Exists.intro); refine ⟨?_, rfl⟩; exact ⟨k + 1, by go_num, by omega, by rw [uH HEN], uH HC2⟩)
              case measure => simp [intOf]; omega
        · obtain rfl : k = i.datas.length := by omega
          have hki : ¬ (i.datas.length : Int) < (i.datas.length : Int) := by omega
          have HD := hH hch
          have g2 := sz_low 2 i.fixes.length
          have HR2' := hH (uH HR2)
          generalize flatTo dtP (hdB i) i.datas i.datas.length = S at *
          generalize (⟨(low 2 i.fixes.length).toArray⟩ : ByteArray) = LN3 at *
          have k1 := fun wx : World => run_string_add_sum (P := Tryz.prog) wx S LN3 (by (try simp only [ByteArray.size_append]); omega)
          clear hch hsz g2
          go_wp2_with (go_at_call 53; (with_reducible refine (uH HL3 _).mono ?_); rintro e w2 ⟨rfl, hc2⟩; replace HD := hH ((uH HD).trans' hc2); clear hc2; clear q0 q1 q2 q3 q4; (obtain ⟨q0, q1, q2, q3, q4⟩ := uH KSW _ (uH HD)))
          rw [uH HR2']
          clear k1 q0 q1 q2 q3 q4
          go_loopw [3, 9] (fun s t wr => ∃ k : Nat, t = .int .i64 (k : Int) ∧ k ≤ i.fixes.length ∧ s = .string (flatTo fxP (hdC i) i.fixes k) ∧ Chg (fun _ => False) W1 wr) (fun _ t _ => i.fixes.length - (intOf t).toNat)
          case atStart => exact ⟨0, rfl, Nat.zero_le _, rfl, uH HD⟩
          case round =>
            clear HD
            obtain ⟨wq, rfl⟩ : ∃ wq : World, wq = wr := ⟨_, rfl⟩
            obtain ⟨k, rfl, hk, rfl, hch⟩ := hrel
            (obtain ⟨q0, q1, q2, q3, q4⟩ := uH KSW _ hch)
            have hsz := uH HS3 k
            have nn := (uH HF).fixes
            by_cases hlt : k < i.fixes.length
            · have hki : (k : Int) < (i.fixes.length : Int) := by omega
              have hx : i.fixes[k]? = some i.fixes[k] := List.getElem?_eq_getElem hlt
              generalize i.fixes[k] = x at *
              have HNX := hH (flatTo_next fxP (hdC i) hx)
              have HCH := hH hch
              have hfx := (uH HF).fix_ x (List.mem_of_getElem? hx)
              obtain ⟨b, o, cc, hv, _, hok, d0, d1, d2⟩ := RdF.at_ ((uH HRI) wq hch).fixes hx
              injection hv with hv1 hv2 hv3
              subst hv1 hv3
              clear hv2
              have hnp := fxP_str x
              obtain ⟨hx1, ⟨hx2, hx3⟩, hx4, hx5⟩ := hfx
              obtain ⟨m, hm⟩ : ∃ m : Nat, x.level = (m : Int) := ⟨x.level.toNat, by omega⟩
              obtain ⟨n, hn⟩ : ∃ n : Nat, x.side + 1 = (n : Int) := ⟨(x.side + 1).toNat, by omega⟩
              have hn2 : x.side = (n : Int) - 1 := by omega
              rw [hm, hn, Int.toNat_natCast, Int.toNat_natCast] at hnp
              rw [hm] at d1 hx3
              rw [hn2] at d2 hx5
              have HTX := hH (fun W => refText_any x.op W (by omega))
              have HLX := hH (fun W => refLow_1 m W (by omega))
              have HLY := hH (fun W => refLow_1 n W (by omega))
              have hw0 : IntKind.i64.wrap ((n : Int) - 1 + 1) = (n : Int) := by rw [show (n : Int) - 1 + 1 = (n : Int) by omega]; exact IntWalk.i64_in _ (by omega)
              have hw1 : IntKind.i64.wrap (n : Int) = (n : Int) := IntWalk.i64_in _ (by omega)
              have hw2 : wrap64 (n : Int) = (n : Int) := w64 _ (by omega)
              have g1 := sz_text x.op
              have g2 := sz_low 1 m
              have g3 := sz_low 1 n
              have HNP := hH hnp
              generalize flatTo fxP (hdC i) i.fixes k = S at *
              generalize (⟨(textP x.op).toArray⟩ : ByteArray) = TX at *
              generalize (⟨(low 1 m).toArray⟩ : ByteArray) = LX at *
              have HNP2 := HNP
              first | generalize (⟨(low 1 n).toArray⟩ : ByteArray) = LY at * | skip
              have k1 := fun wx : World => run_string_add_sum (P := Tryz.prog) wx TX LX (by (try simp only [ByteArray.size_append]); omega)
              have k2 := fun wx : World => run_string_add_sum (P := Tryz.prog) wx (TX ++ LX) LY (by (try simp only [ByteArray.size_append]); omega)
              have k3 := fun wx : World => run_string_add_sum (P := Tryz.prog) wx S (TX ++ LX ++ LY) (by (try simp only [ByteArray.size_append]); omega)
              clear g1 g2 g3 hx1 hx2 hx4 hm hn hn2 hnp hch hx hok hsz q0 q1 q2 q4 HNP2
              have KSX := hH (fun W (hW : Chg (fun _ => False) wq W) => show W.cell? ⟨w.heap.size, 3, none⟩ = some (.slice (some ⟨b, o, none⟩) i.fixes.length c3) ∧ W.cell? ⟨b, o + k * 3, none⟩ = some (.string x.op) ∧ W.cell? ⟨b, o + k * 3 + 1, none⟩ = some (.int .i64 (m : Int)) ∧ W.cell? ⟨b, o + k * 3 + 2, none⟩ = some (.int .i64 ((n : Int) - 1)) from ⟨(hW.cell (World.block_lt_of_cell? wq _ q3) id).trans q3, (hW.cell (World.block_lt_of_cell? wq _ d0) id).trans d0, (hW.cell (World.block_lt_of_cell? wq _ d1) id).trans d1, (hW.cell (World.block_lt_of_cell? wq _ d2) id).trans d2⟩)
              have HCQ : Hid (Chg (fun _ => False) wq wq.drew) := hH (Chg.drew (Chg.refl _ _))
              have HKK := hH (uH KSX _ (uH HCQ))
              go_wp2_with fail
              go_region_held3 (fun W => W.cell? ⟨w.heap.size, 3, none⟩ = some (.slice (some ⟨b, o, none⟩) i.fixes.length c3) ∧ W.cell? ⟨b, o + k * 3, none⟩ = some (.string x.op) ∧ W.cell? ⟨b, o + k * 3 + 1, none⟩ = some (.int .i64 (m : Int)) ∧ W.cell? ⟨b, o + k * 3 + 2, none⟩ = some (.int .i64 ((n : Int) - 1))) (first | exact uH HKK | go_keep) (first
                | (go_at_call 54; (with_reducible refine (uH HTX _).mono ?_); rintro e w2 ⟨rfl, hc2⟩; have HN_ := hH ((uH HCQ).trans' hc2); clear HCQ; have HCQ := HN_; clear HN_ HKK; have HKK := hH (uH KSX _ (uH HCQ)); clear hc2)
                | (go_at_call 53; (with_reducible refine (uH HLX _).mono ?_); rintro e w2 ⟨rfl, hc2⟩; have HN_ := hH ((uH HCQ).trans' hc2); clear HCQ; have HCQ := HN_; clear HN_ HKK; have HKK := hH (uH KSX _ (uH HCQ)); clear hc2)
                | (go_at_call 53; (with_reducible refine (uH HLY _).mono ?_); rintro e w2 ⟨rfl, hc2⟩; have HN_ := hH ((uH HCQ).trans' hc2); clear HCQ; have HCQ := HN_; clear HN_ HKK; have HKK := hH (uH KSX _ (uH HCQ)); clear hc2))
              go_wp2_with fail
              go_roundw
              case rel => exact ⟨k + 1, by go_num, by omega, by rw [uH HNX, ← uH HNP], (uH HCH).trans' (uH HCQ)⟩
              case measure => simp [intOf]; omega
            · obtain rfl : k = i.fixes.length := by omega
              have hki : ¬ (i.fixes.length : Int) < (i.fixes.length : Int) := by omega
              have HD := hH hch
              have g2 := sz_low 2 i.sigs.length
              have HR3' := hH (uH HR3)
              generalize flatTo fxP (hdC i) i.fixes i.fixes.length = S at *
              generalize (⟨(low 2 i.sigs.length).toArray⟩ : ByteArray) = LN4 at *
              have k1 := fun wx : World => run_string_add_sum (P := Tryz.prog) wx S LN4 (by (try simp only [ByteArray.size_append]); omega)
              clear hch hsz g2
              go_wp2_with (go_at_call 53; (with_reducible refine (uH HL4 _).mono ?_); rintro e w2 ⟨rfl, hc2⟩; replace HD := hH ((uH HD).trans' hc2); clear hc2; clear q0 q1 q2 q3 q4; (obtain ⟨q0, q1, q2, q3, q4⟩ := uH KSW _ (uH HD)))
              rw [uH HR3']
              clear k1 q0 q1 q2 q3 q4
              go_loopw [3, 10] (fun s t wr => ∃ k : Nat, t = .int .i64 (k : Int) ∧ k ≤ i.sigs.length ∧ s = .string (flatTo sgP (hdD i) i.sigs k) ∧ Chg (fun _ => False) W1 wr) (fun _ t _ => i.sigs.length - (intOf t).toNat)
              case atStart => exact ⟨0, rfl, Nat.zero_le _, rfl, uH HD⟩
              case round =>
                clear HD
                obtain ⟨wq, rfl⟩ : ∃ wq : World, wq = wr := ⟨_, rfl⟩
                obtain ⟨k, rfl, hk, rfl, hch⟩ := hrel
                (obtain ⟨q0, q1, q2, q3, q4⟩ := uH KSW _ hch)
                have hsz := uH HS4 k
                have nn := (uH HF).sigs
                by_cases hlt : k < i.sigs.length
                · have hki : (k : Int) < (i.sigs.length : Int) := by omega
                  have hx : i.sigs[k]? = some i.sigs[k] := List.getElem?_eq_getElem hlt
                  generalize i.sigs[k] = x at *
                  have HNX := hH (flatTo_next sgP (hdD i) hx)
                  have HCH := hH hch
                  have hfx := (uH HF).sig_ x (List.mem_of_getElem? hx)
                  obtain ⟨b, o, cc, u, hv, _, hru, hok, hcap, d0, d1⟩ := RdSc.at_ ((uH HRI) wq hch).sigs hx
                  injection hv with hv1 hv2 hv3
                  subst hv1 hv3
                  clear hv2
                  obtain ⟨B, c7, rfl⟩ := RdR.val hru
                  have hnp := sgP_str x
                  obtain ⟨hx1, hx2⟩ := hfx
                  have htl := typ_le hx2
                  have HTX := hH (fun W (_ : Chg (fun _ => False) wq W) => refText_any x.name W (by omega))
                  have HTT := hH (fun W (hW : Chg (fun _ => False) wq W) => refTyp_any x.type _ T W (hru.chg hW (fun _ _ _ => id)) hx2 (by omega))
                  have g1 := sz_text x.name
                  have g2 := sz_mk (typP x.type)
                  have HNP := hH hnp
                  generalize flatTo sgP (hdD i) i.sigs k = S at *
                  generalize (⟨(textP x.name).toArray⟩ : ByteArray) = TX at *
                  generalize (⟨(typP x.type).toArray⟩ : ByteArray) = TY at *
                  have k1 := fun wx : World => run_string_add_sum (P := Tryz.prog) wx TX TY (by (try simp only [ByteArray.size_append]); omega)
                  have k2 := fun wx : World => run_string_add_sum (P := Tryz.prog) wx S (TX ++ TY) (by (try simp only [ByteArray.size_append]); omega)
                  clear g1 g2 hx1 hx2 htl hnp hch hx hok hsz q0 q1 q2 q3 hru hcap
                  have KSX := hH (fun W (hW : Chg (fun _ => False) wq W) => show W.cell? ⟨w.heap.size, 4, none⟩ = some (.slice (some ⟨b, o, none⟩) i.sigs.length c4) ∧ W.cell? ⟨b, o + k * 2, none⟩ = some (.string x.name) ∧ W.cell? ⟨b, o + k * 2 + 1, none⟩ = some (.slice B x.type.length c7) from ⟨(hW.cell (World.block_lt_of_cell? wq _ q4) id).trans q4, (hW.cell (World.block_lt_of_cell? wq _ d0) id).trans d0, (hW.cell (World.block_lt_of_cell? wq _ d1) id).trans d1⟩)
                  have HCQ : Hid (Chg (fun _ => False) wq wq.drew) := hH (Chg.drew (Chg.refl _ _))
                  have HKK := hH (uH KSX _ (uH HCQ))
                  go_wp2_with fail
                  go_region_held3 (fun W => W.cell? ⟨w.heap.size, 4, none⟩ = some (.slice (some ⟨b, o, none⟩) i.sigs.length c4) ∧ W.cell? ⟨b, o + k * 2, none⟩ = some (.string x.name) ∧ W.cell? ⟨b, o + k * 2 + 1, none⟩ = some (.slice B x.type.length c7)) (first | exact uH HKK | go_keep) (first
                    | (go_at_call 54; (with_reducible refine (uH HTX _ (uH HCQ)).mono ?_); rintro e w2 ⟨rfl, hc2⟩; have HN_ := hH ((uH HCQ).trans' hc2); clear HCQ; have HCQ := HN_; clear HN_ HKK; have HKK := hH (uH KSX _ (uH HCQ)); clear hc2)
                    | (go_at_call 55; (with_reducible refine (uH HTT _ (uH HCQ)).mono ?_); rintro e w2 ⟨rfl, hc2⟩; have HN_ := hH ((uH HCQ).trans' hc2); clear HCQ; have HCQ := HN_; clear HN_ HKK; have HKK := hH (uH KSX _ (uH HCQ)); clear hc2))
                  go_wp2_with fail
                  go_roundw
                  case rel => exact ⟨k + 1, by go_num, by omega, by rw [uH HNX, ← uH HNP], (uH HCH).trans' (uH HCQ)⟩
                  case measure => simp [intOf]; omega
                · obtain rfl : k = i.sigs.length := by omega
                  have hki : ¬ (i.sigs.length : Int) < (i.sigs.length : Int) := by omega
                  have HD := hH hch
                  have HR4' := hH (uH HR4)
                  clear hch hsz
                  go_wp2_with fail
                  go_ret
                  exact ⟨retv (congrArg Value.string (uH HR4')), (uH H0).trans' (uH HD)⟩
end Go.Proofs.YtinekmjengckdaaGreatDoor

namespace Go.Proofs.YtinekmjengckdaaGreatDoor
open Go.RowKit
set_option maxHeartbeats 4000000
set_option maxRecDepth 100000
theorem refEnc_any (i : Ifc) (vo vd vf vs : Value) (T : Nat → Prop) (w : World) (hr : RdIf T w i vo vd vf vs) (hf : IfcFit i) (hl : (allP i).length ≤ 900000000) :
    Calls Tryz.prog 17 #[.agg #[.string i.name, vo, vd, vf, vs]] w fun e w' => e = .returned (.string ⟨(encP i).toArray⟩) ∧ Chg (fun _ => False) w w' := by
  obtain ⟨A1, a1, rfl⟩ := RdR.val hr.opens
  obtain ⟨A2, a2, rfl⟩ := RdR.val hr.datas
  obtain ⟨A3, a3, rfl⟩ := RdR.val hr.fixes
  obtain ⟨A4, a4, rfl⟩ := RdR.val hr.sigs
  have h0 : Chg (fun _ => False) w (w.alloc (.cells #[.string i.name, .slice A1 i.opens.length a1, .slice A2 i.datas.length a2, .slice A3 i.fixes.length a3, .slice A4 i.sigs.length a4] 27)) := (Chg.refl _ w).alloc _
  have hbx := Blk.new w 27 #[.string i.name, .slice A1 i.opens.length a1, .slice A2 i.datas.length a2, .slice A3 i.fixes.length a3, .slice A4 i.sigs.length a4]
  have KSW := hH (fun W' (hW : Chg (fun _ => False) (w.alloc (.cells #[.string i.name, .slice A1 i.opens.length a1, .slice A2 i.datas.length a2, .slice A3 i.fixes.length a3, .slice A4 i.sigs.length a4] 27)) W') => show W'.cell? ⟨w.heap.size, 0, none⟩ = some (.string i.name) ∧ W'.cell? ⟨w.heap.size, 1, none⟩ = some (.slice A1 i.opens.length a1) ∧ W'.cell? ⟨w.heap.size, 2, none⟩ = some (.slice A2 i.datas.length a2) ∧ W'.cell? ⟨w.heap.size, 3, none⟩ = some (.slice A3 i.fixes.length a3) ∧ W'.cell? ⟨w.heap.size, 4, none⟩ = some (.slice A4 i.sigs.length a4) from ⟨(hbx.chg hW id).cell 0, (hbx.chg hW id).cell 1, (hbx.chg hW id).cell 2, (hbx.chg hW id).cell 3, (hbx.chg hW id).cell 4⟩)
  have HAL := hH (fun W (hW : Chg (fun _ => False) (w.alloc (.cells #[.string i.name, .slice A1 i.opens.length a1, .slice A2 i.datas.length a2, .slice A3 i.fixes.length a3, .slice A4 i.sigs.length a4] 27)) W) => refAll_any i _ _ _ _ T W (hr.chg (h0.trans' hW) (fun _ _ _ => id)) hf hl)
  have HSM := hH (fun W => show Calls Tryz.prog 18 #[.string ⟨(allP i).toArray⟩] W fun e w' => e = .returned (.int .u32 (sumB (allP i) : Int)) ∧ W = w' from by
    have := refSum_any ⟨(allP i).toArray⟩ W (by show (allP i).toArray.size ≤ _; simp; omega)
    simpa using this)
  have HLO := hH (fun W => refLow_4 (sumB (allP i)) W (by have := sumB_lt (allP i); omega))
  have HE := hH (show (⟨(allP i).toArray⟩ : ByteArray) ++ (⟨(low 4 (sumB (allP i))).toArray⟩ : ByteArray) = ⟨(encP i).toArray⟩ from str_cat _ _)
  have hw1 : IntKind.i64.wrap (sumB (allP i) : Int) = (sumB (allP i) : Int) := IntWalk.i64_in _ (by have := sumB_lt (allP i); omega)
  have hw2 : wrap64 (sumB (allP i) : Int) = (sumB (allP i) : Int) := w64 _ (by have := sumB_lt (allP i); omega)
  have g1 := sz_mk (allP i)
  have g2 := sz_low 4 (sumB (allP i))
  have H0 := hH h0
  have HD := hH (Chg.refl (fun _ => False) (w.alloc (.cells #[.string i.name, .slice A1 i.opens.length a1, .slice A2 i.datas.length a2, .slice A3 i.fixes.length a3, .slice A4 i.sigs.length a4] 27)))
  (obtain ⟨q0, q1, q2, q3, q4⟩ := uH KSW _ (uH HD))
  generalize (⟨(low 4 (sumB (allP i))).toArray⟩ : ByteArray) = LX at *
  generalize (⟨(allP i).toArray⟩ : ByteArray) = AL at *
  generalize sumB (allP i) = SU at *
  have k1 := fun wx : World => run_string_add_sum (P := Tryz.prog) wx AL LX (by omega)
  clear hr h0 hbx hf hl g1 g2
  go_enter Tryz.func17, Tryz.ntmps17
  go_wp2_with (first
    | (go_at_call 19; (with_reducible refine (uH HAL _ (uH HD)).mono ?_); rintro e w2 ⟨rfl, hc2⟩; replace HD := hH ((uH HD).trans' hc2); clear hc2)
    | (go_at_call 18; (with_reducible refine (uH HSM _).mono ?_); rintro e w3 ⟨rfl, rfl⟩)
    | (go_at_call 53; (with_reducible refine (uH HLO _).mono ?_); rintro e w4 ⟨rfl, hc2⟩; replace HD := hH ((uH HD).trans' hc2); clear hc2))
  go_ret
  exact ⟨retv (congrArg Value.string (uH HE)), (uH H0).trans' (uH HD)⟩
end Go.Proofs.YtinekmjengckdaaGreatDoor
