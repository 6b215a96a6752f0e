/-
  Layer 23, the document's side: a number's bytes; a text behind its length. Layer 23, the document's side: a type's bytes.
-/
import Derived.Test.YtinekmjengckdaaGreatDoorA26
import Derived.Deep.RegionHeld3
namespace Go.Proofs.YtinekmjengckdaaGreatDoor
open Go.RowKit
set_option maxHeartbeats 4000000
set_option maxRecDepth 100000
theorem low_next (k n : Nat) : low (k + 1) n = low k n ++ [UInt8.ofNat (n / 256 ^ k % 256)] := low_succ k n
theorem quo_next (k n : Nat) : n / 256 ^ (k + 1) = n / 256 ^ k / 256 := by rw [Nat.pow_succ, Nat.div_div_eq_div_mul]
theorem byt_mod (q : Nat) : Value.int .u8 ((q : Int) % 256) = byv (UInt8.ofNat (q % 256)) := by
  have := byt_low q 0
  simpa using this
theorem refLow_any (n m : Nat) (w : World) (hn : n < 4611686018427387904) (h1 : 1 ≤ m) (hm : m ≤ 4) :
    Calls Tryz.prog 53 #[.int .i64 (n : Int), .int .i64 (m : Int)] w fun e w' => e = .returned (.string ⟨(low m n).toArray⟩) ∧ Chg (fun _ => False) w w' := by
  obtain ⟨i_, hi, hz, hs, hbb⟩ := info_parts infoU8
  have HO0 := hH (own_start (base := w.heap.size) (size := 1) (Blk.new w 5 #[]) (Nat.le_refl _))
  have HC0 := hH ((Chg.refl (fun _ => False) w).alloc (.cells #[] 5))
  have HN0 := hH (show n = n / 256 ^ 0 by rw [Nat.pow_zero, Nat.div_one])
  go_enter Tryz.func53, Tryz.ntmps53
  go_wp2_with fail
  go_loopw [0, 5, 6] (fun nv b i wr => ∃ k : Nat, i = .int .i64 (k : Int) ∧ k ≤ m ∧ nv = .int .i64 ((n / 256 ^ k : Nat) : Int) ∧ OwB wr w.heap.size b (low k n) ∧ Chg (fun _ => False) w wr) (fun _ _ i _ => m - (intOf i).toNat)
  case atStart => exact ⟨0, rfl, Nat.zero_le _, by rw [← uH HN0], uH HO0, uH HC0⟩
  case round =>
    clear HO0 HC0 HN0
    obtain ⟨wq, rfl⟩ : ∃ wq : World, wq = wr := ⟨_, rfl⟩
    obtain ⟨k, rfl, hk, rfl, ho, hch⟩ := hrel
    have hll := low_len k n
    by_cases hlt : k < m
    · have hki : (k : Int) < (m : Int) := by omega
      obtain ⟨A2, c2, rfl⟩ := ho.val
      have HSN := hH (low_next k n)
      have HQN := hH (quo_next k n)
      have hq0 : n / 256 ^ k ≤ n := Nat.div_le_self _ _
      generalize low k n = B at *
      generalize n / 256 ^ k = q at *
      have hq1 : q < 4611686018427387904 := by omega
      have hb5 := byt_mod q
      have hm1 : B.length + 1 ≤ maxLen := by simp only [maxLen]; omega
      have hm2 : (B.length + 1) * 1 ≤ 140737488355328 := by omega
      have ho1 : ∀ u ∈ [Value.int .u8 ((q : Int) % 256)], u.oneCell' = true := by intro u hu; simp at hu; subst hu; rfl
      have HRN := hH ((rd_new wq wq.heap.size 5 [.int .u8 ((q : Int) % 256)] rfl).mono (T' := fun _ => True) (fun _ _ => trivial))
      have HOW := hH ((show wq.ownsRow w.heap.size 5 1 (.slice A2 B.length c2) B.length (B.map byv) from ho).alloc (.cells #[.int .u8 ((q : Int) % 256)] 5))
      have hbw : w.heap.size ≤ (wq.alloc (.cells #[.int .u8 ((q : Int) % 256)] 5)).heap.size := (hch.alloc (.cells #[.int .u8 ((q : Int) % 256)] 5)).size
      have HO4 := hH ho
      have HCH := hH hch
      have HB5 := hH hb5
      clear ho hch hb5
      go_wp2_with (first
        | (at_builtin
           refine wpList_append_rd _ rfl (.tmp 13) (.tmp 17) 46 rfl w.heap.size 5 i_ (.int .u8 0) 1 1 Tryz.underlying46 hi hz hs hbb rfl (Nat.succ_pos 0) _ B.length _ rfl (uH HOW) (fun _ => True) (some ⟨wq.heap.size, 0, none⟩) 1 1 [.int .u8 ((q : Int) % 256)] rfl rfl (uH HRN) ho1 hm1 hm2 hbw ?_
           intro v5 w5 ho5 hc5 hat
           have HO5 := hH ho5
           have HC5 := hH ((uH HCH).trans (((Chg.refl (fun k => (Value.slice A2 B.length c2).ownBlock = some k) wq).alloc (.cells #[.int .u8 ((q : Int) % 256)] 5)).trans hc5 (fun _ _ h => h)) (fun i hi e => by have := ((uH HO4).base i e).1; omega))
           clear ho5 hc5 hat))
      go_roundw
      case rel =>
        refine ⟨k + 1, by go_num, by omega, ?_, ?_, uH HC5⟩
        · rw [uH HQN]
          rfl
        · unfold OwB
          rw [uH HSN, List.length_append, List.map_append, List.map_singleton, ← uH HB5]
          exact uH HO5
      case measure => simp [intOf]; omega
    · obtain rfl : k = m := by omega
      have hki : ¬ (k : Int) < (k : Int) := by omega
      obtain ⟨g, c, rfl, qs⟩ := ho.str (fun e => by have := congrArg List.length e; rw [hll, List.length_nil] at this; omega)
      have HCH := hH hch
      clear ho hch hll
      go_wp2_with fail
      go_ret
      exact ⟨rfl, uH HCH⟩
theorem str_cat (l m : List UInt8) : (⟨l.toArray⟩ : ByteArray) ++ (⟨m.toArray⟩ : ByteArray) = ⟨(l ++ m).toArray⟩ := by
  apply ByteArray.ext
  simp
theorem refLow_1 (n : Nat) (w : World) (hn : n < 4611686018427387904) : Calls Tryz.prog 53 #[.int .i64 (n : Int), .int .i64 1] w fun e w' => e = .returned (.string ⟨(low 1 n).toArray⟩) ∧ Chg (fun _ => False) w w' := refLow_any n 1 w hn (by decide) (by decide)
theorem refLow_2 (n : Nat) (w : World) (hn : n < 4611686018427387904) : Calls Tryz.prog 53 #[.int .i64 (n : Int), .int .i64 2] w fun e w' => e = .returned (.string ⟨(low 2 n).toArray⟩) ∧ Chg (fun _ => False) w w' := refLow_any n 2 w hn (by decide) (by decide)
theorem refLow_4 (n : Nat) (w : World) (hn : n < 4611686018427387904) : Calls Tryz.prog 53 #[.int .i64 (n : Int), .int .i64 4] w fun e w' => e = .returned (.string ⟨(low 4 n).toArray⟩) ∧ Chg (fun _ => False) w w' := refLow_any n 4 w hn (by decide) (by decide)
theorem refLow_01 (w : World) : Calls Tryz.prog 53 #[.int .i64 0, .int .i64 1] w fun e w' => e = .returned (.string ⟨(low 1 0).toArray⟩) ∧ Chg (fun _ => False) w w' := refLow_any 0 1 w (by decide) (by decide) (by decide)
theorem refLow_11 (w : World) : Calls Tryz.prog 53 #[.int .i64 1, .int .i64 1] w fun e w' => e = .returned (.string ⟨(low 1 1).toArray⟩) ∧ Chg (fun _ => False) w w' := refLow_any 1 1 w (by decide) (by decide) (by decide)
theorem refText_any (s : ByteArray) (w : World) (hs : s.size < 4611686018427387904) :
    Calls Tryz.prog 54 #[.string s] w fun e w' => e = .returned (.string ⟨(textP s).toArray⟩) ∧ Chg (fun _ => False) w w' := by
  have HL := hH (refLow_2 s.size w hs)
  have hll := low_len 2 s.size
  have HE := hH (show (⟨(low 2 s.size).toArray⟩ : ByteArray) ++ s = ⟨(textP s).toArray⟩ by
    have : s = ⟨s.data.toList.toArray⟩ := by simp
    unfold textP
    rw [← str_cat])
  go_enter Tryz.func54, Tryz.ntmps54
  go_wp2_with (go_at_call 53; (with_reducible refine (uH HL).mono ?_); rintro e w2 ⟨rfl, hc2⟩; have HC2 := hH hc2; clear hc2)
  go_ret
  exact ⟨retv (congrArg Value.string (uH HE)), uH HC2⟩
end Go.Proofs.YtinekmjengckdaaGreatDoor

namespace Go.Proofs.YtinekmjengckdaaGreatDoor
open Go.RowKit
set_option maxHeartbeats 4000000
set_option maxRecDepth 100000
def flatTo {α : Type} (f : α → List UInt8) (h : List UInt8) (l : List α) (k : Nat) : ByteArray := ⟨(h ++ (l.take k).flatMap f).toArray⟩
theorem flatTo_zero {α : Type} (f : α → List UInt8) (h : List UInt8) (l : List α) : (⟨h.toArray⟩ : ByteArray) = flatTo f h l 0 := by simp [flatTo]
theorem flatTo_next {α : Type} (f : α → List UInt8) (h : List UInt8) {l : List α} {k : Nat} {x : α} (hx : l[k]? = some x) : flatTo f h l (k + 1) = flatTo f h l k ++ (⟨(f x).toArray⟩ : ByteArray) := by
  obtain ⟨hk, rfl⟩ := List.getElem?_eq_some_iff.1 hx
  unfold flatTo
  rw [str_cat, List.take_succ_eq_append_getElem hk, List.flatMap_append]
  simp
theorem flatTo_all {α : Type} (f : α → List UInt8) (h : List UInt8) (l : List α) : flatTo f h l l.length = ⟨(h ++ l.flatMap f).toArray⟩ := by simp [flatTo]
theorem flatTo_size {α : Type} (f : α → List UInt8) (h : List UInt8) (l : List α) (k : Nat) : (flatTo f h l k).size ≤ (h ++ l.flatMap f).length := by
  have e : (flatTo f h l k).size = (h ++ (l.take k).flatMap f).length := by simp [flatTo, ByteArray.size]
  have e2 : l.flatMap f = (l.take k).flatMap f ++ (l.drop k).flatMap f := by rw [← List.flatMap_append, List.take_append_drop]
  rw [e, e2]
  simp only [List.length_append]
  omega
theorem typ_all (t : List Nd) : flatTo nodeP (low 2 t.length) t t.length = ⟨(typP t).toArray⟩ := flatTo_all _ _ _
theorem nodeP_var {n : Nd} (h : n.kind = 31) : (⟨(low 1 0).toArray⟩ : ByteArray) ++ (⟨(low 4 n.num.toNat).toArray⟩ : ByteArray) = ⟨(nodeP n).toArray⟩ := by
  rw [str_cat]
  unfold nodeP
  rw [if_pos h]
  rfl
theorem nodeP_con {n : Nd} (h : n.kind = 32) : (⟨(low 1 1).toArray⟩ : ByteArray) ++ (⟨(textP n.text).toArray⟩ : ByteArray) ++ (⟨(low 1 n.kids.toNat).toArray⟩ : ByteArray) = ⟨(nodeP n).toArray⟩ := by
  rw [str_cat, str_cat]
  unfold nodeP
  rw [if_neg (by omega), List.append_assoc]
  rfl
theorem refTyp_any (t : List Nd) (v : Value) (T : Nat → Prop) (w : World) (hr : RdN T w v t) (hf : TypFit t) (hl : (typP t).length ≤ 900000000) :
    Calls Tryz.prog 55 #[v] w fun e w' => e = .returned (.string ⟨(typP t).toArray⟩) ∧ Chg (fun _ => False) w w' := by
  obtain ⟨A, c, rfl⟩ := hr.val
  have h4 := hf.1
  have HL0 := hH (refLow_2 t.length w (by omega))
  have HSZ := hH (fun k => (show (flatTo nodeP (low 2 t.length) t k).size ≤ 900000000 from Nat.le_trans (flatTo_size nodeP (low 2 t.length) t k) hl))
  have HR := hH hr
  have HF := hH hf
  have HZ := hH (flatTo_zero nodeP (low 2 t.length) t)
  have HALL := hH (typ_all t)
  clear hr hf hl
  go_enter Tryz.func55, Tryz.ntmps55
  go_wp2_with (go_at_call 53; (with_reducible refine (uH HL0).mono ?_); rintro e w2 ⟨rfl, hc2⟩; have HC2 := hH hc2; clear hc2)
  go_loopw [3, 4] (fun s i wr => ∃ k : Nat, i = .int .i64 (k : Int) ∧ k ≤ t.length ∧ s = .string (flatTo nodeP (low 2 t.length) t k) ∧ Chg (fun _ => False) w wr) (fun _ i _ => t.length - (intOf i).toNat)
  case atStart => exact ⟨0, rfl, Nat.zero_le _, by rw [uH HZ], uH HC2⟩
  case round =>
    clear HC2 HZ HL0
    obtain ⟨wq, rfl⟩ : ∃ wq : World, wq = wr := ⟨_, rfl⟩
    obtain ⟨k, rfl, hk, rfl, hch⟩ := hrel
    by_cases hlt : k < t.length
    · have hki : (k : Int) < (t.length : Int) := by omega
      have hx : t[k]? = some t[k] := List.getElem?_eq_getElem hlt
      generalize t[k] = x at *
      have hfx := (uH HF).2 x (List.mem_of_getElem? hx)
      have HNX := hH (flatTo_next nodeP (low 2 t.length) hx)
      obtain ⟨b, o, c3, hv, _, hok, d0, d1, d2, d3⟩ := ((uH HR).chg hch (fun _ _ _ => id)).at_ hx
      injection hv with hv1 hv2 hv3
      subst hv1 hv3
      clear hv2
      have HCQ := hH (Chg.refl (fun _ => False) wq)
      have KSW := hH (fun W (hW : Chg (fun _ => False) wq W) => show W.cell? ⟨b, o + k * 4, none⟩ = some (.int .i64 x.kind) ∧ W.cell? ⟨b, o + k * 4 + 1, none⟩ = some (.string x.text) ∧ W.cell? ⟨b, o + k * 4 + 2, none⟩ = some (.int .i64 x.num) ∧ W.cell? ⟨b, o + k * 4 + 3, none⟩ = some (.int .i64 x.kids) from ⟨(hW.cell (World.block_lt_of_cell? wq _ d0) id).trans d0, (hW.cell (World.block_lt_of_cell? wq _ d1) id).trans d1, (hW.cell (World.block_lt_of_cell? wq _ d2) id).trans d2, (hW.cell (World.block_lt_of_cell? wq _ d3) id).trans d3⟩)
      have hsz := uH HSZ k
      have HCH := hH hch
      generalize flatTo nodeP (low 2 t.length) t k = S at *
      clear hch hx d1 d2 d3
      rcases hfx with ⟨hkd, _, hn0, hn1, _⟩ | ⟨hkd, _, hk0, hk1, htx⟩
      · have HNP := hH (nodeP_var hkd)
        obtain ⟨m, hm⟩ : ∃ m : Nat, x.num = (m : Int) := ⟨x.num.toNat, by omega⟩
        rw [hm] at KSW HNP hn1
        rw [Int.toNat_natCast] at HNP
        rw [hkd] at d0 KSW
        have HL1 := hH (fun W (_ : Chg (fun _ => False) wq W) => refLow_01 W)
        have g1 : (⟨(low 1 0).toArray⟩ : ByteArray).size = 1 := rfl
        have g4 : (⟨(low 4 m).toArray⟩ : ByteArray).size = 4 := by show (low 4 m).toArray.size = 4; rw [List.size_toArray, low_len]
        have HL4 := hH (fun W (_ : Chg (fun _ => False) wq W) => refLow_4 m W (by omega))
        have HW1 := hH (w64 (m : Int) (by omega))
        generalize (⟨(low 1 0).toArray⟩ : ByteArray) = L1 at *
        generalize (⟨(low 4 m).toArray⟩ : ByteArray) = L4 at *
        have c1 := fun wx : World => run_string_add_sum (P := Tryz.prog) wx L1 L4 (by omega)
        have c2 := fun wx : World => run_string_add_sum (P := Tryz.prog) wx S (L1 ++ L4) (by rw [ByteArray.size_append]; omega)
        clear g1 g4 hsz
        clear hm hkd hn0
        have HCQ2 : Hid (Chg (fun _ => False) wq wq.drew) := hH (Chg.drew (Chg.refl _ _))
        have HKK := hH (uH KSW _ (uH HCQ2))
        clear HCQ
        have HCQ := HCQ2
        clear HCQ2
        go_wp2_with fail
        go_region_held3 (fun W => W.cell? ⟨b, o + k * 4, none⟩ = some (.int .i64 31) ∧ W.cell? ⟨b, o + k * 4 + 1, none⟩ = some (.string x.text) ∧ W.cell? ⟨b, o + k * 4 + 2, none⟩ = some (.int .i64 (m : Int)) ∧ W.cell? ⟨b, o + k * 4 + 3, none⟩ = some (.int .i64 x.kids)) (first | exact uH HKK | go_keep) (first
          | (go_at_call 53; (with_reducible refine (uH HL1 _ (uH HCQ)).mono ?_); rintro e w2 ⟨rfl, hc2⟩; have HN_ := hH ((uH HCQ).trans' hc2); clear HCQ; have HCQ := HN_; clear HN_ HKK; have HKK := hH (uH KSW _ (uH HCQ)); clear hc2)
          | (go_at_call 53; (with_reducible refine (uH HL4 _ (uH HCQ)).mono ?_); rintro e w2 ⟨rfl, hc2⟩; have HN_ := hH ((uH HCQ).trans' hc2); clear HCQ; have HCQ := HN_; clear HN_ HKK; have HKK := hH (uH KSW _ (uH HCQ)); clear hc2))
        go_wp2_with fail
        go_roundw
        case rel => exact ⟨k + 1, by go_num, by omega, by rw [uH HNX, ← uH HNP], (uH HCH).trans' (uH HCQ)⟩
        case measure => simp [intOf]; omega
      · have HNP := hH (nodeP_con hkd)
        obtain ⟨m, hm⟩ : ∃ m : Nat, x.kids = (m : Int) := ⟨x.kids.toNat, by omega⟩
        rw [hm] at KSW HNP hk1
        rw [Int.toNat_natCast] at HNP
        rw [hkd] at d0 KSW
        have HL1 := hH (fun W (_ : Chg (fun _ => False) wq W) => refLow_11 W)
        have g1 : (⟨(low 1 1).toArray⟩ : ByteArray).size = 1 := rfl
        have g4 : (⟨(low 1 m).toArray⟩ : ByteArray).size = 1 := by show (low 1 m).toArray.size = 1; rw [List.size_toArray, low_len]
        have g2 : (⟨(textP x.text).toArray⟩ : ByteArray).size = 2 + x.text.size := by show (textP x.text).toArray.size = _; rw [List.size_toArray, text_plen]
        have HL4 := hH (fun W (_ : Chg (fun _ => False) wq W) => refLow_1 m W (by omega))
        have HLT := hH (fun W (_ : Chg (fun _ => False) wq W) => refText_any x.text W (by omega))
        generalize (⟨(low 1 1).toArray⟩ : ByteArray) = L1 at *
        generalize (⟨(low 1 m).toArray⟩ : ByteArray) = L4 at *
        generalize (⟨(textP x.text).toArray⟩ : ByteArray) = L2 at *
        have c1 := fun wx : World => run_string_add_sum (P := Tryz.prog) wx L1 L2 (by omega)
        have c3 := fun wx : World => run_string_add_sum (P := Tryz.prog) wx (L1 ++ L2) L4 (by rw [ByteArray.size_append]; omega)
        have c2 := fun wx : World => run_string_add_sum (P := Tryz.prog) wx S (L1 ++ L2 ++ L4) (by rw [ByteArray.size_append, ByteArray.size_append]; omega)
        clear g1 g4 g2 hsz
        clear hm hkd hk0
        have HCQ2 : Hid (Chg (fun _ => False) wq wq.drew) := hH (Chg.drew (Chg.refl _ _))
        have HKK := hH (uH KSW _ (uH HCQ2))
        clear HCQ
        have HCQ := HCQ2
        clear HCQ2
        go_wp2_with fail
        go_region_held3 (fun W => W.cell? ⟨b, o + k * 4, none⟩ = some (.int .i64 32) ∧ W.cell? ⟨b, o + k * 4 + 1, none⟩ = some (.string x.text) ∧ W.cell? ⟨b, o + k * 4 + 2, none⟩ = some (.int .i64 x.num) ∧ W.cell? ⟨b, o + k * 4 + 3, none⟩ = some (.int .i64 (m : Int))) (first | exact uH HKK | go_keep) (first
          | (go_at_call 54; (with_reducible refine (uH HLT _ (uH HCQ)).mono ?_); rintro e w2 ⟨rfl, hc2⟩; have HN_ := hH ((uH HCQ).trans' hc2); clear HCQ; have HCQ := HN_; clear HN_ HKK; have HKK := hH (uH KSW _ (uH HCQ)); clear hc2)
          | (go_at_call 53; (with_reducible refine (uH HL1 _ (uH HCQ)).mono ?_); rintro e w2 ⟨rfl, hc2⟩; have HN_ := hH ((uH HCQ).trans' hc2); clear HCQ; have HCQ := HN_; clear HN_ HKK; have HKK := hH (uH KSW _ (uH HCQ)); clear hc2)
          | (go_at_call 53; (with_reducible refine (uH HL4 _ (uH HCQ)).mono ?_); rintro e w2 ⟨rfl, hc2⟩; have HN_ := hH ((uH HCQ).trans' hc2); clear HCQ; have HCQ := HN_; clear HN_ HKK; have HKK := hH (uH KSW _ (uH HCQ)); clear hc2))
        go_wp2_with fail
        go_roundw
        case rel => exact ⟨k + 1, by go_num, by omega, by rw [uH HNX, ← uH HNP], (uH HCH).trans' (uH HCQ)⟩
        case measure => simp [intOf]; omega
    · obtain rfl : k = t.length := by omega
      have hki : ¬ (t.length : Int) < (t.length : Int) := by omega
      have HCH := hH hch
      rw [uH HALL]
      clear hch
      go_wp2_with fail
      go_ret
      exact ⟨rfl, uH HCH⟩
end Go.Proofs.YtinekmjengckdaaGreatDoor
