/-
  Layer 23: an interface's bytes, but for the sum. Layer 23: the sum of bytes. Layer 23: an interface as bytes; its digest. Rows of declarations whose constructors' arguments are rows of known room.
-/
import Derived.Test.YtinekmjengckdaaGreatDoorA24
import Derived.Test.YtinekmjengckdaaGreatDoorA25
import Derived.Test.YtinekmjengckdaaGreatDoorA03
import Derived.Lib.SmallJoins
import Derived.Test.YtinekmjengckdaaGreatDoorA04
import Derived.Test.YtinekmjengckdaaGreatDoorA20
import Derived.Test.YtinekmjengckdaaGreatDoorA13
namespace Go.Proofs.YtinekmjengckdaaGreatDoor
open Go.RowKit
set_option maxHeartbeats 4000000
set_option maxRecDepth 100000
theorem magic_len : magicB.length = 4 := rfl
theorem ifAll_any (i : Ifc) (vo vd vf vs : Value) (T : Nat → Prop) (w : World) (hr : RdIf T w i vo vd vf vs) (hf : IfcFit i) (hl : (allP i).length ≤ 1000000000) :
    Calls Tryz.prog 23 #[.agg #[.string i.name, vo, vd, vf, vs]] w fun e w' => ∃ v', e = .returned v' ∧ OwB w' w.heap.size v' (allP i) ∧ Chg (fun _ => False) w w' := by
  obtain ⟨A1, c1, rfl⟩ := RdR.val hr.opens
  obtain ⟨A2, c2, rfl⟩ := RdR.val hr.datas
  obtain ⟨A3, c3, rfl⟩ := RdR.val hr.fixes
  obtain ⟨A4, c4, rfl⟩ := RdR.val hr.sigs
  have b0 := Blk.new w 27 #[.string i.name, .slice A1 i.opens.length c1, .slice A2 i.datas.length c2, .slice A3 i.fixes.length c3, .slice A4 i.sigs.length c4]
  have cc := (Chg.refl (fun _ => False) w).alloc (.cells #[.string i.name, .slice A1 i.opens.length c1, .slice A2 i.datas.length c2, .slice A3 i.fixes.length c3, .slice A4 i.sigs.length c4] 27)
  have HB0 := hH (b0.alloc (.cells #[.int .u8 84, .int .u8 82, .int .u8 71, .int .u8 73] 5 (4, 5)))
  have cc1 := cc.alloc (.cells #[.int .u8 84, .int .u8 82, .int .u8 71, .int .u8 73] 5 (4, 5))
  have HCC := hH cc1
  have hz1 : w.heap.size ≤ ((w.alloc (.cells #[.string i.name, .slice A1 i.opens.length c1, .slice A2 i.datas.length c2, .slice A3 i.fixes.length c3, .slice A4 i.sigs.length c4] 27)).alloc (.cells #[.int .u8 84, .int .u8 82, .int .u8 71, .int .u8 73] 5 (4, 5))).heap.size := cc1.size
  have HMC := hH (show ∀ j u, (magicB.map byv)[j]? = some u → ((w.alloc (.cells #[.string i.name, .slice A1 i.opens.length c1, .slice A2 i.datas.length c2, .slice A3 i.fixes.length c3, .slice A4 i.sigs.length c4] 27)).alloc (.cells #[.int .u8 84, .int .u8 82, .int .u8 71, .int .u8 73] 5 (4, 5))).cell? ((⟨w.heap.size + 1, 0, none⟩ : Addr).add j) = some u from fun j u hu => by
    rw [add_flat, Nat.zero_add]
    exact (Go.Joins.cell_alloc_mark_at (w.alloc (.cells #[.string i.name, .slice A1 i.opens.length c1, .slice A2 i.datas.length c2, .slice A3 i.fixes.length c3, .slice A4 i.sigs.length c4] 27)) #[.int .u8 84, .int .u8 82, .int .u8 71, .int .u8 73] 5 (4, 5) (w.heap.size + 1) j (size_alloc _ _).symm).trans (by simpa [magicB, byv] using hu))
  have HR0 := hH (hr.low.chg cc1 (fun _ _ _ => id))
  have qc := fun n c => Go.Joins.run_convert_bytes_const_at (P := Tryz.prog) (w.alloc (.cells #[.string i.name, .slice A1 i.opens.length c1, .slice A2 i.datas.length c2, .slice A3 i.fixes.length c3, .slice A4 i.sigs.length c4] 27)) 46 5 #[.int .u8 84, .int .u8 82, .int .u8 71, .int .u8 73] n c (w.heap.size + 1) (size_alloc _ _).symm Tryz.underlying46 Tryz.underlying5
  have HF := hH hf
  have hL := hl
  unfold allP at hL
  simp only [List.length_append, magic_len] at hL
  have hns : i.name.size ≤ 1000000000 := by
    have := text_plen i.name
    omega
  have hA : allP i = ((((magicB ++ textP i.name) ++ rowP opnP i.opens) ++ rowP dtP i.datas) ++ rowP fxP i.fixes) ++ rowP sgP i.sigs := by unfold allP; simp only [List.append_assoc]
  rw [hA]
  clear hr hf b0 cc cc1 hl hA
  go_enter Tryz.func23, Tryz.ntmps23
  go_wp2_with (first
    | (go_at_call 71
       refine (text_full magicB i.name (w.heap.size + 1) w.heap.size _ (uH HMC) hz1 (by decide) hns).mono ?_
       rintro e w1 ⟨v1, rfl, ho1, hc1, hk1⟩
       have H1 := hH (Pt.refl ho1)
       have HC1 := hH ((uH HCC).trans' hc1)
       have HB1 := hH ((uH HB0).chg hc1 id)
       have HR1 := hH ((uH HR0).chg hc1 (fun _ _ _ => id))
       have KSW := hH (show ∀ W v bs, Pt w.heap.size w1 v1 W v bs → W.cell? ⟨w.heap.size, 0, none⟩ = some (.string i.name) ∧ W.cell? ⟨w.heap.size, 1, none⟩ = some (.slice A1 i.opens.length c1) ∧ W.cell? ⟨w.heap.size, 2, none⟩ = some (.slice A2 i.datas.length c2) ∧ W.cell? ⟨w.heap.size, 3, none⟩ = some (.slice A3 i.fixes.length c3) ∧ W.cell? ⟨w.heap.size, 4, none⟩ = some (.slice A4 i.sigs.length c4) from fun W v bs hp => by
         have hB := hp.blk ho1 (uH HB1) (by decide)
         exact ⟨hB.cell 0, hB.cell 1, hB.cell 2, hB.cell 3, hB.cell 4⟩)
       have HRI := hH (fun W v bs (hp : Pt w.heap.size w1 v1 W v bs) => (uH HR1).chg (hp.low ho1) (fun b hb _ hk => by have := hb.2; omega))
       have HCW := hH (fun W v bs (hp : Pt w.heap.size w1 v1 W v bs) => (uH HC1).trans hp.2.1 (fun j hj e => by
         have := (ho1.base j e).1
         omega))
       clear ho1 hc1 hk1
       obtain ⟨q0, q1, q2, q3, q4⟩ := uH KSW _ _ _ (uH H1))
    | (go_at_call 72
       refine (row_opens (magicB ++ textP i.name) i.opens _ _ _ w.heap.size _ (uH H1).1 (Nat.le_trans (uH HC1).size (uH H1).2.1.size) (uH HRI _ _ _ (uH H1)).opens (fun _ h => h.2) (uH HF).open_ (by simp only [List.length_append, magic_len]; omega)).mono ?_
       rintro e wH2 ⟨vH2, rfl, h2⟩
       have H2 := hH (Pt.trans (uH H1) h2)
       clear h2
       obtain ⟨q0, q1, q2, q3, q4⟩ := uH KSW _ _ _ (uH H2))
    | (go_at_call 74
       refine (row_datas ((magicB ++ textP i.name) ++ rowP opnP i.opens) i.datas _ _ _ w.heap.size _ (uH H2).1 (Nat.le_trans (uH HC1).size (uH H2).2.1.size) (uH HRI _ _ _ (uH H2)).datas (fun _ h => h.2) (uH HF).data_ (by simp only [List.length_append, magic_len]; omega)).mono ?_
       rintro e wH3 ⟨vH3, rfl, h2⟩
       have H3 := hH (Pt.trans (uH H2) h2)
       clear h2
       obtain ⟨q0, q1, q2, q3, q4⟩ := uH KSW _ _ _ (uH H3))
    | (go_at_call 78
       refine (row_fixes (((magicB ++ textP i.name) ++ rowP opnP i.opens) ++ rowP dtP i.datas) i.fixes _ _ _ w.heap.size _ (uH H3).1 (Nat.le_trans (uH HC1).size (uH H3).2.1.size) (uH HRI _ _ _ (uH H3)).fixes (fun _ h => h.2) (uH HF).fix_ (by simp only [List.length_append, magic_len]; omega)).mono ?_
       rintro e wH4 ⟨vH4, rfl, h2⟩
       have H4 := hH (Pt.trans (uH H3) h2)
       clear h2
       obtain ⟨q0, q1, q2, q3, q4⟩ := uH KSW _ _ _ (uH H4))
    | (go_at_call 80
       refine (row_sigs ((((magicB ++ textP i.name) ++ rowP opnP i.opens) ++ rowP dtP i.datas) ++ rowP fxP i.fixes) i.sigs _ _ _ w.heap.size _ (uH H4).1 (Nat.le_trans (uH HC1).size (uH H4).2.1.size) (uH HRI _ _ _ (uH H4)).sigs.rd (fun _ h => h.2) (uH HF).sig_ (by simp only [List.length_append, magic_len]; omega)).mono ?_
       rintro e wH5 ⟨vH5, rfl, h2⟩
       have H5 := hH (Pt.trans (uH H4) h2)
       clear h2
       obtain ⟨q0, q1, q2, q3, q4⟩ := uH KSW _ _ _ (uH H5)))
  go_ret
  exact ⟨_, rfl, (uH H5).1, uH HCW _ _ _ (uH H5)⟩
end Go.Proofs.YtinekmjengckdaaGreatDoor

namespace Go.Proofs.YtinekmjengckdaaGreatDoor
open Go.RowKit
set_option maxHeartbeats 1000000
set_option maxRecDepth 100000
def sumTo (s : ByteArray) (k : Nat) : Nat := sumB (s.data.toList.take k)
theorem sum_end (s : ByteArray) : sumTo s s.size = sumB s.data.toList := by
  unfold sumTo
  rw [List.take_of_length_le]
  rw [Array.length_toList]
  exact Nat.le_refl _
theorem foldl_take {α β : Type} (f : β → α → β) (b : β) (l : List α) (k : Nat) (x : α) (h : l[k]? = some x) : (l.take (k + 1)).foldl f b = f ((l.take k).foldl f b) x := by
  rw [List.take_add_one, h, List.foldl_append]
  rfl
theorem sum_step (s : ByteArray) (k : Nat) (h : k < s.size) : sumTo s (k + 1) = sumStep (sumTo s k) s[k] :=
  foldl_take sumStep 2166136261 s.data.toList k s[k] (by
    rw [Array.getElem?_toList]
    exact Array.getElem?_eq_getElem h)
theorem step_val (n : Nat) (b : UInt8) (hn : n < 4294967296) : Value.int .u32 (bits .xor .u32 (n : Int) ((b.toNat : Int) % 4294967296) * 16777619 % 4294967296) = .int .u32 (sumStep n b : Int) := by
  have hb := b.toNat_lt
  have e : ((b.toNat : Int) % 4294967296) = (b.toNat : Int) := by omega
  rw [e, u32_xor_nat n b.toNat hn (by omega)]
  unfold sumStep
  congr 1
theorem sum_lt (s : ByteArray) (k : Nat) : sumTo s k < 4294967296 := sumB_lt _
theorem imgSum_any (s : ByteArray) (w : World) (hs : s.size ≤ 9223372036854775807) : Calls Tryz.prog 25 #[.string s] w fun e w' => e = .returned (.int .u32 (sumB s.data.toList : Int)) ∧ w = w' := by
  have HE := hH (sum_end s)
  have HST := hH (fun k (h : k < s.size) => sum_step s k h)
  have HLT := hH (fun k => sum_lt s k)
  go_enter Tryz.func25, Tryz.ntmps25
  go_wp2_with fail
  go_loopw [3, 7] (fun n i wr => ∃ k : Nat, i = .int .i64 (k : Int) ∧ k ≤ s.size ∧ n = .int .u32 (sumTo s k : Int) ∧ wr = w) (fun _ i _ => s.size - (intOf i).toNat)
  case atStart => exact ⟨0, rfl, Nat.zero_le _, rfl, rfl⟩
  case round =>
    obtain ⟨k, rfl, hk, rfl, rfl⟩ := hrel
    by_cases hlt : k < s.size
    · have hki : (k : Int) < (s.size : Int) := by omega
      have hx := uH HST k hlt
      have HX := hH hx
      clear hx
      generalize hn : sumTo s k = n at *
      go_wp2_with fail
      go_roundw
      case rel => exact ⟨k + 1, by go_num, by omega, by rw [uH HX]; exact step_val _ _ (hn ▸ uH HLT k), by first | rfl | trivial⟩
      case measure => simp [intOf]; omega
    · obtain rfl : k = s.size := by omega
      have hki : ¬ (s.size : Int) < (s.size : Int) := by omega
      go_wp2_with fail
      go_ret
      exact ⟨retv (intv (by rw [uH HE])), rfl⟩
theorem refSum_any (s : ByteArray) (w : World) (hs : s.size ≤ 9223372036854775807) : Calls Tryz.prog 18 #[.string s] w fun e w' => e = .returned (.int .u32 (sumB s.data.toList : Int)) ∧ w = w' := by
  have HE := hH (sum_end s)
  have HST := hH (fun k (h : k < s.size) => sum_step s k h)
  have HLT := hH (fun k => sum_lt s k)
  go_enter Tryz.func18, Tryz.ntmps18
  go_wp2_with fail
  go_loopw [3, 4] (fun n i wr => ∃ k : Nat, i = .int .i64 (k : Int) ∧ k ≤ s.size ∧ n = .int .u32 (sumTo s k : Int) ∧ wr = w) (fun _ i _ => s.size - (intOf i).toNat)
  case atStart => exact ⟨0, rfl, Nat.zero_le _, rfl, rfl⟩
  case round =>
    obtain ⟨k, rfl, hk, rfl, rfl⟩ := hrel
    by_cases hlt : k < s.size
    · have hki : (k : Int) < (s.size : Int) := by omega
      have hx := uH HST k hlt
      have HX := hH hx
      clear hx
      generalize hn : sumTo s k = n at *
      go_wp2_with fail
      go_roundw
      case rel => exact ⟨k + 1, by go_num, by omega, by rw [uH HX]; exact step_val _ _ (hn ▸ uH HLT k), by first | rfl | trivial⟩
      case measure => simp [intOf]; omega
    · obtain rfl : k = s.size := by omega
      have hki : ¬ (s.size : Int) < (s.size : Int) := by omega
      go_wp2_with fail
      go_ret
      exact ⟨retv (intv (by rw [uH HE])), rfl⟩
end Go.Proofs.YtinekmjengckdaaGreatDoor

namespace Go.Proofs.YtinekmjengckdaaGreatDoor
open Go.RowKit
set_option maxHeartbeats 4000000
set_option maxRecDepth 100000
theorem OwB.str {w : World} {base : Nat} {v : Value} {bs : List UInt8} (h : OwB w base v bs) (hne : bs ≠ []) : ∃ g c, v = .slice (some ⟨g, 0, none⟩) bs.length c ∧ (convert 46 9 (.slice (some ⟨g, 0, none⟩) bs.length c)).run Tryz.prog w = .ok (.string ⟨bs.toArray⟩) w := by
  have hn : 0 < bs.length := List.length_pos_iff.2 hne
  obtain ⟨g, c, hv, _, _⟩ := World.ownsRow.form h hn
  have hc := World.ownsRow.cells (g := g) h (by rw [hv]; rfl)
  exact ⟨g, c, hv, run_str_of_bytes w 46 9 5 ⟨g, 0, none⟩ c bs.length bs rfl Tryz.underlying46 Tryz.underlying5 Tryz.underlying9 hc⟩
structure Sz (i : Ifc) : Prop where
  short : IfcShort i
  len : (allP i).length ≤ 900000000
  fx : i.fixes.length ≤ 1000000
def encS (i : Ifc) : ByteArray := if ifcB ltS i then ⟨(encP i).toArray⟩ else ⟨#[]⟩
def digI (i : Ifc) : Nat := if ifcB ltS i then sumB (allP i) else 0
theorem encode_any (i : Ifc) (vo vd vf vs : Value) (T : Nat → Prop) (w : World) (hr : RdIf T w i vo vd vf vs) (hs : Sz i) (lay : Lay w) :
    Calls Tryz.prog 11 #[.agg #[.string i.name, vo, vd, vf, vs]] w fun e w' => e = .returned (.tuple #[.string (encS i), .int .i64 (ifE i)]) ∧ Chg (fun _ => False) w w' := by
  obtain ⟨A1, c1, rfl⟩ := RdR.val hr.opens
  obtain ⟨A2, c2, rfl⟩ := RdR.val hr.datas
  obtain ⟨A3, c3, rfl⟩ := RdR.val hr.fixes
  obtain ⟨A4, c4, rfl⟩ := RdR.val hr.sigs
  have h0 := (Chg.refl (fun _ => False) w).alloc (.cells #[.string i.name, .slice A1 i.opens.length c1, .slice A2 i.datas.length c2, .slice A3 i.fixes.length c3, .slice A4 i.sigs.length c4] 27)
  have hbx := Blk.new w 27 #[.string i.name, .slice A1 i.opens.length c1, .slice A2 i.datas.length c2, .slice A3 i.fixes.length c3, .slice A4 i.sigs.length c4]
  have KSW := hH (fun W' (hW : Chg (fun _ => False) (w.alloc (.cells #[.string i.name, .slice A1 i.opens.length c1, .slice A2 i.datas.length c2, .slice A3 i.fixes.length c3, .slice A4 i.sigs.length c4] 27)) W') => show W'.cell? ⟨w.heap.size, 0, none⟩ = some (.string i.name) ∧ W'.cell? ⟨w.heap.size, 1, none⟩ = some (.slice A1 i.opens.length c1) ∧ W'.cell? ⟨w.heap.size, 2, none⟩ = some (.slice A2 i.datas.length c2) ∧ W'.cell? ⟨w.heap.size, 3, none⟩ = some (.slice A3 i.fixes.length c3) ∧ W'.cell? ⟨w.heap.size, 4, none⟩ = some (.slice A4 i.sigs.length c4) from ⟨(hbx.chg hW id).cell 0, (hbx.chg hW id).cell 1, (hbx.chg hW id).cell 2, (hbx.chg hW id).cell 3, (hbx.chg hW id).cell 4⟩)
  have HCK := hH (fun W (hW : Chg (fun _ => False) (w.alloc (.cells #[.string i.name, .slice A1 i.opens.length c1, .slice A2 i.datas.length c2, .slice A3 i.fixes.length c3, .slice A4 i.sigs.length c4] 27)) W) => ifCheck_any i _ _ _ _ T W (hr.chg (h0.trans' hW) (fun _ _ _ => id)) hs.fx (lay.chg (h0.trans' hW) (fun _ _ => id)))
  have H0 := hH h0
  have HD := hH (Chg.refl (fun _ => False) (w.alloc (.cells #[.string i.name, .slice A1 i.opens.length c1, .slice A2 i.datas.length c2, .slice A3 i.fixes.length c3, .slice A4 i.sigs.length c4] 27)))
  (obtain ⟨q0, q1, q2, q3, q4⟩ := uH KSW _ (uH HD))
  have hE : ifE i = if ifcB ltS i then 0 else 230 := rfl
  rw [hE] at HCK
  clear hE
  cases hb : ifcB ltS i
  · rw [hb] at HCK
    clear hr h0 hbx hs lay
    go_enter Tryz.func11, Tryz.ntmps11
    go_wp2_with (go_at_call 16; (with_reducible refine (uH HCK _ (uH HD)).mono ?_); rintro e w2 ⟨rfl, hc2⟩; replace HD := hH ((uH HD).trans' hc2); clear hc2; (obtain ⟨q0, q1, q2, q3, q4⟩ := uH KSW _ (uH HD)))
    go_ret2
    exact ⟨retv (by unfold encS ifE; rw [hb]; rfl), (uH H0).trans' (uH HD)⟩
  · rw [hb] at HCK
    have hfit := ifc_fit hb hs.short
    have hl := hs.len
    have HAL := hH (fun W (hW : Chg (fun _ => False) (w.alloc (.cells #[.string i.name, .slice A1 i.opens.length c1, .slice A2 i.datas.length c2, .slice A3 i.fixes.length c3, .slice A4 i.sigs.length c4] 27)) W) => ifAll_any i _ _ _ _ T W (hr.chg (h0.trans' hW) (fun _ _ _ => id)) hfit (by omega))
    have HNE := hH (show allP i ≠ [] from by unfold allP magicB; simp)
    have HNE4 := hH (show allP i ++ low 4 (sumB (allP i)) ≠ [] from by unfold allP magicB; simp)
    have HSM := hH (fun W => show Calls Tryz.prog 25 #[.string ⟨(allP i).toArray⟩] W fun e w' => e = .returned (.int .u32 (sumB (allP i) : Int)) ∧ W = w' from by
      have := imgSum_any ⟨(allP i).toArray⟩ W (by show (allP i).toArray.size ≤ _; simp; omega)
      simpa using this)
    have hws : IntKind.i64.wrap (sumB (allP i) : Int) = (sumB (allP i) : Int) := by
      have := sumB_lt (allP i)
      simp only [IntKind.wrap, IntKind.bits, IntKind.signed]
      simp
      omega
    have hws2 : wrap64 (sumB (allP i) : Int) = (sumB (allP i) : Int) := w64 _ (by have := sumB_lt (allP i); omega)
    clear hr h0 hbx hfit hs lay
    go_enter Tryz.func11, Tryz.ntmps11
    go_wp2_with (first
      | (go_at_call 16; (with_reducible refine (uH HCK _ (uH HD)).mono ?_); rintro e w2 ⟨rfl, hc2⟩; replace HD := hH ((uH HD).trans' hc2); clear hc2; (obtain ⟨q0, q1, q2, q3, q4⟩ := uH KSW _ (uH HD)))
      | (go_at_call 23; (with_reducible refine (uH HAL _ (uH HD)).mono ?_); rintro e w3 ⟨v3, rfl, ho3, hc2⟩; (obtain ⟨g, c9, hv3, qs⟩ := ho3.str (uH HNE)); (obtain rfl := hv3); have HO3 := hH ho3; have HZZ := hH hc2.size; have HC3 := hH (show w.heap.size ≤ w2.heap.size from Nat.le_trans (uH H0).size (uH HD).size); replace HD := hH ((uH HD).trans' hc2); clear hc2; (obtain ⟨q0, q1, q2, q3, q4⟩ := uH KSW _ (uH HD)); clear ho3)
      | (go_at_call 25; (with_reducible refine (uH HSM _).mono ?_); rintro e w4 ⟨rfl, rfl⟩)
      | (go_at_call 24; refine (num4_any (allP i) (sumB (allP i)) _ w2.heap.size _ (uH HO3) (uH HZZ) (by have := sumB_lt (allP i); omega) (by omega)).mono ?_; rintro e w5 ⟨v5, rfl, h5⟩; (obtain ⟨g5, c10, hv5, qs5⟩ := h5.1.str (uH HNE4)); (obtain rfl := hv5); rw [List.length_append] at qs5; have H5 := hH h5; clear h5))
    go_ret2
    exact ⟨retv (by unfold encS ifE encP; rw [hb]; rfl), ((uH H0).trans' (uH HD)).trans (uH H5).2.1 (fun j hj e => by have := ((uH HO3).base j e).1; have := uH HC3; omega)⟩
theorem digest_any (i : Ifc) (vo vd vf vs : Value) (T : Nat → Prop) (w : World) (hr : RdIf T w i vo vd vf vs) (hs : Sz i) (lay : Lay w) :
    Calls Tryz.prog 12 #[.agg #[.string i.name, vo, vd, vf, vs]] w fun e w' => e = .returned (.tuple #[.int .u32 (digI i : Int), .int .i64 (ifE i)]) ∧ Chg (fun _ => False) w w' := by
  obtain ⟨A1, c1, rfl⟩ := RdR.val hr.opens
  obtain ⟨A2, c2, rfl⟩ := RdR.val hr.datas
  obtain ⟨A3, c3, rfl⟩ := RdR.val hr.fixes
  obtain ⟨A4, c4, rfl⟩ := RdR.val hr.sigs
  have h0 := (Chg.refl (fun _ => False) w).alloc (.cells #[.string i.name, .slice A1 i.opens.length c1, .slice A2 i.datas.length c2, .slice A3 i.fixes.length c3, .slice A4 i.sigs.length c4] 27)
  have hbx := Blk.new w 27 #[.string i.name, .slice A1 i.opens.length c1, .slice A2 i.datas.length c2, .slice A3 i.fixes.length c3, .slice A4 i.sigs.length c4]
  have KSW := hH (fun W' (hW : Chg (fun _ => False) (w.alloc (.cells #[.string i.name, .slice A1 i.opens.length c1, .slice A2 i.datas.length c2, .slice A3 i.fixes.length c3, .slice A4 i.sigs.length c4] 27)) W') => show W'.cell? ⟨w.heap.size, 0, none⟩ = some (.string i.name) ∧ W'.cell? ⟨w.heap.size, 1, none⟩ = some (.slice A1 i.opens.length c1) ∧ W'.cell? ⟨w.heap.size, 2, none⟩ = some (.slice A2 i.datas.length c2) ∧ W'.cell? ⟨w.heap.size, 3, none⟩ = some (.slice A3 i.fixes.length c3) ∧ W'.cell? ⟨w.heap.size, 4, none⟩ = some (.slice A4 i.sigs.length c4) from ⟨(hbx.chg hW id).cell 0, (hbx.chg hW id).cell 1, (hbx.chg hW id).cell 2, (hbx.chg hW id).cell 3, (hbx.chg hW id).cell 4⟩)
  have HCK := hH (fun W (hW : Chg (fun _ => False) (w.alloc (.cells #[.string i.name, .slice A1 i.opens.length c1, .slice A2 i.datas.length c2, .slice A3 i.fixes.length c3, .slice A4 i.sigs.length c4] 27)) W) => ifCheck_any i _ _ _ _ T W (hr.chg (h0.trans' hW) (fun _ _ _ => id)) hs.fx (lay.chg (h0.trans' hW) (fun _ _ => id)))
  have H0 := hH h0
  have HD := hH (Chg.refl (fun _ => False) (w.alloc (.cells #[.string i.name, .slice A1 i.opens.length c1, .slice A2 i.datas.length c2, .slice A3 i.fixes.length c3, .slice A4 i.sigs.length c4] 27)))
  (obtain ⟨q0, q1, q2, q3, q4⟩ := uH KSW _ (uH HD))
  have hE : ifE i = if ifcB ltS i then 0 else 230 := rfl
  rw [hE] at HCK
  clear hE
  cases hb : ifcB ltS i
  · rw [hb] at HCK
    clear hr h0 hbx hs lay
    go_enter Tryz.func12, Tryz.ntmps12
    go_wp2_with (go_at_call 16; (with_reducible refine (uH HCK _ (uH HD)).mono ?_); rintro e w2 ⟨rfl, hc2⟩; replace HD := hH ((uH HD).trans' hc2); clear hc2; (obtain ⟨q0, q1, q2, q3, q4⟩ := uH KSW _ (uH HD)))
    go_ret2
    exact ⟨retv (by unfold digI ifE; rw [hb]; rfl), (uH H0).trans' (uH HD)⟩
  · rw [hb] at HCK
    have hfit := ifc_fit hb hs.short
    have hl := hs.len
    have HAL := hH (fun W (hW : Chg (fun _ => False) (w.alloc (.cells #[.string i.name, .slice A1 i.opens.length c1, .slice A2 i.datas.length c2, .slice A3 i.fixes.length c3, .slice A4 i.sigs.length c4] 27)) W) => ifAll_any i _ _ _ _ T W (hr.chg (h0.trans' hW) (fun _ _ _ => id)) hfit (by omega))
    have HNE := hH (show allP i ≠ [] from by unfold allP magicB; simp)
    have HNE4 := hH (show allP i ++ low 4 (sumB (allP i)) ≠ [] from by unfold allP magicB; simp)
    have HSM := hH (fun W => show Calls Tryz.prog 25 #[.string ⟨(allP i).toArray⟩] W fun e w' => e = .returned (.int .u32 (sumB (allP i) : Int)) ∧ W = w' from by
      have := imgSum_any ⟨(allP i).toArray⟩ W (by show (allP i).toArray.size ≤ _; simp; omega)
      simpa using this)
    have hws : IntKind.i64.wrap (sumB (allP i) : Int) = (sumB (allP i) : Int) := by
      have := sumB_lt (allP i)
      simp only [IntKind.wrap, IntKind.bits, IntKind.signed]
      simp
      omega
    have hws2 : wrap64 (sumB (allP i) : Int) = (sumB (allP i) : Int) := w64 _ (by have := sumB_lt (allP i); omega)
    clear hr h0 hbx hfit hs lay
    go_enter Tryz.func12, Tryz.ntmps12
    go_wp2_with (first
      | (go_at_call 16; (with_reducible refine (uH HCK _ (uH HD)).mono ?_); rintro e w2 ⟨rfl, hc2⟩; replace HD := hH ((uH HD).trans' hc2); clear hc2; (obtain ⟨q0, q1, q2, q3, q4⟩ := uH KSW _ (uH HD)))
      | (go_at_call 23; (with_reducible refine (uH HAL _ (uH HD)).mono ?_); rintro e w3 ⟨v3, rfl, ho3, hc2⟩; (obtain ⟨g, c9, hv3, qs⟩ := ho3.str (uH HNE)); (obtain rfl := hv3); have HO3 := hH ho3; have HZZ := hH hc2.size; have HC3 := hH (show w.heap.size ≤ w2.heap.size from Nat.le_trans (uH H0).size (uH HD).size); replace HD := hH ((uH HD).trans' hc2); clear hc2; (obtain ⟨q0, q1, q2, q3, q4⟩ := uH KSW _ (uH HD)); clear ho3)
      | (go_at_call 25; (with_reducible refine (uH HSM _).mono ?_); rintro e w4 ⟨rfl, rfl⟩))
    go_ret2
    exact ⟨retv (by unfold digI ifE; rw [hb]; rfl), (uH H0).trans' (uH HD)⟩
end Go.Proofs.YtinekmjengckdaaGreatDoor

namespace Go.Proofs.YtinekmjengckdaaGreatDoor
open Go.RowKit
set_option maxHeartbeats 1000000
def RdCq (T : Nat → Prop) (w : World) (v : Value) (xs : List Ct) : Prop := RdR T w (fun c u => [.string c.name, u]) (fun w u c => RdNs T w u c.args ∧ c.name.size ≤ 9223372036854775807 ∧ capOk u) v xs
def RdDq (T : Nat → Prop) (w : World) (v : Value) (xs : List Dt) : Prop := RdR T w (fun d u => [.string d.name, .int .i64 d.params, u]) (fun w u d => RdCq T w u d.cons ∧ d.name.size ≤ 9223372036854775807) v xs
section
variable {T S : Nat → Prop} {w w' : World} {v : Value}
theorem RdCq.rd {xs : List Ct} (h : RdCq T w v xs) : RdC T w v xs := RdR.mono h (fun _ h => h) (fun _ _ _ h => ⟨h.1, h.2.1⟩)
theorem RdDq.rd {xs : List Dt} (h : RdDq T w v xs) : RdD T w v xs := RdR.mono h (fun _ h => h) (fun _ _ _ h => ⟨h.1.rd, h.2⟩)
theorem RdCq.chg {xs : List Ct} (h : RdCq T w v xs) (hc : Chg S w w') (hT : ∀ b, T b → b < w.heap.size → ¬ S b) : RdCq T w' v xs := RdR.chg h hc hT (fun _ _ _ h => ⟨h.1.chg hc hT, h.2⟩)
theorem RdDq.chg {xs : List Dt} (h : RdDq T w v xs) (hc : Chg S w w') (hT : ∀ b, T b → b < w.heap.size → ¬ S b) : RdDq T w' v xs := RdR.chg h hc hT (fun _ _ _ h => ⟨h.1.chg hc hT, h.2⟩)
end
section
variable {T T' : Nat → Prop} {w : World} {v : Value}
theorem RdCq.mono {xs : List Ct} (h : RdCq T w v xs) (hT : ∀ b, T b → T' b) : RdCq T' w v xs := RdR.mono h hT (fun _ _ _ h => ⟨h.1.mono hT, h.2⟩)
theorem RdDq.mono {xs : List Dt} (h : RdDq T w v xs) (hT : ∀ b, T b → T' b) : RdDq T' w v xs := RdR.mono h hT (fun _ _ _ h => ⟨h.1.mono hT, h.2⟩)
theorem RdCq.low {l : List Ct} (h : RdCq T w v l) : RdCq (fun b => T b ∧ b < w.heap.size) w v l := RdR.low h (fun _ _ _ h => ⟨h.1.low, h.2⟩)
end
end Go.Proofs.YtinekmjengckdaaGreatDoor
