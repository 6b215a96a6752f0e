/-
  Layer 10, the program's side: going through all constructors.
-/
import Derived.Test.YticnehmgaklhfaaGreatDoorDtc
namespace Go.Proofs.YticnehmgaklhfaaGreatDoor
open Go.RowKit
set_option maxHeartbeats 4000000
set_option maxRecDepth 100000
theorem sameName_any (x : Dt) (B : Option Addr) (n c : Nat) (nm : ByteArray) (v1 v2 : Value) (g : Nat) (w : World) (hb : Blk w g 51 #[.string nm, v1, v2]) :
    Calls Tryz.prog 35 #[.agg #[.string x.name, .int .i64 x.params, .slice B n c], .pointer (some ⟨g, 0, none⟩)] w fun e w' => e = .returned (.bool (x.name.toList == nm.toList)) ∧ Chg (fun _ => False) w w' := by
  have x0 := (hb.alloc (.cells #[.string x.name, .int .i64 x.params, .slice B n c] 51)).cell 0
  have hlt := hb.lt
  simp only [List.getElem?_toArray, List.getElem?_cons_zero, List.getElem?_cons_succ] at x0
  clear hb
  go_enter Tryz.func35, Tryz.ntmps35
  go_wp2_with fail
  go_ret
  exact ⟨rfl, (Chg.refl _ _).alloc _⟩
/-- What going through all constructors comes to. -/
def EachOut (l : List Dt) (Inv Fin : Nat → Nat → World → Prop) (e : Ending) (w' : World) : Prop :=
  (e = .returned (.bool false) ∧ Inv l.length 0 w') ∨ (e = .returned (.bool true) ∧ ∃ i k, Fin i k w')
def CloOut (i k : Nat) (Inv Fin : Nat → Nat → World → Prop) (e : Ending) (w' : World) : Prop :=
  ∃ r : Bool, e = .returned (.bool r) ∧ (r = false → Inv i (k + 1) w') ∧ (r = true → Fin i k w')
theorem each_find (l : List Dt) (v : Value) (T S : Nat → Prop) (w : World) (g0 g1 g2 g3 : Nat) (Inv Fin : Nat → Nat → World → Prop) (hr : RdD T w v l) (hn : l.length ≤ 1000000) (hcn : ∀ d ∈ l, d.cons.length ≤ 1000000) (hTS : ∀ b, T b → ¬ S b)
    (hch : ∀ i k W, Inv i k W → Chg S w W) (hst : ∀ i k W W', Inv i k W → Chg (fun _ => False) W W' → Inv i k W') (h0 : Inv 0 0 w) (hnx : ∀ (i : Nat) (d : Dt) W, l[i]? = some d → Inv i d.cons.length W → Inv (i + 1) 0 W)
    (hcl : ∀ (i k : Nat) (d : Dt) (x : Ct) W, l[i]? = some d → d.cons[k]? = some x → Inv i k W → Calls Tryz.prog 53 #[.int .i64 (i : Int), .int .i64 (k : Int), .pointer (some ⟨g0, 0, none⟩), .pointer (some ⟨g1, 0, none⟩), .pointer (some ⟨g2, 0, none⟩), .pointer (some ⟨g3, 0, none⟩)] W (CloOut i k Inv Fin)) :
    Calls Tryz.prog 28 #[v, .func (.func 53) #[] #[.pointer (some ⟨g0, 0, none⟩), .pointer (some ⟨g1, 0, none⟩), .pointer (some ⟨g2, 0, none⟩), .pointer (some ⟨g3, 0, none⟩)]] w (EachOut l Inv Fin) := by
  obtain ⟨A, c, rfl⟩ := hr.val
  have HR := hide hr
  have HCL := hide hcl
  have HCH := hide hch
  have HST := hide hst
  have HNX := hide hnx
  have HTS := hide hTS
  have HCN := hide hcn
  have H0 := hide h0
  clear hr hcl hch hst hnx hTS h0 hcn
  go_enter Tryz.func28, Tryz.ntmps28
  go_wp2_with fail
  go_loopw [10] (fun i wr => ∃ k : Nat, i = .int .i64 (k : Int) ∧ k ≤ l.length ∧ Inv k 0 wr) (fun i _ => l.length - (intOf i).toNat)
  case atStart => exact ⟨0, rfl, Nat.zero_le _, unhide H0⟩
  case round =>
    obtain ⟨wq, rfl⟩ : ∃ wq : World, wq = wr := ⟨_, rfl⟩
    obtain ⟨i, rfl, hi, hinv⟩ := hrel
    by_cases hlt : i < l.length
    · have hki : (i : Int) < (l.length : Int) := by omega
      have hx : l[i]? = some l[i] := List.getElem?_eq_getElem hlt
      have hdn := (unhide HCN) l[i] (List.getElem_mem hlt)
      generalize l[i] = d at *
      obtain ⟨b, o, c2, u, hv, _, hru, hns, c0, c1, c3⟩ := ((unhide HR).chg ((unhide HCH) _ _ _ hinv) (fun b hb _ => (unhide HTS) b hb)).at_ hx
      injection hv with hv1 hv2 hv3
      subst hv1 hv3
      obtain ⟨B, c5, rfl⟩ := hru.val
      have HX := hide hx
      have HIV := hide hinv
      clear hx hinv hru
      go_upto_region 4 with fail
      have bk := Blk.new wq 51 #[.string d.name, .int .i64 d.params, .slice B d.cons.length c5]
      have hc3 : Chg (fun _ => False) wq (wq.alloc (.cells #[.string d.name, .int .i64 d.params, .slice B d.cons.length c5] 51)) := (Chg.refl _ wq).alloc _
      generalize wq.alloc (.cells #[.string d.name, .int .i64 d.params, .slice B d.cons.length c5] 51) = w3 at *
      generalize wq.heap.size = nb at *
      have z2 := bk.cell 2
      simp only [List.getElem?_toArray, List.getElem?_cons_zero, List.getElem?_cons_succ] at z2
      have HI3 := hide ((unhide HST) _ _ _ _ (unhide HIV) hc3)
      clear bk hc3 c0 c1 c3 HIV
      go_wp2_with fail
      go_loopw [18] (fun j wr => ∃ k : Nat, j = .int .i64 (k : Int) ∧ k ≤ d.cons.length ∧ Inv i k wr) (fun j _ => d.cons.length - (intOf j).toNat)
      case atStart => exact ⟨0, rfl, Nat.zero_le _, unhide HI3⟩
      case round =>
        obtain ⟨wy, rfl⟩ : ∃ wy : World, wy = wr := ⟨_, rfl⟩
        obtain ⟨k, rfl, hk, hinv⟩ := hrel
        by_cases hlk : k < d.cons.length
        · have hkk : (k : Int) < (d.cons.length : Int) := by omega
          have HC := hide ((unhide HCL) i k d d.cons[k] wy (unhide HX) (List.getElem?_eq_getElem hlk) hinv)
          clear hinv
          go_wp2_with (go_at_call 53; refine (unhide HC).mono ?_; rintro e w4 ⟨r, rfl, h4⟩; have H4 := hide h4; clear h4)
          · go_ret
            exact .inr ⟨rfl, i, k, (unhide H4).2 (by first | assumption | simp_all)⟩
          · refine ⟨⟨k + 1, by go_num, by omega, (unhide H4).1 (by first | assumption | simp_all)⟩, ?_⟩
            simp [intOf]
            omega
        · obtain rfl : k = d.cons.length := by omega
          have hkk : ¬ (d.cons.length : Int) < (d.cons.length : Int) := by omega
          have HV := hide ((unhide HNX) i d _ (unhide HX) hinv)
          clear hinv
          go_wp2_with fail
          go_roundw
          case rel => exact ⟨i + 1, by go_num, by omega, unhide HV⟩
          case measure => simp [intOf]; omega
    · obtain rfl : i = l.length := by omega
      have hki : ¬ (l.length : Int) < (l.length : Int) := by omega
      have HV := hide hinv
      clear hinv
      go_wp2_with fail
      go_ret
      exact .inl ⟨rfl, unhide HV⟩
end Go.Proofs.YticnehmgaklhfaaGreatDoor
