/-
  A region that draws its order: what two groups of loads lean on, each of which need not hold behind operations that wait for its loads. Layer 23, the document's side: constructors are taken.
-/
import Derived.Deep.RegionHeld3
import Derived.Test.YtinekmjengckdaaGreatDoorA52
import Derived.Test.YtinekmjengckdaaGreatDoorA34
namespace Go.Proofs.YtinekmjengckdaaGreatDoor
section
variable {P : Program} {ops : Array Oper} {Q : Exit → Act → World → Prop} {md : Region.Mode} {S1 S2 : World → Prop} {z1 z2 : List Nat}
def AllBut (P : Program) (md : Region.Mode) (ops : Array Oper) (Q : Exit → Act → World → Prop) (S1 : World → Prop) (z1 : List Nat) (S2 : World → Prop) (z2 : List Nat) : Nat → Array Bool → Act → World → Prop
  | 0 => fun up a w => Region.ready md ops up = [] ∧ Q .normal a w
  | n + 1 => fun up a w => (Region.ready md ops up = [] → Q .normal a w) ∧ ∀ i ∈ Region.ready md ops up, wpOp P ops Q i (fun b v => ((i ∉ z1 → S1 w → S1 v) ∧ (i ∉ z2 → S2 w → S2 v)) ∧ AllBut P md ops Q S1 z1 S2 z2 n (up.setIfInBounds i true) b v) a w
theorem AllBut.any : ∀ (n : Nat) (up : Array Bool) (a : Act) (w : World), AllBut P md ops Q S1 z1 S2 z2 n up a w → wpAny P md ops Q n up a w
  | 0 => fun _ _ _ h => h
  | n + 1 => fun _ _ _ h => ⟨h.1, fun i hi => wpOp_mono (fun b v k => AllBut.any n _ b v k.2) (h.2 i hi)⟩
theorem AllBut.swap : ∀ (n : Nat) (up : Array Bool) (a : Act) (w : World), AllBut P md ops Q S1 z1 S2 z2 n up a w → AllBut P md ops Q S2 z2 S1 z1 n up a w
  | 0 => fun _ _ _ h => h
  | n + 1 => fun _ _ _ h => ⟨h.1, fun i hi => wpOp_mono (fun b v k => ⟨⟨k.1.2, k.1.1⟩, AllBut.swap n _ b v k.2⟩) (h.2 i hi)⟩
def lastU (md : Region.Mode) (ops : Array Oper) (z : List Nat) (i : Nat) : Bool := z.all fun j => match ops[j]? with
  | some o => o.after.toList.any fun e => Region.binds md e && e.on == i
  | none => true
theorem AllBut.early {i : Nat} {o : Oper} {v : Value} (hi : ops[i]? = some o) (hs : ∀ (j : Nat) (p : Oper) cs b, ops[j]? = some p → p.op ≠ .select cs b) (hz : lastU md ops z1 i = true)
    (hp : ∀ c a w, Q (.panic c) (a.put o.dst v) w → Q (.panic c) a w) :
    ∀ (n : Nat) (up : Array Bool) (a : Act) (w : World), (∀ j p, ops[j]? = some p → j ≠ i → up.getD j true = false → (∀ e ∈ p.after, Region.binds md e = true → e.on ≠ i) → o.apart ops p = true) →
      i ∈ Region.ready md ops up → YieldsIf P ops S1 o v a → S1 w → AllBut P md ops Q S1 z1 S2 z2 n (up.setIfInBounds i true) (a.put o.dst v) w → AllBut P md ops Q S1 z1 S2 z2 (n + 1) up a w := by
  intro n
  induction n with
  | zero =>
    intro up a w _ hr hy hS h
    refine ⟨fun e => (by rw [e] at hr; cases hr), fun j hj => ?_⟩
    rcases Decidable.em (j = i) with rfl | hji
    · exact hy.wpOp hi hS ⟨⟨fun _ h => h, fun _ h => h⟩, h⟩
    · have := ready_mono hj hji
      rw [h.1] at this
      cases this
  | succ n ih =>
    intro up a w hf hr hy hS h
    refine ⟨fun e => (by rw [e] at hr; cases hr), fun j hj => ?_⟩
    rcases Decidable.em (j = i) with rfl | hji
    · exact hy.wpOp hi hS ⟨⟨fun _ h => h, fun _ h => h⟩, h⟩
    · obtain ⟨hju, p, hp1, hall⟩ := mem_ready.1 hj
      have hno : ∀ e ∈ p.after, Region.binds md e = true → e.on ≠ i := fun e he hb heq => by
        have h1 := hall e he hb
        have h0 := (mem_ready.1 hr).1
        rw [heq] at h1
        rcases Nat.lt_or_ge i up.size with h' | h'
        · simp [h'] at h0 h1; rw [h0] at h1; cases h1
        · simp [Array.getElem?_eq_none h'] at h1
      have hjz : j ∉ z1 := by
        intro hjm
        unfold lastU at hz
        have hz := List.all_eq_true.1 hz j hjm
        rw [hp1] at hz
        obtain ⟨e, he, hb⟩ := List.any_eq_true.1 hz
        rw [Bool.and_eq_true, beq_iff_eq] at hb
        exact hno e (by simpa using he) hb.1 hb.2
      have h2 := wpOp_putIf hp1 (hf j p hp1 hji hju hno) (fun cs b => hs i o cs b hi) (fun cs b => hs j p cs b hp1) hp hy (h.2 j (ready_mono hj hji))
      refine wpOp_mono (fun b v k => ⟨k.2.1, ih (up.setIfInBounds j true) b v (fun k ok hk hki hun hn => hf k ok hk hki ?_ hn) (ready_mono hr (Ne.symm hji)) k.1 (k.2.1.1 hjz hS) ?_⟩) h2
      · rcases Decidable.em (j = k) with rfl | hjk
        · exact hju
        · rwa [getD_set_ne true hjk] at hun
      · rw [Array.setIfInBounds_comm _ _ hji]
        exact k.2.2
structure AU (P : Program) (md : Region.Mode) (ops : Array Oper) (Q : Exit → Act → World → Prop) (S1 : World → Prop) (z1 : List Nat) (S2 : World → Prop) (z2 : List Nat) (n : Nat) (up : Array Bool) (a : Act) (w : World) : Prop where
  go : AllBut P md ops Q S1 z1 S2 z2 n up a w
theorem AU.take {i : Nat} {o : Oper} {v : Value} {n : Nat} {up : Array Bool} {a : Act} {w : World} (hi : ops[i]? = some o) (hs : Region.noSelect ops = true) (hf : Region.free md ops up i = true) (hr : (Region.ready md ops up).contains i = true) (hz : lastU md ops z1 i = true)
    (hp : ∀ c a w, Q (.panic c) (a.put o.dst v) w → Q (.panic c) a w) (hy : YieldsIf P ops S1 o v a) (hS : S1 w) (h : AU P md ops Q S1 z1 S2 z2 n (up.setIfInBounds i true) (a.put o.dst v) w) : AU P md ops Q S1 z1 S2 z2 (n + 1) up a w :=
  ⟨AllBut.early hi (Region.noSelect_spec hs) hz hp n up a w (Region.free_spec hi hf) (by simpa using hr) hy hS h.go⟩
theorem AU.take2 {i : Nat} {o : Oper} {v : Value} {n : Nat} {up : Array Bool} {a : Act} {w : World} (hi : ops[i]? = some o) (hs : Region.noSelect ops = true) (hf : Region.free md ops up i = true) (hr : (Region.ready md ops up).contains i = true) (hz : lastU md ops z2 i = true)
    (hp : ∀ c a w, Q (.panic c) (a.put o.dst v) w → Q (.panic c) a w) (hy : YieldsIf P ops S2 o v a) (hS : S2 w) (h : AU P md ops Q S1 z1 S2 z2 n (up.setIfInBounds i true) (a.put o.dst v) w) : AU P md ops Q S1 z1 S2 z2 (n + 1) up a w :=
  ⟨AllBut.swap _ _ _ _ (AllBut.early hi (Region.noSelect_spec hs) hz hp n up a w (Region.free_spec hi hf) (by simpa using hr) hy hS (AllBut.swap _ _ _ _ h.go))⟩
theorem AU.tk {i : Nat} {o : Oper} {v : Value} {n : Nat} {up : Array Bool} {a : Act} {w : World} (hi : ops[i]? = some o) (hb : (Region.noSelect ops && (Region.free md ops up i && ((Region.ready md ops up).contains i && lastU md ops z1 i))) = true)
    (hw : Region.wanted o (yielded ops a.tmps) = true) (hp : ∀ c a w, Q (.panic c) (a.put o.dst v) w → Q (.panic c) a w) (hy : ∀ w, S1 w → (execOp a.eval o).run P w = .ok (.value v) w) (hS : S1 w) (h : AU P md ops Q S1 z1 S2 z2 n (up.setIfInBounds i true) (a.put o.dst v) w) : AU P md ops Q S1 z1 S2 z2 (n + 1) up a w := by
  simp only [Bool.and_eq_true] at hb
  exact AU.take hi hb.1 hb.2.1 hb.2.2.1 hb.2.2.2 hp (Or.inl ⟨hw, hy⟩) hS h
theorem AU.tk2 {i : Nat} {o : Oper} {v : Value} {n : Nat} {up : Array Bool} {a : Act} {w : World} (hi : ops[i]? = some o) (hb : (Region.noSelect ops && (Region.free md ops up i && ((Region.ready md ops up).contains i && lastU md ops z2 i))) = true)
    (hw : Region.wanted o (yielded ops a.tmps) = true) (hp : ∀ c a w, Q (.panic c) (a.put o.dst v) w → Q (.panic c) a w) (hy : ∀ w, S2 w → (execOp a.eval o).run P w = .ok (.value v) w) (hS : S2 w) (h : AU P md ops Q S1 z1 S2 z2 n (up.setIfInBounds i true) (a.put o.dst v) w) : AU P md ops Q S1 z1 S2 z2 (n + 1) up a w := by
  simp only [Bool.and_eq_true] at hb
  exact AU.take2 hi hb.1 hb.2.1 hb.2.2.1 hb.2.2.2 hp (Or.inl ⟨hw, hy⟩) hS h
theorem AU.step {i : Nat} {o : Oper} {n : Nat} {up : Array Bool} {a : Act} {w : World} (hr : Region.ready md ops up = [i]) (ho : ops[i]? = some o)
    (h : ∀ K : Act → World → Prop, Shut (∀ b v, ((i ∉ z1 → S1 v) ∧ (i ∉ z2 → S2 v)) → AU P md ops Q S1 z1 S2 z2 n (up.setIfInBounds i true) b v → K b v) → if Region.wanted o (yielded ops a.tmps) = true then Oper.wp P o a w K Q else K (a.put o.dst undef) w) : AU P md ops Q S1 z1 S2 z2 (n + 1) up a w := by
  refine ⟨fun e => (by rw [hr] at e; cases e), fun j hj => ?_⟩
  rw [hr, List.mem_singleton] at hj
  subst hj
  exact wpOp_step ho (fun K hK => h K (fun b v hS hW => hK b v ⟨⟨fun h _ => hS.1 h, fun h _ => hS.2 h⟩, hW.go⟩))
theorem AllBut.done {up : Array Bool} {a : Act} {w : World} (hr : Region.ready md ops up = []) (h : Q .normal a w) : ∀ n, AllBut P md ops Q S1 z1 S2 z2 n up a w
  | 0 => ⟨hr, h⟩
  | _ + 1 => ⟨fun _ => h, by rw [hr]; simp⟩
theorem AU.done {up : Array Bool} {a : Act} {w : World} (hr : Region.ready md ops up = []) (h : Q .normal a w) (n : Nat) : AU P md ops Q S1 z1 S2 z2 n up a w := ⟨AllBut.done hr h n⟩
theorem wp_region_au {id : Nat} {a : Act} {w : World} (S1 : World → Prop) (z1 : List Nat) (S2 : World → Prop) (z2 : List Nat) (n : Nat) (hn : ops.size = n) (hm : P.follows .mixedOrders = true) (h : AU P .any ops Q S1 z1 S2 z2 n (Array.replicate n false) a w.drew) : (Code.region id ops true).wp P Q a w := by
  subst hn
  exact wp_region_any hm (AllBut.any _ _ _ _ h.go)
end
end Go.Proofs.YtinekmjengckdaaGreatDoor

namespace Go.Proofs.YtinekmjengckdaaGreatDoor
open Go.RowKit
set_option maxHeartbeats 8000000
set_option maxRecDepth 100000
theorem RowIn.keep {α : Type} {f : α → Value → List Value} {RE : (Nat → Prop) → World → Value → α → Prop} {T : TypeId} {sz base : Nat} (ok : REok RE) {S : Nat → Prop} {W W' : World} {vo : Value} {l : List α} (h : RowIn f RE T sz base W vo l) (hc : Chg S W W') (hS : ∀ b, S b → b < W.heap.size → b < base) : RowIn f RE T sz base W' vo l := by
  obtain ⟨ps, h1, h2, h3⟩ := h
  exact ⟨ps, h1, own_chg h2 hc (fun k hk e => by have := h2.lt k hk; have := hS k e this.2; omega), fun p hp => ok.chg (h3 p hp) hc (fun b hb hlt e => by have := hS b e hlt; omega)⟩
def RCts (base : Nat) (W : World) (v : Value) (x : List Ct) : Prop := RdCq (fun b => base ≤ b) W v x ∧ capOk v
def CtL4 (c : Ct) : Prop := c.name.size < 65536 ∧ c.args.length ≤ 4000 ∧ ∀ t ∈ c.args, t.length ≤ 4000 ∧ ∀ n ∈ t, ndOk n
theorem refCtors_any (s : ByteArray) (b : Bool) (w : World) (hs : s.size ≤ 800000000) :
    Calls Tryz.prog 69 #[.agg #[.string s, .bool b]] w (GotD (pRow pCt) (fun x => x.length ≤ 4000 ∧ ∀ c ∈ x, CtL4 c) RCts (rstV s b) w) := by
  obtain ⟨i2_, hi2, hz2, hs2_, hb2_⟩ := info_parts infoCt
  obtain ⟨i_, hi, hz, hsz_, hbb⟩ := info_parts infoRow
  have hb := (Blk.new w 104 #[.string s, .bool b]).alloc (.cells #[.string ⟨#[]⟩, .bool false] 104)
  have hr := Blk.new_at (w.alloc (.cells #[.string s, .bool b] 104)) (w.heap.size + 1) 104 #[.string ⟨#[]⟩, .bool false] (size_alloc _ _).symm
  have hc0 : Chg (fun _ => False) w ((w.alloc (.cells #[.string s, .bool b] 104)).alloc (.cells #[.string ⟨#[]⟩, .bool false] 104)) := ((Chg.refl _ w).alloc _).alloc _
  have HN := hH (refMany_any s b ((w.alloc (.cells #[.string s, .bool b] 104)).alloc (.cells #[.string ⟨#[]⟩, .bool false] 104)) hs)
  have q0 := hb.cell 0
  have q1 := hb.cell 1
  simp only [List.getElem?_toArray, List.getElem?_cons_zero, List.getElem?_cons_succ] at q0 q1
  have HC0 := hH hc0
  have HB := hH hb
  have HR := hH hr
  have HZ0 := hH (show w.heap.size + 2 = ((w.alloc (.cells #[.string s, .bool b] 104)).alloc (.cells #[.string ⟨#[]⟩, .bool false] 104)).heap.size by rw [size_alloc, size_alloc])
  clear hb hr hc0
  go_enter Tryz.func69, Tryz.ntmps69
  go_upto_region 2 with (go_at_call 67; refine (uH HN).mono ?_; rintro e w2 ⟨v, n, s1, b1, rfl, rfl, hok, hs1, hc2, hnx⟩; have HOK := hH (And.intro hs1 hnx); have HLO := hH (show w.heap.size + 2 ≤ w2.heap.size from by have := hc2.size; have := uH HZ0; omega); have HC2 := hH ((uH HC0).trans' hc2); have HB2 := hH ((uH HB).chg hc2 id); have HR2 := hH ((uH HR).chg hc2 id); have q0 := (uH HB2).cell 0; have q1 := (uH HB2).cell 1; simp only [List.getElem?_toArray, List.getElem?_cons_zero, List.getElem?_cons_succ] at q0 q1; have f2 := (uH HB2).frozen 0; have f3 := (uH HB2).frozen 1; clear hs1 hc2 hnx)
  obtain ⟨hb5, hc5⟩ := put2 (uH HB2) (.string s1) (.bool b1)
  have HB5 := hH hb5
  have HR5 := hH ((uH HR2).chg hc5 (by omega))
  have HC5 := hH ((uH HC2).trans hc5 (fun j hj e => by omega))
  have HL5 := hH (show w.heap.size + 2 ≤ ((w2.setCell ⟨w.heap.size, 0, none⟩ (.string s1)).setCell ⟨w.heap.size, 1, none⟩ (.bool b1)).heap.size from by rw [size_set, size_set]; exact uH HLO)
  generalize (w2.setCell ⟨w.heap.size, 0, none⟩ (.string s1)).setCell ⟨w.heap.size, 1, none⟩ (.bool b1) = W5 at *
  obtain ⟨hs1, hnx⟩ := uH HOK
  have HNX := hH hnx
  have hn4 : (n : Int) ≤ 4000 := by omega
  clear hb5 hc5 q0 q1 f2 f3 HB2 HR2 HOK hnx HLO
  have HO0 := hH (show RowIn (fun (c : Ct) u => [.string c.name, u]) RE_ctor 64 2 W5.heap.size (W5.alloc (.cells #[] 64)) (.slice (some ⟨W5.heap.size, 0, none⟩) 0 0) [] from ⟨[], rfl, own_start (base := W5.heap.size) (size := 2) (Blk.new W5 64 #[]) (Nat.le_refl _), fun p h => by cases h⟩)
  have HBA := hH ((uH HB5).alloc (.cells #[] 64))
  have HRA := hH ((uH HR5).alloc (.cells #[] 64))
  have HCA := hH ((uH HC5).alloc (.cells #[] 64))
  have HMA := hH (ManyAt.start (p := pCt) (n := n) (st0 := rstV s1 b1) hok)
  go_wp2_with fail
  go_loopw [5, 6] (fun out i wr => ∃ (k : Nat) (l : List Ct) (s2 : ByteArray) (b2 : Bool), i = .int .i64 (k : Int) ∧ k ≤ n ∧ l.length = k ∧ s2.size ≤ 800000000 ∧ Blk wr w.heap.size 104 #[.string s2, .bool b2] ∧ Blk wr (w.heap.size + 1) 104 #[.string ⟨#[]⟩, .bool false] ∧ RowIn (fun (c : Ct) u => [.string c.name, u]) RE_ctor 64 2 W5.heap.size wr out l ∧ Chg (fun _ => False) w wr ∧ (∀ x ∈ l, CtL4 x) ∧ W5.heap.size ≤ wr.heap.size ∧ ManyAt pCt n (rstV s1 b1) k l (rstV s2 b2)) (fun _ i _ => n - (intOf i).toNat)
  case atStart => exact ⟨0, [], s1, b1, rfl, Nat.zero_le _, rfl, hs1, uH HBA, uH HRA, uH HO0, uH HCA, fun _ h => absurd h List.not_mem_nil, by rw [size_alloc]; omega, uH HMA⟩
  case round =>
    clear HO0 HBA HRA HCA HMA
    obtain ⟨wq, rfl⟩ : ∃ wq : World, wq = wr := ⟨_, rfl⟩
    obtain ⟨k, l, s2, b2, rfl, hk, hll, hs2, hbx, hrs, hrow, hch, hokl, hlo, hma⟩ := hrel
    obtain ⟨OA, oc, hov⟩ := hrow.val
    have hcapo : capOk u5 := by obtain ⟨_, _, h2, _⟩ := hrow; exact own_cap h2
    subst hov
    have q0 := hbx.cell 0
    have q1 := hbx.cell 1
    simp only [List.getElem?_toArray, List.getElem?_cons_zero, List.getElem?_cons_succ] at q0 q1
    have HBX := hH hbx
    have HRS := hH hrs
    have HROW := hH hrow
    have HCH := hH hch
    have HMA := hH hma
    have HLW := hH hlo
    have HOKL := hH hokl
    have HL5' := uH HL5
    have hlt0 : w.heap.size < wq.heap.size := by omega
    clear hbx hrs hrow hch hma hokl HL5'
    by_cases hend : b2 = true ∨ n ≤ k
    · have HFIN := hH (row_of_many (uH HNX) ((uH HMA).fin (hend.imp (fun h => by rw [h]; rfl) id)))
      have hgu : ¬ (k : Int) < (n : Int) ∨ ((k : Int) < (n : Int) ∧ b2 = true) := by
        rcases hend with h | h
        · by_cases h2 : k < n
          · exact .inr ⟨by omega, h⟩
          · exact .inl (by omega)
        · exact .inl (by omega)
      clear hend
      obtain ⟨hp, hcp⟩ := put2 (uH HRS) (.string s2) (.bool b2)
      have HC7 := hH (((uH HCH).trans hcp (fun j hj e => by omega)).drew)
      have hp := hp.drew
      have HO7 := hH ((uH HROW).keep RE_ctor_ok hcp.drew (fun b hb hlt => by have := uH HL5; omega))
      have r0 := (uH HRS).cell 0
      have r1 := (uH HRS).cell 1
      have f0 := (uH HRS).frozen 0
      have f1 := (uH HRS).frozen 1
      simp only [List.getElem?_toArray, List.getElem?_cons_zero, List.getElem?_cons_succ] at r0 r1
      clear hcp
      rcases hgu with hgu | ⟨hgu, rfl⟩
      all_goals
        go_wp2_with fail
        go_region
        generalize ((wq.setCell ⟨w.heap.size + 1, 0, none⟩ (.string s2)).setCell ⟨w.heap.size + 1, 1, none⟩ _).drew = W7 at *
        have p0 := hp.cell 0
        have p1 := hp.cell 1
        simp only [List.getElem?_toArray, List.getElem?_cons_zero, List.getElem?_cons_succ] at p0 p1
        have hrn := ((uH HO7).rd RE_ctor_ok (by decide) (by omega)).1
        have hrn2 : RdCq (fun b => w.heap.size ≤ b) W7 (.slice OA l.length oc) l := (show RdCq (fun b => W5.heap.size ≤ b) W7 (.slice OA l.length oc) l from hrn).mono (fun b hb => by have := uH HL5; omega)
        clear hp
        go_wp2_with fail
        rw [hll] at hrn2
        try rw [hll] at hcapo
        exact bodyPost_ret (v := .tuple #[.slice OA k oc, .agg #[.string s2, .bool _]]) (by simp [results, Tryz.results69, go_sem, p0, p1, hll]) rfl ⟨_, l, s2, _, rfl, ⟨hrn2, hcapo⟩, ⟨by omega, uH HOKL⟩, hs2, uH HC7, uH HFIN⟩
    · have hkn : k < n := by omega
      have hki : (k : Int) < (n : Int) := by omega
      obtain rfl : b2 = false := by
        cases b2
        · rfl
        · exact absurd (.inl rfl) hend
      clear hend
      have HN1 := hH (refStr_any s2 false wq hs2)
      go_upto_region 7 with (go_at_call 66; refine (uH HN1).mono ?_; rintro e w3 ⟨v, nm, s3, b3, rfl, rfl, hok3, hs3, hc3, hnx3⟩; have HNX3 := hH hnx3; have HOK3 := hH hok3; have HZ3 := hH hc3.size; have hc3' := (Chg.refl (fun _ => False) wq).trans' (hc3.alloc (.cells #[.string s3, .bool b3] 104)); have HC3 := hH hc3'; have HX3 := hH (Blk.new w3 104 #[.string s3, .bool b3]); have e0 := (uH HX3).cell 0; have e1 := (uH HX3).cell 1; simp only [List.getElem?_toArray, List.getElem?_cons_zero, List.getElem?_cons_succ] at e0 e1; clear hnx3 hc3 hc3' hok3 q0 q1)
      have HN2 := hH (refMany_any s3 b3 (w3.alloc (.cells #[.string s3, .bool b3] 104)) hs3)
      have HG8 := hH (show w3.heap.size < (w3.alloc (.cells #[.string s3, .bool b3] 104)).heap.size by rw [size_alloc]; omega)
      generalize w3.alloc (.cells #[.string s3, .bool b3] 104) = W3 at *
      generalize w3.heap.size = g8 at *
      go_upto_region 8 with (go_at_call 67; refine (uH HN2).mono ?_; rintro e w4 ⟨v, m, s4, b4, rfl, rfl, hok4, hs4, hc4, hnx4⟩; have HNX4 := hH hnx4; have HZ4 := hH hc4.size; have HC4 := hH ((uH HC3).trans' hc4); have HX4 := hH ((uH HX3).chg hc4 id); clear e0 e1; have e0 := (uH HX4).cell 0; have e1 := (uH HX4).cell 1; have f0 := (uH HX4).frozen 0; have f1 := (uH HX4).frozen 1; simp only [List.getElem?_toArray, List.getElem?_cons_zero, List.getElem?_cons_succ] at e0 e1; clear hnx4 hc4)
      obtain ⟨hx5, hcx⟩ := put2 (uH HX4) (.string s4) (.bool b4)
      have HX5 := hH (hx5.alloc (.cells #[.string nm, .slice none 0 0] 64))
      have HC6 := hH (((uH HC4).trans hcx (fun j hj e => by have := uH HZ3; omega)).alloc (.cells #[.string nm, .slice none 0 0] 64))
      have hz5 : w4.heap.size = ((w4.setCell ⟨g8, 0, none⟩ (.string s4)).setCell ⟨g8, 1, none⟩ (.bool b4)).heap.size := by rw [size_set, size_set]
      have HZ6 := hH (show g8 < ((w4.setCell ⟨g8, 0, none⟩ (.string s4)).setCell ⟨g8, 1, none⟩ (.bool b4)).heap.size by rw [← hz5]; have := uH HG8; have := uH HZ4; omega)
      clear hx5 hcx hz5 e0 e1 f0 f1
      generalize (w4.setCell ⟨g8, 0, none⟩ (.string s4)).setCell ⟨g8, 1, none⟩ (.bool b4) = W4 at *
      have HCB := hH (Blk.new W4 64 #[.string nm, .slice none 0 0])
      have HZ7 := hH (show W4.heap.size < (W4.alloc (.cells #[.string nm, .slice none 0 0] 64)).heap.size by rw [size_alloc]; omega)
      go_upto_region 9 with fail
      generalize W4.alloc (.cells #[.string nm, .slice none 0 0] 64) = W6 at *
      generalize W4.heap.size = gc at *
      have hm4 : (m : Int) ≤ 4000 := by omega
      have HMI := hH (ManyAt.start (p := pTyp) (n := m) (st0 := rstV s4 b4) hok4)
      have HRI := hH (RowIn.nil (f := fun (_ : List Nd) u => [u]) (RE := RE_nodes) (T := 54) (sz := 1) (base := W6.heap.size) W6)
      have HC00 := hH (Chg.refl (fun j => j = g8 ∨ j = gc) W6)
      go_wp2_with fail
      go_loopw [11] (fun i wr => ∃ (a : Nat) (la : List (List Nd)) (s5 : ByteArray) (b5 : Bool) (va : Value), i = .int .i64 (a : Int) ∧ a ≤ m ∧ la.length = a ∧ s5.size ≤ 800000000 ∧ Blk wr g8 104 #[.string s5, .bool b5] ∧ Blk wr gc 64 #[.string nm, va] ∧ RowIn (fun (_ : List Nd) u => [u]) RE_nodes 54 1 W6.heap.size wr va la ∧ Chg (fun j => j = g8 ∨ j = gc) W6 wr ∧ (∀ t ∈ la, t.length ≤ 4000 ∧ ∀ n ∈ t, ndOk n) ∧ ManyAt pTyp m (rstV s4 b4) a la (rstV s5 b5)) (fun i _ => m - (intOf i).toNat)
      case atStart => exact ⟨0, [], s4, b4, _, rfl, Nat.zero_le _, rfl, hs4, uH HX5, uH HCB, uH HRI, uH HC00, fun _ h => absurd h List.not_mem_nil, uH HMI⟩
      case round =>
        clear HMI HRI HC00
        obtain ⟨wy, rfl⟩ : ∃ wy : World, wy = wr := ⟨_, rfl⟩
        obtain ⟨a, la, s5, b5, va, rfl, ha, hla, hs5, hbx, hcb, hrow, hch, hoka, hma⟩ := hrel
        have q0 := hbx.cell 0
        have q1 := hbx.cell 1
        simp only [List.getElem?_toArray, List.getElem?_cons_zero, List.getElem?_cons_succ] at q0 q1
        have HBXI := hH hbx
        have HCBI := hH hcb
        have HROWI := hH hrow
        have HCHI := hH hch
        have HMAI := hH hma
        have HOKA := hH hoka
        clear hbx hcb hrow hch hma hoka
        by_cases hend : b5 = true ∨ m ≤ a
        · have HFI := hH (NextSt.seq (q := fun t => mapT (fun y => (⟨t, y⟩ : Ct)) (pRow pTyp)) (uH HNX3) ((row_of_many (uH HNX4) ((uH HMAI).fin (hend.imp (fun h => by rw [h]; rfl) id))).map (fun y => (⟨nm, y⟩ : Ct))))
          have hgu : ¬ (a : Int) < (m : Int) ∨ ((a : Int) < (m : Int) ∧ b5 = true) := by
            rcases hend with h | h
            · by_cases h2 : a < m
              · exact .inr ⟨by omega, h⟩
              · exact .inl (by omega)
            · exact .inl (by omega)
          clear hend
          have HRD := hH ((uH HROWI).rd RE_nodes_ok (by decide) (by omega))
          obtain ⟨NA, nc, hva⟩ := (uH HROWI).val
          subst hva
          have HZ1 := hH (show W6.heap.size ≤ wy.heap.size from (uH HCHI).size)
          have HLW6 := hH (show wq.heap.size ≤ W6.heap.size from (uH HC6).size)
          have HQ := hH ((uH HC6).trans (uH HCHI) (fun j hj e => by have := uH HZ3; have := uH HZ6; rcases e with h | h <;> omega))
          have HBRW := hH ((uH HBX).chg (uH HQ) id)
          have HRSW := hH ((uH HRS).chg (uH HQ) id)
          have HROWW := hH ((uH HROW).keep RE_ctor_ok (uH HQ) (fun _ h => h.elim))
          have HOWY := hH (show ∀ j, (Value.slice OA k oc).ownBlock = some j → W5.heap.size ≤ j ∧ j < wq.heap.size from by
            obtain ⟨_, _, h2, _⟩ := uH HROW
            rw [← hll]
            exact h2.lt)
          have hoka4 := uH HOK3
          have HCL := hH (show CtL4 ⟨nm, la⟩ from ⟨hoka4, by show la.length ≤ 4000; omega, uH HOKA⟩)
          have HU := hH (show RE_ctor (fun b => wq.heap.size ≤ b) wy (.slice NA la.length nc) ⟨nm, la⟩ from ⟨RdNs.mono (show RdNs (fun b => W6.heap.size ≤ b) wy (.slice NA la.length nc) la from (uH HRD).1) (fun b hb => by have := uH HLW6; omega), Nat.le_trans (Nat.le_of_lt hoka4) (by decide), (uH HRD).2⟩)
          have HNF := hH (show ¬ (Value.slice OA k oc).ownBlock = some gc from fun e => by have := (uH HOWY gc e).2; have := uH HZ3; have := uH HZ6; omega)
          have HNS := hH (show ¬ (Value.slice OA k oc).ownBlock = some g8 from fun e => by have := (uH HOWY g8 e).2; have := uH HZ3; omega)
          have HNR := hH (show ¬ (Value.slice OA k oc).ownBlock = some w.heap.size from fun e => by have := (uH HOWY w.heap.size e).1; have := uH HL5; omega)
          obtain ⟨ps, hps1, hps2, hps3⟩ := uH HROWW
          have hpl : ps.length = k := by rw [← hll, ← hps1, List.length_map]
          have HB1 := hH (show W5.heap.size ≤ wq.heap.size from uH HLW)
          have HZ := hH (show wq.heap.size ≤ wy.heap.size from (uH HQ).size)
          rw [hll] at hps2 hps3
          have HSTEP := hH (fun W3 v3 (ho : W3.ownsRow W5.heap.size 64 2 v3 (k + 1) ((ps.flatMap fun p => (fun (c : Ct) u => [.string c.name, u]) p.1 p.2) ++ [.string nm, .slice NA la.length nc])) (hc : Chg (fun j => (Value.slice OA k oc).ownBlock = some j) (wy.alloc (.cells #[.string nm, .slice NA la.length nc] 64)) W3) (hat : v3.ownBlock = (Value.slice OA k oc).ownBlock ∨ v3.ownBlock = some (wy.alloc (.cells #[.string nm, .slice NA la.length nc] 64)).heap.size) => show RowIn (fun (c : Ct) u => [.string c.name, u]) RE_ctor 64 2 W5.heap.size W3 v3 (l ++ [⟨nm, la⟩]) from by
            rw [← hps1]
            exact RowIn.step RE_ctor_ok hps2 hps3 (fun j hj => (uH HOWY j hj).2) (uH HB1) (uH HZ) (uH HU) (by rw [hpl]; exact ho) hc hat)
          rw [hpl] at hps2
          clear hpl
          have HOWN := hH hps2
          have HBF := HCBI
          have HBS := HBXI
          have HBR := HBRW
          have hm1 : k + 1 ≤ maxLen := by simp only [maxLen]; omega
          have hm2 : (k + 1) * 40 ≤ 140737488355328 := by omega
          have HLL := hH hll
          have HLA := hH hla
          clear hps1 hps2 hps3 hoka4 hla
          rcases hgu with hgu | ⟨hgu, rfl⟩
          · skip
            go_wp2_with fail
            clear q0 q1
            have KS1 := hH (fun W' (hW : Chg (fun j_ => (Value.slice OA k oc).ownBlock = some j_) wy W') => show W'.cell? ⟨gc, 0, none⟩ = some (.string nm) ∧ W'.cell? ⟨gc, 1, none⟩ = some (.slice NA la.length nc) from ⟨((uH HBF).chg hW (uH HNF)).cell 0, ((uH HBF).chg hW (uH HNF)).cell 1⟩)
            have KS2 := hH (fun W' (hW : Chg (fun j_ => (Value.slice OA k oc).ownBlock = some j_) wy W') => show W'.cell? ⟨g8, 0, none⟩ = some (.string s5) ∧ W'.cell? ⟨g8, 1, none⟩ = some (.bool b5) from ⟨((uH HBS).chg hW (uH HNS)).cell 0, ((uH HBS).chg hW (uH HNS)).cell 1⟩)
            have HK1 := hH (uH KS1 _ ((Chg.refl _ wy).drew))
            have HK2 := hH (uH KS2 _ ((Chg.refl _ wy).drew))
            refine wp_region_au (fun W' => W'.cell? ⟨gc, 0, none⟩ = some (.string nm) ∧ W'.cell? ⟨gc, 1, none⟩ = some (.slice NA la.length nc)) [6] (fun W' => W'.cell? ⟨g8, 0, none⟩ = some (.string s5) ∧ W'.cell? ⟨g8, 1, none⟩ = some (.bool b5)) [6] 7 (by kernel_rfl) (by kernel_rfl) ?_
            refine AU.tk (i := 0) (v := ?_) rfl (by kernel_rfl) (by kernel_rfl) (fun _ _ _ h => h) ?_ (uH HK1) ?_
            rotate_left
            · intro W' hS'; (try dsimp only at hS'); go_simp; try with_reducible rfl
            try simp only [Act.put, List.setIfInBounds_toArray]
            refine AU.tk (i := 1) (v := ?_) rfl (by kernel_rfl) (by kernel_rfl) (fun _ _ _ h => h) ?_ (uH HK1) ?_
            rotate_left
            · intro W' hS'; (try dsimp only at hS'); go_simp; try with_reducible rfl
            try simp only [Act.put]
            refine AU.tk2 (i := 4) (v := ?_) rfl (by kernel_rfl) (by kernel_rfl) (fun _ _ _ h => h) ?_ (uH HK2) ?_
            rotate_left
            · intro W' hS'; (try dsimp only at hS'); go_simp; try with_reducible rfl
            try simp only [Act.put]
            refine AU.step (i := 2) (by kernel_rfl) rfl (fun K hK => ?_)
            go_simp
            refine hK.out _ _ ⟨fun _ => uH KS1 _ (((Chg.refl _ wy).alloc (.cells #[.string nm, .slice NA la.length nc] 64)).drew), fun _ => uH KS2 _ (((Chg.refl _ wy).alloc (.cells #[.string nm, .slice NA la.length nc] 64)).drew)⟩ ?_
            clear hK K
            try simp only [Act.put, List.setIfInBounds_toArray, List.set_cons_zero, List.set_cons_succ]
            refine AU.step (i := 3) (by kernel_rfl) rfl (fun K hK => ?_)
            have HOWA := own_chg ((uH HOWN).alloc (.cells #[.string nm, .slice NA la.length nc] 64)) (Chg.drew (Chg.refl (fun _ => False) (wy.alloc (.cells #[.string nm, .slice NA la.length nc] 64)))) (fun _ _ h => h)
            have HRNA := (((rd_new wy wy.heap.size 64 [.string nm, .slice NA la.length nc] rfl).mono (T' := fun _ => True) (fun _ _ => trivial)).chg (Chg.drew (Chg.refl (fun _ => False) (wy.alloc (.cells #[.string nm, .slice NA la.length nc] 64)))) (fun _ _ _ h => h))
            refine step_append_rd _ rfl (.tmp 64) (.tmp 66) 68 rfl W5.heap.size 64 i2_ (.agg #[.string ⟨#[]⟩, .slice none 0 0]) 2 40 Tryz.underlying68 hi2 hz2 hs2_ hb2_ rfl (by decide) _ k _ rfl HOWA (fun _ => True) _ 1 1 [.string nm, .slice NA la.length nc] rfl rfl HRNA (by intro u hu; simp at hu; rcases hu with rfl | rfl <;> rfl) (hm1) (hm2) (by rw [show ((wy.alloc (.cells #[.string nm, .slice NA la.length nc] 64)).drew).heap.size = (wy.alloc (.cells #[.string nm, .slice NA la.length nc] 64)).heap.size from rfl, size_alloc]; have := uH HB1; have := uH HZ; omega) ?_
            intro v5 w5 ho5 hc5 hat
            obtain ⟨V51, V52, hv5⟩ := own_val ho5
            subst hv5
            have hc6 : Chg (fun j_ => (Value.slice OA k oc).ownBlock = some j_) (wy.alloc (.cells #[.string nm, .slice NA la.length nc] 64)) w5 := ((Chg.refl _ _).drew).trans' hc5
            have HROW5 := hH (uH HSTEP w5 _ ho5 hc6 hat)
            have hc7 : Chg (fun j_ => (Value.slice OA k oc).ownBlock = some j_) wy w5 := ((Chg.refl _ wy).alloc (.cells #[.string nm, .slice NA la.length nc] 64)).trans' hc6
            have HC5 := hH hc7
            have HBR5 := hH ((uH HBR).chg hc7 (uH HNR))
            have HK15 := hH (uH KS1 _ hc7)
            have HK25 := hH (uH KS2 _ hc7)
            clear HK1 HK2 HOWA HRNA ho5 hc5 hat hc6 hc7
            refine hK.out _ _ ⟨fun _ => uH HK15, fun _ => uH HK25⟩ ?_
            clear hK K
            try simp only [Act.put, List.setIfInBounds_toArray]
            refine AU.step (i := 5) (by kernel_rfl) rfl (fun K hK => ?_)
            go_simp
            refine hK.out _ _ ⟨fun _ => uH HK15, fun _ => uH HK25⟩ ?_
            clear hK K
            try simp only [Act.put, List.setIfInBounds_toArray, List.set_cons_zero, List.set_cons_succ]
            have c8 := (uH HBR5).cell 0
            have c9 := (uH HBR5).cell 1
            have f8 := (uH HBR5).frozen 0
            have f9 := (uH HBR5).frozen 1
            simp only [List.getElem?_toArray, List.getElem?_cons_zero, List.getElem?_cons_succ] at c8 c9
            refine AU.step (i := 6) (by kernel_rfl) rfl (fun K hK => ?_)
            go_simp
            refine hK.out _ _ ⟨fun h => absurd (by decide) h, fun h => absurd (by decide) h⟩ ?_
            clear hK K
            try simp only [Act.put, List.setIfInBounds_toArray, List.set_cons_zero, List.set_cons_succ]
            refine AU.done (by kernel_rfl) ?_ _
            clear c8 c9 f8 f9 KS1 KS2 HK15 HK25
            obtain ⟨hp, hcp⟩ := put2 (uH HBR5) (.string s5) (.bool b5)
            have HBE := hH hp
            have HRE := hH ((((uH HRSW).chg (uH HC5) (fun e => by have := (uH HOWY _ e).1; have := uH HL5; omega))).chg hcp (by omega))
            have HROW9 := hH ((uH HROW5).keep RE_ctor_ok hcp (fun b hb _ => by have := uH HL5; omega))
            have HCH9 := hH ((((uH HCH).trans (uH HQ) (fun _ _ h => h.elim)).trans (uH HC5) (fun j hj e => by have := (uH HOWY j e).1; have := uH HL5; omega)).trans hcp (fun j hj e => by omega))
            have HZ9 := hH (Nat.le_trans (uH HB1) (Nat.le_trans (uH HZ) (Nat.le_trans (uH HC5).size hcp.size)))
            generalize (w5.setCell ⟨w.heap.size, 0, none⟩ (.string s5)).setCell ⟨w.heap.size, 1, none⟩ (.bool b5) = W9 at *
            clear hp hcp
            go_wp2_with fail
            go_roundw
            case rel =>
              refine ⟨k + 1, l ++ [⟨nm, la⟩], s5, b5, by go_num, by omega, by rw [List.length_append, uH HLL]; rfl, hs5, uH HBE, uH HRE, uH HROW9, uH HCH9, fun y hy => ?_, uH HZ9, ManyAt.step (r := s2.data.toList) (show ManyAt pCt n (rstV s1 b1) k l (some s2.data.toList) from uH HMA) hkn (show NextSt pCt (some s2.data.toList) ⟨nm, la⟩ _ from uH HFI)⟩
              rcases List.mem_append.1 hy with hy | hy
              · exact uH HOKL y hy
              · obtain rfl := List.mem_singleton.1 hy
                exact uH HCL
            case measure => simp [intOf]; omega
          · skip
            go_wp2_with fail
            clear q0 q1
            have KS1 := hH (fun W' (hW : Chg (fun j_ => (Value.slice OA k oc).ownBlock = some j_) wy W') => show W'.cell? ⟨gc, 0, none⟩ = some (.string nm) ∧ W'.cell? ⟨gc, 1, none⟩ = some (.slice NA la.length nc) from ⟨((uH HBF).chg hW (uH HNF)).cell 0, ((uH HBF).chg hW (uH HNF)).cell 1⟩)
            have KS2 := hH (fun W' (hW : Chg (fun j_ => (Value.slice OA k oc).ownBlock = some j_) wy W') => show W'.cell? ⟨g8, 0, none⟩ = some (.string s5) ∧ W'.cell? ⟨g8, 1, none⟩ = some (.bool true) from ⟨((uH HBS).chg hW (uH HNS)).cell 0, ((uH HBS).chg hW (uH HNS)).cell 1⟩)
            have HK1 := hH (uH KS1 _ ((Chg.refl _ wy).drew))
            have HK2 := hH (uH KS2 _ ((Chg.refl _ wy).drew))
            refine wp_region_au (fun W' => W'.cell? ⟨gc, 0, none⟩ = some (.string nm) ∧ W'.cell? ⟨gc, 1, none⟩ = some (.slice NA la.length nc)) [6] (fun W' => W'.cell? ⟨g8, 0, none⟩ = some (.string s5) ∧ W'.cell? ⟨g8, 1, none⟩ = some (.bool true)) [6] 7 (by kernel_rfl) (by kernel_rfl) ?_
            refine AU.tk (i := 0) (v := ?_) rfl (by kernel_rfl) (by kernel_rfl) (fun _ _ _ h => h) ?_ (uH HK1) ?_
            rotate_left
            · intro W' hS'; (try dsimp only at hS'); go_simp; try with_reducible rfl
            try simp only [Act.put, List.setIfInBounds_toArray]
            refine AU.tk (i := 1) (v := ?_) rfl (by kernel_rfl) (by kernel_rfl) (fun _ _ _ h => h) ?_ (uH HK1) ?_
            rotate_left
            · intro W' hS'; (try dsimp only at hS'); go_simp; try with_reducible rfl
            try simp only [Act.put]
            refine AU.tk2 (i := 4) (v := ?_) rfl (by kernel_rfl) (by kernel_rfl) (fun _ _ _ h => h) ?_ (uH HK2) ?_
            rotate_left
            · intro W' hS'; (try dsimp only at hS'); go_simp; try with_reducible rfl
            try simp only [Act.put]
            refine AU.step (i := 2) (by kernel_rfl) rfl (fun K hK => ?_)
            go_simp
            refine hK.out _ _ ⟨fun _ => uH KS1 _ (((Chg.refl _ wy).alloc (.cells #[.string nm, .slice NA la.length nc] 64)).drew), fun _ => uH KS2 _ (((Chg.refl _ wy).alloc (.cells #[.string nm, .slice NA la.length nc] 64)).drew)⟩ ?_
            clear hK K
            try simp only [Act.put, List.setIfInBounds_toArray, List.set_cons_zero, List.set_cons_succ]
            refine AU.step (i := 3) (by kernel_rfl) rfl (fun K hK => ?_)
            have HOWA := own_chg ((uH HOWN).alloc (.cells #[.string nm, .slice NA la.length nc] 64)) (Chg.drew (Chg.refl (fun _ => False) (wy.alloc (.cells #[.string nm, .slice NA la.length nc] 64)))) (fun _ _ h => h)
            have HRNA := (((rd_new wy wy.heap.size 64 [.string nm, .slice NA la.length nc] rfl).mono (T' := fun _ => True) (fun _ _ => trivial)).chg (Chg.drew (Chg.refl (fun _ => False) (wy.alloc (.cells #[.string nm, .slice NA la.length nc] 64)))) (fun _ _ _ h => h))
            refine step_append_rd _ rfl (.tmp 64) (.tmp 66) 68 rfl W5.heap.size 64 i2_ (.agg #[.string ⟨#[]⟩, .slice none 0 0]) 2 40 Tryz.underlying68 hi2 hz2 hs2_ hb2_ rfl (by decide) _ k _ rfl HOWA (fun _ => True) _ 1 1 [.string nm, .slice NA la.length nc] rfl rfl HRNA (by intro u hu; simp at hu; rcases hu with rfl | rfl <;> rfl) (hm1) (hm2) (by rw [show ((wy.alloc (.cells #[.string nm, .slice NA la.length nc] 64)).drew).heap.size = (wy.alloc (.cells #[.string nm, .slice NA la.length nc] 64)).heap.size from rfl, size_alloc]; have := uH HB1; have := uH HZ; omega) ?_
            intro v5 w5 ho5 hc5 hat
            obtain ⟨V51, V52, hv5⟩ := own_val ho5
            subst hv5
            have hc6 : Chg (fun j_ => (Value.slice OA k oc).ownBlock = some j_) (wy.alloc (.cells #[.string nm, .slice NA la.length nc] 64)) w5 := ((Chg.refl _ _).drew).trans' hc5
            have HROW5 := hH (uH HSTEP w5 _ ho5 hc6 hat)
            have hc7 : Chg (fun j_ => (Value.slice OA k oc).ownBlock = some j_) wy w5 := ((Chg.refl _ wy).alloc (.cells #[.string nm, .slice NA la.length nc] 64)).trans' hc6
            have HC5 := hH hc7
            have HBR5 := hH ((uH HBR).chg hc7 (uH HNR))
            have HK15 := hH (uH KS1 _ hc7)
            have HK25 := hH (uH KS2 _ hc7)
            clear HK1 HK2 HOWA HRNA ho5 hc5 hat hc6 hc7
            refine hK.out _ _ ⟨fun _ => uH HK15, fun _ => uH HK25⟩ ?_
            clear hK K
            try simp only [Act.put, List.setIfInBounds_toArray]
            refine AU.step (i := 5) (by kernel_rfl) rfl (fun K hK => ?_)
            go_simp
            refine hK.out _ _ ⟨fun _ => uH HK15, fun _ => uH HK25⟩ ?_
            clear hK K
            try simp only [Act.put, List.setIfInBounds_toArray, List.set_cons_zero, List.set_cons_succ]
            have c8 := (uH HBR5).cell 0
            have c9 := (uH HBR5).cell 1
            have f8 := (uH HBR5).frozen 0
            have f9 := (uH HBR5).frozen 1
            simp only [List.getElem?_toArray, List.getElem?_cons_zero, List.getElem?_cons_succ] at c8 c9
            refine AU.step (i := 6) (by kernel_rfl) rfl (fun K hK => ?_)
            go_simp
            refine hK.out _ _ ⟨fun h => absurd (by decide) h, fun h => absurd (by decide) h⟩ ?_
            clear hK K
            try simp only [Act.put, List.setIfInBounds_toArray, List.set_cons_zero, List.set_cons_succ]
            refine AU.done (by kernel_rfl) ?_ _
            clear c8 c9 f8 f9 KS1 KS2 HK15 HK25
            obtain ⟨hp, hcp⟩ := put2 (uH HBR5) (.string s5) (.bool true)
            have HBE := hH hp
            have HRE := hH ((((uH HRSW).chg (uH HC5) (fun e => by have := (uH HOWY _ e).1; have := uH HL5; omega))).chg hcp (by omega))
            have HROW9 := hH ((uH HROW5).keep RE_ctor_ok hcp (fun b hb _ => by have := uH HL5; omega))
            have HCH9 := hH ((((uH HCH).trans (uH HQ) (fun _ _ h => h.elim)).trans (uH HC5) (fun j hj e => by have := (uH HOWY j e).1; have := uH HL5; omega)).trans hcp (fun j hj e => by omega))
            have HZ9 := hH (Nat.le_trans (uH HB1) (Nat.le_trans (uH HZ) (Nat.le_trans (uH HC5).size hcp.size)))
            generalize (w5.setCell ⟨w.heap.size, 0, none⟩ (.string s5)).setCell ⟨w.heap.size, 1, none⟩ (.bool true) = W9 at *
            clear hp hcp
            go_wp2_with fail
            go_roundw
            case rel =>
              refine ⟨k + 1, l ++ [⟨nm, la⟩], s5, true, by go_num, by omega, by rw [List.length_append, uH HLL]; rfl, hs5, uH HBE, uH HRE, uH HROW9, uH HCH9, fun y hy => ?_, uH HZ9, ManyAt.step (r := s2.data.toList) (show ManyAt pCt n (rstV s1 b1) k l (some s2.data.toList) from uH HMA) hkn (show NextSt pCt (some s2.data.toList) ⟨nm, la⟩ _ from uH HFI)⟩
              rcases List.mem_append.1 hy with hy | hy
              · exact uH HOKL y hy
              · obtain rfl := List.mem_singleton.1 hy
                exact uH HCL
            case measure => simp [intOf]; omega
        · have ham : a < m := by omega
          have hai : (a : Int) < (m : Int) := by omega
          obtain rfl : b5 = false := by
            cases b5
            · rfl
            · exact absurd (.inl rfl) hend
          clear hend
          have HNI := hH (refNodes_any s5 false wy hs5)
          go_upto_region 13 with (go_at_call 70; refine (uH HNI).mono ?_; rintro e w5 ⟨v, x, s6, b6, rfl, hR, hok6, hs6, hc6, hnx6⟩; (obtain ⟨XA, xc, rfl⟩ := RdR.val hR.1); have HNX6 := hH hnx6; have HOK6 := hH hok6; have HRX := hH hR.1; have HZ5 := hH hc6.size; have HC6I := hH hc6; clear hnx6 hc6 hok6 hR q0 q1)
          have hbx7 := (Chg.refl (fun _ => False) w5).alloc (.cells #[.string s6, .bool b6] 104)
          have HBS := hH (Blk.new w5 104 #[.string s6, .bool b6])
          have HG13 := hH (show wy.heap.size ≤ w5.heap.size from uH HZ5)
          have hq7 := (uH HC6I).trans' hbx7
          have HRX7 := hH ((uH HRX).chg hbx7 (fun _ _ _ => id))
          have HBXW := hH ((uH HBXI).chg hq7 id)
          have HCBW := hH ((uH HCBI).chg hq7 id)
          have HROWW := hH ((uH HROWI).keep RE_nodes_ok hq7 (fun _ h => h.elim))
          have HWY := hH (show W6.heap.size ≤ wy.heap.size from (uH HCHI).size)
          have HOWY := hH (show ∀ j, va.ownBlock = some j → W6.heap.size ≤ j ∧ j < wy.heap.size from by
            obtain ⟨_, _, h2, _⟩ := uH HROWI
            exact h2.lt)
          have HZ := hH hq7.size
          have HCQ7 := hH hq7
          generalize w5.alloc (.cells #[.string s6, .bool b6] 104) = W7 at *
          generalize w5.heap.size = g13 at *
          clear hbx7 hq7
          obtain ⟨ps, hps1, hps2, hps3⟩ := uH HROWW
          obtain ⟨VA1, VA2, hva⟩ := own_val hps2
          have hpl : ps.length = a := by rw [← hla, ← hps1, List.length_map]
          have HNF := hH (show ¬ va.ownBlock = some gc from fun e => by have := (uH HOWY gc e).1; have := uH HZ7; omega)
          have HNR := hH (show ¬ va.ownBlock = some g8 from fun e => by have := (uH HOWY g8 e).1; have := uH HZ6; have := uH HZ7; omega)
          have HNS := hH (show ¬ va.ownBlock = some g13 from fun e => by have := (uH HOWY g13 e).2; have := uH HG13; omega)
          have HB1 := HWY
          have HSTEP := hH (fun W3 v3 (ho : W3.ownsRow W6.heap.size 54 1 v3 (a + 1) ((ps.flatMap fun p => (fun (_ : List Nd) u => [u]) p.1 p.2) ++ [.slice XA x.length xc])) (hc : Chg (fun k => va.ownBlock = some k) (W7.alloc (.cells #[.slice XA x.length xc] 54)) W3) (hat : v3.ownBlock = va.ownBlock ∨ v3.ownBlock = some (W7.alloc (.cells #[.slice XA x.length xc] 54)).heap.size) => show RowIn (fun (_ : List Nd) u => [u]) RE_nodes 54 1 W6.heap.size W3 v3 (la ++ [x]) from by
            rw [← hps1]
            exact RowIn.step RE_nodes_ok hps2 hps3 (fun j hj => (uH HOWY j hj).2) (uH HWY) (uH HZ) (uH HRX7) (by rw [hpl]; exact ho) hc hat)
          rw [hpl] at hps2 hva
          clear hpl
          have HOWN := hH hps2
          have HBF := HCBW
          have HBR := HBXW
          subst hva
          have hneFS : ¬ g13 = gc := by have := uH HG13; have := uH HWY; have := uH HZ7; omega
          have hne1 : ¬ gc = g8 := by have := uH HZ6; omega
          have hne2 : ¬ g8 = gc := by have := uH HZ6; omega
          have hm1 : a + 1 ≤ maxLen := by simp only [maxLen]; omega
          have hm2 : (a + 1) * 24 ≤ 140737488355328 := by omega
          have KS1 := hH (fun W' (hW : Chg (fun j_ => (Value.slice VA1 a VA2).ownBlock = some j_) W7 W') => show W'.cell? ⟨gc, 1, none⟩ = some (.slice VA1 a VA2) from ((uH HBF).chg hW (uH HNF)).cell 1)
          have KS2 := hH (fun W' (hW : Chg (fun j_ => (Value.slice VA1 a VA2).ownBlock = some j_) W7 W') => show W'.cell? ⟨g13, 0, none⟩ = some (.string s6) ∧ W'.cell? ⟨g13, 1, none⟩ = some (.bool b6) from ⟨((uH HBS).chg hW (uH HNS)).cell 0, ((uH HBS).chg hW (uH HNS)).cell 1⟩)
          have HK1 := hH (uH KS1 _ ((Chg.refl _ W7).drew))
          have HK2 := hH (uH KS2 _ ((Chg.refl _ W7).drew))
          refine wp_region_au (fun W' => W'.cell? ⟨gc, 1, none⟩ = some (.slice VA1 a VA2)) [7, 8] (fun W' => W'.cell? ⟨g13, 0, none⟩ = some (.string s6) ∧ W'.cell? ⟨g13, 1, none⟩ = some (.bool b6)) [8] 9 (by kernel_rfl) (by kernel_rfl) ?_
          refine AU.tk (i := 0) (v := ?_) rfl (by kernel_rfl) (by kernel_rfl) (fun _ _ _ h => h) ?_ (uH HK1) ?_
          rotate_left
          · intro W' hS'; (try dsimp only at hS'); go_simp; try with_reducible rfl
          try simp only [Act.put, List.setIfInBounds_toArray]
          refine AU.tk (i := 1) (v := ?_) rfl (by kernel_rfl) (by kernel_rfl) (fun _ _ _ h => h) ?_ (uH HK1) ?_
          rotate_left
          · intro W' hS'; (try dsimp only at hS'); go_simp; try with_reducible rfl
          try simp only [Act.put]
          refine AU.tk (i := 2) (v := ?_) rfl (by kernel_rfl) (by kernel_rfl) (fun _ _ _ h => h) ?_ (uH HK1) ?_
          rotate_left
          · intro W' hS'; (try dsimp only at hS'); go_simp; try with_reducible rfl
          try simp only [Act.put]
          refine AU.tk2 (i := 5) (v := ?_) rfl (by kernel_rfl) (by kernel_rfl) (fun _ _ _ h => h) ?_ (uH HK2) ?_
          rotate_left
          · intro W' hS'; (try dsimp only at hS'); go_simp; try with_reducible rfl
          try simp only [Act.put]
          refine AU.step (i := 3) (by kernel_rfl) rfl (fun K hK => ?_)
          go_simp
          refine hK.out _ _ ⟨fun _ => uH KS1 _ (((Chg.refl _ W7).alloc (.cells #[.slice XA x.length xc] 54)).drew), fun _ => uH KS2 _ (((Chg.refl _ W7).alloc (.cells #[.slice XA x.length xc] 54)).drew)⟩ ?_
          clear hK K
          try simp only [Act.put, List.setIfInBounds_toArray, List.set_cons_zero, List.set_cons_succ]
          refine AU.step (i := 4) (by kernel_rfl) rfl (fun K hK => ?_)
          have HOWA := own_chg ((uH HOWN).alloc (.cells #[.slice XA x.length xc] 54)) (Chg.drew (Chg.refl (fun _ => False) (W7.alloc (.cells #[.slice XA x.length xc] 54)))) (fun _ _ h => h)
          have HRNA := (((rd_new W7 W7.heap.size 54 [.slice XA x.length xc] rfl).mono (T' := fun _ => True) (fun _ _ => trivial)).chg (Chg.drew (Chg.refl (fun _ => False) (W7.alloc (.cells #[.slice XA x.length xc] 54)))) (fun _ _ _ h => h))
          refine step_append_rd _ rfl (.tmp 58) (.tmp 60) 62 rfl W6.heap.size 54 i_ (.slice none 0 0) 1 24 Tryz.underlying62 hi hz hsz_ hbb rfl (by decide) _ a _ rfl HOWA (fun _ => True) _ 1 1 [.slice XA x.length xc] rfl rfl HRNA (by intro u hu; simp at hu; subst hu; rfl) (hm1) (hm2) (by rw [show ((W7.alloc (.cells #[.slice XA x.length xc] 54)).drew).heap.size = (W7.alloc (.cells #[.slice XA x.length xc] 54)).heap.size from rfl, size_alloc]; have := uH HB1; have := uH HZ; omega) ?_
          intro v5 w5 ho5 hc5 hat
          obtain ⟨V51, V52, hv5⟩ := own_val ho5
          subst hv5
          have hc6 : Chg (fun j_ => (Value.slice VA1 a VA2).ownBlock = some j_) (W7.alloc (.cells #[.slice XA x.length xc] 54)) w5 := ((Chg.refl _ _).drew).trans' hc5
          have HROW5 := hH (uH HSTEP w5 _ ho5 hc6 hat)
          have hc7 : Chg (fun j_ => (Value.slice VA1 a VA2).ownBlock = some j_) W7 w5 := ((Chg.refl _ W7).alloc (.cells #[.slice XA x.length xc] 54)).trans' hc6
          have HC5 := hH hc7
          have HBF5 := hH ((uH HBF).chg hc7 (uH HNF))
          have HBR5 := hH ((uH HBR).chg hc7 (uH HNR))
          have HBS5 := hH ((uH HBS).chg hc7 (uH HNS))
          have HK15 := hH (uH KS1 _ hc7)
          have HK25 := hH (uH KS2 _ hc7)
          clear HK1 HK2 HOWA HRNA ho5 hc5 hat hc6 hc7
          refine hK.out _ _ ⟨fun _ => uH HK15, fun _ => uH HK25⟩ ?_
          clear hK K
          try simp only [Act.put, List.setIfInBounds_toArray]
          refine AU.step (i := 6) (by kernel_rfl) rfl (fun K hK => ?_)
          go_simp
          refine hK.out _ _ ⟨fun _ => uH HK15, fun _ => uH HK25⟩ ?_
          clear hK K
          try simp only [Act.put, List.setIfInBounds_toArray, List.set_cons_zero, List.set_cons_succ]
          have c7 := (uH HBF5).cell 1
          have f7 := (uH HBF5).frozen 1
          have c8 := (uH HBR5).cell 0
          have c9 := (uH HBR5).cell 1
          have f8 := (uH HBR5).frozen 0
          have f9 := (uH HBR5).frozen 1
          simp only [List.getElem?_toArray, List.getElem?_cons_zero, List.getElem?_cons_succ] at c7 c8 c9
          refine AU.step (i := 7) (by kernel_rfl) rfl (fun K hK => ?_)
          go_simp
          refine hK.out _ _ ⟨fun h => absurd (by decide) h, fun _ => ⟨((uH HBS5).far (p := ⟨gc, 1, none⟩) hneFS (.slice V51 (a + 1) V52)).cell 0, ((uH HBS5).far (p := ⟨gc, 1, none⟩) hneFS (.slice V51 (a + 1) V52)).cell 1⟩⟩ ?_
          clear hK K
          try simp only [Act.put, List.setIfInBounds_toArray, List.set_cons_zero, List.set_cons_succ]
          refine AU.step (i := 8) (by kernel_rfl) rfl (fun K hK => ?_)
          go_simp
          refine hK.out _ _ ⟨fun h => absurd (by decide) h, fun h => absurd (by decide) h⟩ ?_
          clear hK K
          try simp only [Act.put, List.setIfInBounds_toArray, List.set_cons_zero, List.set_cons_succ]
          refine AU.done (by kernel_rfl) ?_ _
          clear c7 f7 c8 c9 f8 f9 KS1 KS2 HK15 HK25
          have hgc := (((uH HBF5).set_ 1 (.slice V51 (a + 1) V52)).far (p := ⟨g8, 0, none⟩) hne1 (.string s6)).far (p := ⟨g8, 1, none⟩) hne1 (.bool b6)
          have hg8 := (((uH HBR5).far (p := ⟨gc, 1, none⟩) hne2 (.slice V51 (a + 1) V52)).set_ 0 (.string s6)).set_ 1 (.bool b6)
          have hc9 := (((Chg.refl (fun j => j = g8 ∨ j = gc) w5).setCell (p := ⟨gc, 1, none⟩) (fun _ => .inr rfl) (.slice V51 (a + 1) V52)).setCell (p := ⟨g8, 0, none⟩) (fun _ => .inl rfl) (.string s6)).setCell (p := ⟨g8, 1, none⟩) (fun _ => .inl rfl) (.bool b6)
          have HROW9 := hH ((uH HROW5).keep RE_nodes_ok hc9 (fun b hb _ => by have := uH HZ6; have := uH HZ7; rcases hb with h | h <;> omega))
          have HCH9 := hH ((((uH HCHI).trans (uH HCQ7) (fun _ _ h => h.elim)).trans (uH HC5) (fun j hj e => by have := (uH HOWY j e).1; omega)).trans' hc9)
          simp only [List.setIfInBounds_toArray, List.set_cons_zero, List.set_cons_succ] at hgc hg8
          have HGC := hH hgc
          have HG88 := hH hg8
          generalize (((w5.setCell ⟨gc, 1, none⟩ (.slice V51 (a + 1) V52)).setCell ⟨g8, 0, none⟩ (.string s6)).setCell ⟨g8, 1, none⟩ (.bool b6)) = W9 at *
          clear hgc hg8 hc9
          go_wp2_with fail
          go_roundw
          case rel =>
            refine ⟨a + 1, la ++ [x], s6, b6, _, by go_num, by omega, by rw [List.length_append, hla]; rfl, hs6, uH HG88, uH HGC, uH HROW9, uH HCH9, fun y hy => ?_, ManyAt.step (r := s5.data.toList) (show ManyAt pTyp m (rstV s4 b4) a la (some s5.data.toList) from uH HMAI) ham (show NextSt pTyp (some s5.data.toList) x (rstV s6 b6) from uH HNX6)⟩
            rcases List.mem_append.1 hy with hy | hy
            · exact uH HOKA y hy
            · obtain rfl := List.mem_singleton.1 hy
              exact uH HOK6
          case measure => simp [intOf]; omega
end Go.Proofs.YtinekmjengckdaaGreatDoor
