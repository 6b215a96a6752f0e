/-
  A region that draws its order, whose last operation waits for all others: what the loads lean on need not hold behind it.
-/
import Derived.Deep.RegionHeld3
namespace Go.Proofs.YticnehmgaklhfaaGreatDoor
section
variable {P : Program} {ops : Array Oper} {Q : Exit → Act → World → Prop} {md : Region.Mode} {S : World → Prop} {z : Nat}
/-- Whatever comes up next, and what S says holds behind it, but behind number z. -/
def AnyBut (P : Program) (md : Region.Mode) (ops : Array Oper) (Q : Exit → Act → World → Prop) (S : World → Prop) (z : Nat) : Nat → Array Bool → Act → World → Prop
  | 0 => fun up a w => Region.ready md ops up = [] ∧ Q .normal a w
  | n + 1 => fun up a w => (Region.ready md ops up = [] → Q .normal a w) ∧ ∀ i ∈ Region.ready md ops up, wpOp P ops Q i (fun b v => (i ≠ z → S v) ∧ AnyBut P md ops Q S z n (up.setIfInBounds i true) b v) a w
theorem AnyBut.any : ∀ (n : Nat) (up : Array Bool) (a : Act) (w : World), AnyBut P md ops Q S z n up a w → wpAny P md ops Q n up a w
  | 0 => fun _ _ _ h => h
  | n + 1 => fun _ _ _ h => ⟨h.1, fun i hi => wpOp_mono (fun b v k => AnyBut.any n _ b v k.2) (h.2 i hi)⟩
/-- Number z waits for number i. -/
def lastB (md : Region.Mode) (ops : Array Oper) (z i : Nat) : Bool := match ops[z]? with
  | some o => o.after.toList.any fun e => Region.binds md e && e.on == i
  | none => true
theorem AnyBut.early {i : Nat} {o : Oper} {v : Value} (hi : ops[i]? = some o) (hs : ∀ (j : Nat) (p : Oper) cs b, ops[j]? = some p → p.op ≠ .select cs b) (hz : lastB md ops z i = true)
    (hp : ∀ c a w, Q (.panic c) (a.put o.dst v) w → Q (.panic c) a w) :
    ∀ (n : Nat) (up : Array Bool) (a : Act) (w : World), (∀ j p, ops[j]? = some p → j ≠ i → up.getD j true = false → (∀ e ∈ p.after, Region.binds md e = true → e.on ≠ i) → o.apart ops p = true) →
      i ∈ Region.ready md ops up → YieldsIf P ops S o v a → S w → AnyBut P md ops Q S z n (up.setIfInBounds i true) (a.put o.dst v) w → AnyBut P md ops Q S z (n + 1) up a w := by
  intro n
  induction n with
  | zero =>
    intro up a w _ hr hy hS h
    refine ⟨fun e => (by rw [e] at hr; cases hr), fun j hj => ?_⟩
    rcases Decidable.em (j = i) with rfl | hji
    · exact hy.wpOp hi hS ⟨fun _ => hS, h⟩
    · have := ready_mono hj hji
      rw [h.1] at this
      cases this
  | succ n ih =>
    intro up a w hf hr hy hS h
    refine ⟨fun e => (by rw [e] at hr; cases hr), fun j hj => ?_⟩
    rcases Decidable.em (j = i) with rfl | hji
    · exact hy.wpOp hi hS ⟨fun _ => hS, h⟩
    · obtain ⟨hju, p, hp1, hall⟩ := mem_ready.1 hj
      have hno : ∀ e ∈ p.after, Region.binds md e = true → e.on ≠ i := fun e he hb heq => by
        have h1 := hall e he hb
        have h0 := (mem_ready.1 hr).1
        rw [heq] at h1
        rcases Nat.lt_or_ge i up.size with h' | h'
        · simp [h'] at h0 h1; rw [h0] at h1; cases h1
        · simp [Array.getElem?_eq_none h'] at h1
      have hjz : j ≠ z := by
        rintro rfl
        unfold lastB at hz
        rw [hp1] at hz
        obtain ⟨e, he, hb⟩ := List.any_eq_true.1 hz
        rw [Bool.and_eq_true, beq_iff_eq] at hb
        exact hno e (by simpa using he) hb.1 hb.2
      have h2 := wpOp_putIf hp1 (hf j p hp1 hji hju hno) (fun cs b => hs i o cs b hi) (fun cs b => hs j p cs b hp1) hp hy (h.2 j (ready_mono hj hji))
      refine wpOp_mono (fun b v k => ⟨k.2.1, ih (up.setIfInBounds j true) b v (fun k ok hk hki hun hn => hf k ok hk hki ?_ hn) (ready_mono hr (Ne.symm hji)) k.1 (k.2.1 hjz) ?_⟩) h2
      · rcases Decidable.em (j = k) with rfl | hjk
        · exact hju
        · rwa [getD_set_ne true hjk] at hun
      · rw [Array.setIfInBounds_comm _ _ hji]
        exact k.2.2
/-- Number i first: it yields v in every world of S, and nobody who may come before it touches what it holds. -/
theorem AnyBut.take {i : Nat} {o : Oper} {v : Value} {n : Nat} {up : Array Bool} {a : Act} {w : World} (hi : ops[i]? = some o) (hs : Region.noSelect ops = true) (hf : Region.free md ops up i = true) (hr : (Region.ready md ops up).contains i = true) (hz : lastB md ops z i = true)
    (hp : ∀ c a w, Q (.panic c) (a.put o.dst v) w → Q (.panic c) a w) (hy : YieldsIf P ops S o v a) (hS : S w) (h : AnyBut P md ops Q S z n (up.setIfInBounds i true) (a.put o.dst v) w) : AnyBut P md ops Q S z (n + 1) up a w :=
  AnyBut.early hi (Region.noSelect_spec hs) hz hp n up a w (Region.free_spec hi hf) (by simpa using hr) hy hS h
/-- Just one may come up. -/
theorem AnyBut.step {i : Nat} {o : Oper} {n : Nat} {up : Array Bool} {a : Act} {w : World} (hr : Region.ready md ops up = [i]) (ho : ops[i]? = some o)
    (h : ∀ K : Act → World → Prop, Shut (∀ b v, (i ≠ z → S v) → AnyBut P md ops Q S z n (up.setIfInBounds i true) b v → K b v) → if Region.wanted o (yielded ops a.tmps) = true then Oper.wp P o a w K Q else K (a.put o.dst undef) w) : AnyBut P md ops Q S z (n + 1) up a w := by
  refine ⟨fun e => (by rw [hr] at e; cases e), fun j hj => ?_⟩
  rw [hr, List.mem_singleton] at hj
  subst hj
  exact wpOp_step ho (fun K hK => h K (fun b v hS hW => hK b v ⟨hS, hW⟩))
theorem AnyBut.done {up : Array Bool} {a : Act} {w : World} (hr : Region.ready md ops up = []) (h : Q .normal a w) : ∀ n, AnyBut P md ops Q S z n up a w
  | 0 => ⟨hr, h⟩
  | _ + 1 => ⟨fun _ => h, by rw [hr]; simp⟩
theorem wp_region_but {id : Nat} {a : Act} {w : World} (S : World → Prop) (z : Nat) (hm : P.follows .mixedOrders = true) (h : AnyBut P .any ops Q S z ops.size (Array.replicate ops.size false) a w.drew) : (Code.region id ops true).wp P Q a w :=
  wp_region_any hm (AnyBut.any _ _ _ _ h)
/-- The same, shut: no tactic looks into it by itself. -/
structure AB (P : Program) (md : Region.Mode) (ops : Array Oper) (Q : Exit → Act → World → Prop) (S : World → Prop) (z n : Nat) (up : Array Bool) (a : Act) (w : World) : Prop where
  go : AnyBut P md ops Q S z n up a w
theorem AB.take {i : Nat} {o : Oper} {v : Value} {n : Nat} {up : Array Bool} {a : Act} {w : World} (hi : ops[i]? = some o) (hs : Region.noSelect ops = true) (hf : Region.free md ops up i = true) (hr : (Region.ready md ops up).contains i = true) (hz : lastB md ops z i = true)
    (hp : ∀ c a w, Q (.panic c) (a.put o.dst v) w → Q (.panic c) a w) (hy : YieldsIf P ops S o v a) (hS : S w) (h : AB P md ops Q S z n (up.setIfInBounds i true) (a.put o.dst v) w) : AB P md ops Q S z (n + 1) up a w := ⟨AnyBut.take hi hs hf hr hz hp hy hS h.go⟩
theorem AB.step {i : Nat} {o : Oper} {n : Nat} {up : Array Bool} {a : Act} {w : World} (hr : Region.ready md ops up = [i]) (ho : ops[i]? = some o)
    (h : ∀ K : Act → World → Prop, Shut (∀ b v, (i ≠ z → S v) → AB P md ops Q S z n (up.setIfInBounds i true) b v → K b v) → if Region.wanted o (yielded ops a.tmps) = true then Oper.wp P o a w K Q else K (a.put o.dst undef) w) : AB P md ops Q S z (n + 1) up a w :=
  ⟨AnyBut.step hr ho fun K hK => h K fun b v hS hW => hK.out b v hS hW.go⟩
theorem AB.done {up : Array Bool} {a : Act} {w : World} (hr : Region.ready md ops up = []) (h : Q .normal a w) (n : Nat) : AB P md ops Q S z n up a w := ⟨AnyBut.done hr h n⟩
theorem wp_region_ab {id : Nat} {a : Act} {w : World} (S : World → Prop) (z n : Nat) (hn : ops.size = n) (hm : P.follows .mixedOrders = true) (h : AB P .any ops Q S z n (Array.replicate n false) a w.drew) : (Code.region id ops true).wp P Q a w := by
  subst hn
  exact wp_region_any hm (AnyBut.any _ _ _ _ h.go)
end
end Go.Proofs.YticnehmgaklhfaaGreatDoor
