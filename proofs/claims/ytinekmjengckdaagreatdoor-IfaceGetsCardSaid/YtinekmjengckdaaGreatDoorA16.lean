/-
  A region that draws its order, whose last operation waits for all others: what the loads lean on need not hold behind it. Layer 23: names with their types: whether they may be, together.
-/
import Derived.Deep.RegionHeld3
import Derived.Test.YtinekmjengckdaaGreatDoorA15
namespace Go.Proofs.YtinekmjengckdaaGreatDoor
section
variable {P : Program} {ops : Array Oper} {Q : Exit → Act → World → Prop} {md : Region.Mode} {S : World → Prop} {z : Nat}
def AnyBut (P : Program) (md : Region.Mode) (ops : Array Oper) (Q : Exit → Act → World → Prop) (S : World → Prop) (z : Nat) : Nat → Array Bool → Act → World → Prop
  | 0 => fun up a w => Region.ready md ops up = [] ∧ Q .normal a w
  | n + 1 => fun up a w => (Region.ready md ops up = [] → Q .normal a w) ∧ ∀ i ∈ Region.ready md ops up, wpOp P ops Q i (fun b v => (i ≠ z → S v) ∧ AnyBut P md ops Q S z n (up.setIfInBounds i true) b v) a w
theorem AnyBut.any : ∀ (n : Nat) (up : Array Bool) (a : Act) (w : World), AnyBut P md ops Q S z n up a w → wpAny P md ops Q n up a w
  | 0 => fun _ _ _ h => h
  | n + 1 => fun _ _ _ h => ⟨h.1, fun i hi => wpOp_mono (fun b v k => AnyBut.any n _ b v k.2) (h.2 i hi)⟩
def lastB (md : Region.Mode) (ops : Array Oper) (z i : Nat) : Bool := match ops[z]? with
  | some o => o.after.toList.any fun e => Region.binds md e && e.on == i
  | none => true
theorem AnyBut.early {i : Nat} {o : Oper} {v : Value} (hi : ops[i]? = some o) (hs : ∀ (j : Nat) (p : Oper) cs b, ops[j]? = some p → p.op ≠ .select cs b) (hz : lastB md ops z i = true)
    (hp : ∀ c a w, Q (.panic c) (a.put o.dst v) w → Q (.panic c) a w) :
    ∀ (n : Nat) (up : Array Bool) (a : Act) (w : World), (∀ j p, ops[j]? = some p → j ≠ i → up.getD j true = false → (∀ e ∈ p.after, Region.binds md e = true → e.on ≠ i) → o.apart ops p = true) →
      i ∈ Region.ready md ops up → YieldsIf P ops S o v a → S w → AnyBut P md ops Q S z n (up.setIfInBounds i true) (a.put o.dst v) w → AnyBut P md ops Q S z (n + 1) up a w := by
  intro n
  induction n with
  | zero =>
    intro up a w _ hr hy hS h
    refine ⟨fun e => (by rw [e] at hr; cases hr), fun j hj => ?_⟩
    rcases Decidable.em (j = i) with rfl | hji
    · exact hy.wpOp hi hS ⟨fun _ => hS, h⟩
    · have := ready_mono hj hji
      rw [h.1] at this
      cases this
  | succ n ih =>
    intro up a w hf hr hy hS h
    refine ⟨fun e => (by rw [e] at hr; cases hr), fun j hj => ?_⟩
    rcases Decidable.em (j = i) with rfl | hji
    · exact hy.wpOp hi hS ⟨fun _ => hS, h⟩
    · obtain ⟨hju, p, hp1, hall⟩ := mem_ready.1 hj
      have hno : ∀ e ∈ p.after, Region.binds md e = true → e.on ≠ i := fun e he hb heq => by
        have h1 := hall e he hb
        have h0 := (mem_ready.1 hr).1
        rw [heq] at h1
        rcases Nat.lt_or_ge i up.size with h' | h'
        · simp [h'] at h0 h1; rw [h0] at h1; cases h1
        · simp [Array.getElem?_eq_none h'] at h1
      have hjz : j ≠ z := by
        rintro rfl
        unfold lastB at hz
        rw [hp1] at hz
        obtain ⟨e, he, hb⟩ := List.any_eq_true.1 hz
        rw [Bool.and_eq_true, beq_iff_eq] at hb
        exact hno e (by simpa using he) hb.1 hb.2
      have h2 := wpOp_putIf hp1 (hf j p hp1 hji hju hno) (fun cs b => hs i o cs b hi) (fun cs b => hs j p cs b hp1) hp hy (h.2 j (ready_mono hj hji))
      refine wpOp_mono (fun b v k => ⟨k.2.1, ih (up.setIfInBounds j true) b v (fun k ok hk hki hun hn => hf k ok hk hki ?_ hn) (ready_mono hr (Ne.symm hji)) k.1 (k.2.1 hjz) ?_⟩) h2
      · rcases Decidable.em (j = k) with rfl | hjk
        · exact hju
        · rwa [getD_set_ne true hjk] at hun
      · rw [Array.setIfInBounds_comm _ _ hji]
        exact k.2.2
theorem AnyBut.take {i : Nat} {o : Oper} {v : Value} {n : Nat} {up : Array Bool} {a : Act} {w : World} (hi : ops[i]? = some o) (hs : Region.noSelect ops = true) (hf : Region.free md ops up i = true) (hr : (Region.ready md ops up).contains i = true) (hz : lastB md ops z i = true)
    (hp : ∀ c a w, Q (.panic c) (a.put o.dst v) w → Q (.panic c) a w) (hy : YieldsIf P ops S o v a) (hS : S w) (h : AnyBut P md ops Q S z n (up.setIfInBounds i true) (a.put o.dst v) w) : AnyBut P md ops Q S z (n + 1) up a w :=
  AnyBut.early hi (Region.noSelect_spec hs) hz hp n up a w (Region.free_spec hi hf) (by simpa using hr) hy hS h
theorem AnyBut.step {i : Nat} {o : Oper} {n : Nat} {up : Array Bool} {a : Act} {w : World} (hr : Region.ready md ops up = [i]) (ho : ops[i]? = some o)
    (h : ∀ K : Act → World → Prop, Shut (∀ b v, (i ≠ z → S v) → AnyBut P md ops Q S z n (up.setIfInBounds i true) b v → K b v) → if Region.wanted o (yielded ops a.tmps) = true then Oper.wp P o a w K Q else K (a.put o.dst undef) w) : AnyBut P md ops Q S z (n + 1) up a w := by
  refine ⟨fun e => (by rw [hr] at e; cases e), fun j hj => ?_⟩
  rw [hr, List.mem_singleton] at hj
  subst hj
  exact wpOp_step ho (fun K hK => h K (fun b v hS hW => hK b v ⟨hS, hW⟩))
theorem AnyBut.done {up : Array Bool} {a : Act} {w : World} (hr : Region.ready md ops up = []) (h : Q .normal a w) : ∀ n, AnyBut P md ops Q S z n up a w
  | 0 => ⟨hr, h⟩
  | _ + 1 => ⟨fun _ => h, by rw [hr]; simp⟩
structure AB (P : Program) (md : Region.Mode) (ops : Array Oper) (Q : Exit → Act → World → Prop) (S : World → Prop) (z n : Nat) (up : Array Bool) (a : Act) (w : World) : Prop where
  go : AnyBut P md ops Q S z n up a w
theorem AB.take {i : Nat} {o : Oper} {v : Value} {n : Nat} {up : Array Bool} {a : Act} {w : World} (hi : ops[i]? = some o) (hs : Region.noSelect ops = true) (hf : Region.free md ops up i = true) (hr : (Region.ready md ops up).contains i = true) (hz : lastB md ops z i = true)
    (hp : ∀ c a w, Q (.panic c) (a.put o.dst v) w → Q (.panic c) a w) (hy : YieldsIf P ops S o v a) (hS : S w) (h : AB P md ops Q S z n (up.setIfInBounds i true) (a.put o.dst v) w) : AB P md ops Q S z (n + 1) up a w := ⟨AnyBut.take hi hs hf hr hz hp hy hS h.go⟩
theorem AB.step {i : Nat} {o : Oper} {n : Nat} {up : Array Bool} {a : Act} {w : World} (hr : Region.ready md ops up = [i]) (ho : ops[i]? = some o)
    (h : ∀ K : Act → World → Prop, Shut (∀ b v, (i ≠ z → S v) → AB P md ops Q S z n (up.setIfInBounds i true) b v → K b v) → if Region.wanted o (yielded ops a.tmps) = true then Oper.wp P o a w K Q else K (a.put o.dst undef) w) : AB P md ops Q S z (n + 1) up a w :=
  ⟨AnyBut.step hr ho fun K hK => h K fun b v hS hW => hK.out b v hS hW.go⟩
theorem AB.tk {i : Nat} {o : Oper} {v : Value} {n : Nat} {up : Array Bool} {a : Act} {w : World} (hi : ops[i]? = some o) (hb : (Region.noSelect ops && (Region.free md ops up i && ((Region.ready md ops up).contains i && lastB md ops z i))) = true)
    (hw : Region.wanted o (yielded ops a.tmps) = true) (hp : ∀ c a w, Q (.panic c) (a.put o.dst v) w → Q (.panic c) a w) (hy : ∀ w, S w → (execOp a.eval o).run P w = .ok (.value v) w) (hS : S w) (h : AB P md ops Q S z n (up.setIfInBounds i true) (a.put o.dst v) w) : AB P md ops Q S z (n + 1) up a w := by
  simp only [Bool.and_eq_true] at hb
  exact AB.take hi hb.1 hb.2.1 hb.2.2.1 hb.2.2.2 hp (Or.inl ⟨hw, hy⟩) hS h
theorem AB.ot {i : Nat} {o : Oper} {n : Nat} {up : Array Bool} {a : Act} {w : World} (hi : ops[i]? = some o) (hb : (Region.noSelect ops && (Region.free md ops up i && ((Region.ready md ops up).contains i && lastB md ops z i))) = true)
    (hw : Region.wanted o (yielded ops a.tmps) = false) (hp : ∀ c a w, Q (.panic c) (a.put o.dst undef) w → Q (.panic c) a w) (hS : S w) (h : AB P md ops Q S z n (up.setIfInBounds i true) (a.put o.dst undef) w) : AB P md ops Q S z (n + 1) up a w := by
  simp only [Bool.and_eq_true] at hb
  exact AB.take hi hb.1 hb.2.1 hb.2.2.1 hb.2.2.2 hp (Or.inr ⟨hw, rfl⟩) hS h
theorem AB.two {i j : Nat} {o p : Oper} {n : Nat} {up : Array Bool} {a : Act} {w : World} (hr : Region.ready md ops up = [i, j]) (ho : ops[i]? = some o) (hp : ops[j]? = some p)
    (h1 : ∀ K : Act → World → Prop, Shut (∀ b v, (i ≠ z → S v) → AB P md ops Q S z n (up.setIfInBounds i true) b v → K b v) → if Region.wanted o (yielded ops a.tmps) = true then Oper.wp P o a w K Q else K (a.put o.dst undef) w)
    (h2 : ∀ K : Act → World → Prop, Shut (∀ b v, (j ≠ z → S v) → AB P md ops Q S z n (up.setIfInBounds j true) b v → K b v) → if Region.wanted p (yielded ops a.tmps) = true then Oper.wp P p a w K Q else K (a.put p.dst undef) w) : AB P md ops Q S z (n + 1) up a w := by
  refine ⟨fun e => (by rw [hr] at e; cases e), fun k hk => ?_⟩
  rw [hr, List.mem_cons, List.mem_singleton] at hk
  rcases hk with rfl | rfl
  · exact wpOp_step ho (fun K hK => h1 K (fun b v hS hW => hK b v ⟨hS, hW.go⟩))
  · exact wpOp_step hp (fun K hK => h2 K (fun b v hS hW => hK b v ⟨hS, hW.go⟩))
theorem AB.done {up : Array Bool} {a : Act} {w : World} (hr : Region.ready md ops up = []) (h : Q .normal a w) (n : Nat) : AB P md ops Q S z n up a w := ⟨AnyBut.done hr h n⟩
theorem wp_region_ab {id : Nat} {a : Act} {w : World} (S : World → Prop) (z n : Nat) (hn : ops.size = n) (hm : P.follows .mixedOrders = true) (h : AB P .any ops Q S z n (Array.replicate n false) a w.drew) : (Code.region id ops true).wp P Q a w := by
  subst hn
  exact wp_region_any hm (AnyBut.any _ _ _ _ h.go)
end
end Go.Proofs.YtinekmjengckdaaGreatDoor

namespace Go.Proofs.YtinekmjengckdaaGreatDoor
open Go.RowKit
set_option maxHeartbeats 4000000
set_option maxRecDepth 100000
theorem idx_sn (l : List Sg) (v : Value) (T : Nat → Prop) (w : World) (g : Nat) (p : Sg → Bool) (hr : RdSc T w v l) (hn : l.length ≤ 1000000) (hcl : ∀ W, Chg (fun _ => False) w W → ∀ x ∈ l, ∀ u, RdN T W u x.type → x.name.size ≤ 9223372036854775807 → Calls Tryz.prog 120 #[.agg #[.string x.name, u], .pointer (some ⟨g, 0, none⟩)] W fun e w' => e = .returned (.bool (p x)) ∧ Chg (fun _ => False) W w') :
    Calls Tryz.prog 122 #[v, .func (.func 120) #[] #[.pointer (some ⟨g, 0, none⟩)]] w fun e w' => e = .returned (.int .i64 (idxP p l)) ∧ Chg (fun _ => False) w w' := by
  obtain ⟨A, c, rfl⟩ := RdR.val hr
  have HR := hH hr
  have HCL := hH hcl
  have HNO := hH (idxP_none (p := p) (l := l))
  have HHE := hH (fun k x => idxP_here (p := p) (l := l) (k := k) (x := x))
  generalize idxP p l = R at *
  clear hr hcl
  go_enter Tryz.func122, Tryz.ntmps122
  go_wp2_with fail
  go_loopw [8] (fun i wr => ∃ k : Nat, i = .int .i64 (k : Int) ∧ k ≤ l.length ∧ (∀ j y, j < k → l[j]? = some y → p y = false) ∧ Chg (fun _ => False) w wr) (fun i _ => l.length - (intOf i).toNat)
  case atStart => exact ⟨0, rfl, Nat.zero_le _, fun j y h => absurd h (Nat.not_lt_zero _), Chg.refl _ _⟩
  case round =>
    obtain ⟨wq, rfl⟩ : ∃ wq : World, wq = wr := ⟨_, rfl⟩
    obtain ⟨k, rfl, hk, hall, hch⟩ := hrel
    by_cases hlt : k < l.length
    · have hki : (k : Int) < (l.length : Int) := by omega
      have hx : l[k]? = some l[k] := List.getElem?_eq_getElem hlt
      obtain ⟨b, o, c2, u, hv, _, hru, hxs, hcap, c0, c1⟩ := RdSc.at_ (RdSc.chg (uH HR) hch (fun _ _ _ => id)) hx
      injection hv with hv1 hv2 hv3
      subst hv1 hv3
      have hcx := (uH HCL) wq hch l[k] (List.getElem_mem hlt) u hru hxs
      generalize l[k] = x at *
      have HALL := hH hall
      have HX := hH hx
      have HCH := hH hch
      obtain ⟨B7, c7, rfl⟩ := hru.val
      cases hp : p x
      · rw [hp] at hcx
        have HC := hH hcx
        have HP := hH hp
        clear hcx hall hx hch hp
        go_wp2_with (go_at_call 120; refine (uH HC).mono ?_; rintro e w2 ⟨rfl, hc2⟩; have HC2 := hH hc2; clear hc2)
        go_roundw
        case rel =>
          exact ⟨k + 1, by go_num, by omega, fun j y hj hy => by
            rcases Nat.lt_or_ge j k with h | h
            · exact (uH HALL) j y h hy
            · obtain rfl : j = k := by omega
              have := (uH HX).symm.trans hy
              injection this with this
              rw [← this]
              exact uH HP, (uH HCH).trans' (uH HC2)⟩
        case measure => simp [intOf]; omega
      · rw [hp] at hcx
        have HC := hH hcx
        have HF := hH ((uH HHE) k x hx hp hall)
        clear hcx hall hx hch hp
        go_wp2_with (go_at_call 120; refine (uH HC).mono ?_; rintro e w2 ⟨rfl, hc2⟩; have HC2 := hH hc2; clear hc2)
        go_ret
        exact ⟨retv (intv (uH HF).symm), (uH HCH).trans' (uH HC2)⟩
    · obtain rfl : k = l.length := by omega
      have hki : ¬ (l.length : Int) < (l.length : Int) := by omega
      have HF := hH ((uH HNO) (fun j y hy => hall j y (List.getElem?_eq_some_iff.1 hy).1 hy))
      have HCH := hH hch
      clear hall hch
      go_wp2_with fail
      go_ret
      exact ⟨retv (intv (uH HF).symm), uH HCH⟩
theorem has_sn (l : List Sg) (v : Value) (T : Nat → Prop) (w : World) (g : Nat) (p : Sg → Bool) (hr : RdSc T w v l) (hn : l.length ≤ 1000000) (hcl : ∀ W, Chg (fun _ => False) w W → ∀ x ∈ l, ∀ u, RdN T W u x.type → x.name.size ≤ 9223372036854775807 → Calls Tryz.prog 120 #[.agg #[.string x.name, u], .pointer (some ⟨g, 0, none⟩)] W fun e w' => e = .returned (.bool (p x)) ∧ Chg (fun _ => False) W w') :
    Calls Tryz.prog 52 #[v, .func (.func 120) #[] #[.pointer (some ⟨g, 0, none⟩)]] w fun e w' => e = .returned (.bool (l.any p)) ∧ Chg (fun _ => False) w w' := by
  have HI := hH (idx_sn l v T w g p hr hn hcl)
  have ha := idxP_any p l
  obtain ⟨A, c, rfl⟩ := RdR.val hr
  generalize idxP p l = R at *
  generalize l.any p = B at *
  clear hr hcl
  have HA := hH ha
  clear ha
  go_enter Tryz.func52, Tryz.ntmps52
  go_wp2_with (go_at_call 122; refine (uH HI).mono ?_; rintro e w2 ⟨rfl, hc2⟩; have HC2 := hH hc2; clear hc2)
  go_ret
  exact ⟨retv (boolv (uH HA)), uH HC2⟩
theorem RdSc.take {T : Nat → Prop} {w : World} {A : Option Addr} {n c : Nat} {l : List Sg} (h : RdSc T w (.slice A n c) l) (k c' : Nat) (hk : k ≤ l.length) : RdSc T w (.slice A k c') (l.take k) := by
  obtain ⟨A', c2, ps, e, h2, h3, h4, h5⟩ := h
  injection e with e1 e2 e3
  subst e1
  refine ⟨A, c', ps.take k, by rw [List.length_take, Nat.min_eq_left hk], by rw [List.map_take, h2], ?_, fun p hp => h4 p (List.mem_of_mem_take hp), by rw [List.length_take]; omega⟩
  have : (ps.take k).flatMap (fun p => [Value.string p.1.name, p.2]) = (ps.flatMap fun p => [Value.string p.1.name, p.2]).take (k * 2) := by
    clear h2 h3 h4 h5 hk
    induction ps generalizing k with
    | nil => simp
    | cons p ps ih =>
      cases k with
      | zero => simp
      | succ k =>
        rw [List.take_succ_cons, List.flatMap_cons, List.flatMap_cons, ih k, show (k + 1) * 2 = k * 2 + 1 + 1 by omega]
        rfl
  rw [this]
  exact h3.take _
theorem sgSame_any (x : Sg) (u : Value) (nm : ByteArray) (g : Nat) (T : Nat → Prop) (w : World) (hru : RdN T w u x.type) (hg : w.cell? ⟨g, 0, none⟩ = some (.string nm)) :
    Calls Tryz.prog 120 #[.agg #[.string x.name, u], .pointer (some ⟨g, 0, none⟩)] w fun e w' => e = .returned (.bool (decide (x.name = nm))) ∧ Chg (fun _ => False) w w' := by
  obtain ⟨B7, c7, rfl⟩ := hru.val
  have h0 := (Chg.refl (fun _ => False) w).alloc (.cells #[.string x.name, .slice B7 x.type.length c7] 56)
  have q0 := (h0.cell (World.block_lt_of_cell? w _ hg) id).trans hg
  have hd : decide (x.name = nm) = (x.name.toList == nm.toList) := by
    rw [Bool.eq_iff_iff, decide_eq_true_eq, beq_iff_eq]
    exact ⟨fun h => by rw [h], bytes_eq⟩
  have H0 := hH h0
  have HD := hH hd
  clear h0 hd hg hru
  generalize hxo : x.name = xo at *
  go_enter Tryz.func120, Tryz.ntmps120
  go_wp2_with fail
  go_ret
  exact ⟨retv (boolv (uH HD).symm), uH H0⟩
theorem parts_ne : ∀ (f : Nat) (t : List Nd), t.length ≤ f → t ≠ [] → eat t 1 = some t.length → t.all nodeB = true → (partsG f t).2 ≠ []
  | 0, t, h, hne, _, _ => by
    cases t with
    | nil => exact absurd rfl hne
    | cons n l => simp at h
  | f + 1, t, h, hne, he, ha => by
    cases t with
    | nil => exact absurd rfl hne
    | cons n l =>
      rw [List.all_cons, Bool.and_eq_true] at ha
      unfold partsG
      dsimp only
      split
      · rename_i ht
        obtain ⟨a, h1, h2, h3, _, h5⟩ := arrow_split he (node_arrow ha.1 ht).2.2
        rw [h1]
        dsimp only
        refine parts_ne f (l.drop a) (by rw [List.length_drop]; simp only [List.length_cons] at h; omega) (fun e => ?_) h5 ?_
        · have := congrArg List.length e
          rw [List.length_drop, List.length_nil] at this
          omega
        · exact List.all_eq_true.2 fun x hx => List.all_eq_true.1 ha.2 x (List.mem_of_mem_drop hx)
      · exact hne
theorem head_at {t : List Nd} (h : typB t = true) : ∃ n r, (partsL t).2 = n :: r ∧ headText (partsL t).2 = n.text := by
  obtain ⟨_, hw, hn⟩ := typ_ok h
  have h1 := whole_iff.1 hw
  have h2 := parts_ne t.length t (Nat.le_refl _) h1.1 h1.2 hn
  cases e : (partsL t).2 with
  | nil => exact absurd e h2
  | cons n r => exact ⟨n, r, rfl, rfl⟩
def sgGood (l : List Sg) (k : Nat) (x : Sg) : Prop := sgB x = true ∧ ((l.take k).any fun y => decide (y.name = x.name)) = false
theorem env_bad {l : List Sg} {k : Nat} {x : Sg} (hx : l[k]? = some x) (h : ¬ sgGood l k x) : envB l = false := by
  rw [← Bool.not_eq_true]
  intro he
  unfold envB at he
  rw [Bool.and_eq_true, decide_eq_true_eq] at he
  refine h ⟨List.all_eq_true.1 he.1 x (List.mem_of_getElem? hx), ?_⟩
  rw [← Bool.not_eq_true]
  intro hd
  obtain ⟨y, hy, e⟩ := List.any_eq_true.1 hd
  obtain ⟨j, hj⟩ := List.mem_iff_getElem?.1 hy
  have hjl := (List.getElem?_eq_some_iff.1 hj).1
  rw [List.length_take] at hjl
  rw [List.getElem?_take_of_lt (by omega)] at hj
  exact (nodup_iff_first _).1 he.2 k x.name (by rw [List.getElem?_map, hx]; rfl) j (by omega) (by rw [List.getElem?_map, hj]; simpa using e)
theorem env_good {l : List Sg} (h : ∀ k x, l[k]? = some x → sgGood l k x) : envB l = true := by
  unfold envB
  rw [Bool.and_eq_true, decide_eq_true_eq]
  refine ⟨List.all_eq_true.2 fun x hx => ?_, (nodup_iff_first _).2 fun i nm hi j hj hjn => ?_⟩
  · obtain ⟨k, hk⟩ := List.mem_iff_getElem?.1 hx
    exact (h k x hk).1
  · rw [List.getElem?_map, Option.map_eq_some_iff] at hi hjn
    obtain ⟨x, hx, rfl⟩ := hi
    obtain ⟨y, hy, e⟩ := hjn
    have := List.any_eq_false.1 (h i x hx).2 y (List.mem_iff_getElem?.2 ⟨j, by rw [List.getElem?_take_of_lt hj]; exact hy⟩)
    exact this (by simpa using e)
def envE (l : List Sg) : Int := if envB l then 0 else 110
theorem env_any (l : List Sg) (v : Value) (T : Nat → Prop) (w : World) (hr : RdSc T w v l) (hcp : capOk v) (hn : l.length ≤ 1000000) (lay : Lay w) :
    Calls Tryz.prog 51 #[v] w fun e w' => e = .returned (.int .i64 (envE l)) ∧ Chg (fun _ => False) w w' := by
  obtain ⟨A, c, rfl⟩ := RdR.val hr
  have hlc : l.length ≤ c := by
    obtain ⟨_, _, _, e, h, _⟩ := hcp
    injection e with _ e2 e3
    omega
  have HBAD := hH (fun k x (hx : l[k]? = some x) (h : ¬ sgGood l k x) => show envE l = 110 from by unfold envE; rw [env_bad hx h]; rfl)
  have HGOOD := hH (fun (h : ∀ k x, l[k]? = some x → sgGood l k x) => show envE l = 0 from by unfold envE; rw [env_good h]; rfl)
  generalize envE l = E at *
  have HR := hH hr
  have HLAY := hH lay
  clear hr lay hcp
  go_enter Tryz.func51, Tryz.ntmps51
  go_wp2_with fail
  go_loopw [10] (fun i wr => ∃ k : Nat, i = .int .i64 (k : Int) ∧ k ≤ l.length ∧ (∀ j y, j < k → l[j]? = some y → sgGood l j y) ∧ Chg (fun _ => False) w wr) (fun i _ => l.length - (intOf i).toNat)
  case atStart => exact ⟨0, rfl, Nat.zero_le _, fun j y h => absurd h (Nat.not_lt_zero _), Chg.refl _ _⟩
  case round =>
    obtain ⟨wq, rfl⟩ : ∃ wq : World, wq = wr := ⟨_, rfl⟩
    obtain ⟨k, rfl, hk, hall, hch⟩ := hrel
    by_cases hlt : k < l.length
    · have hki : (k : Int) < (l.length : Int) := by omega
      have hx : l[k]? = some l[k] := List.getElem?_eq_getElem hlt
      generalize l[k] = x at *
      have hrq := RdSc.chg (uH HR) hch (fun _ _ _ => id)
      obtain ⟨b, o, c3, u, hv, _, hru, hxs, hcap1, d0, d1⟩ := RdSc.at_ hrq hx
      injection hv with hv1 hv2 hv3
      subst hv1 hv3
      obtain ⟨B7, c7, rfl⟩ := hru.val
      have hbx := Blk.new wq 56 #[.string x.name, .slice B7 x.type.length c7]
      have KSW := hH (fun W (hW : Chg (fun _ => False) (wq.alloc (.cells #[.string x.name, .slice B7 x.type.length c7] 56)) W) => show W.cell? ⟨wq.heap.size, 0, none⟩ = some (.string x.name) ∧ W.cell? ⟨wq.heap.size, 1, none⟩ = some (.slice B7 x.type.length c7) from ⟨(hbx.chg hW id).cell 0, (hbx.chg hW id).cell 1⟩)
      have cx := (Chg.refl (fun _ => False) wq).alloc (.cells #[.string x.name, .slice B7 x.type.length c7] 56)
      have hly : ∀ W, Chg (fun _ => False) (wq.alloc (.cells #[.string x.name, .slice B7 x.type.length c7] 56)) W → Lay W := fun W hW => (uH HLAY).chg (hch.trans' (cx.trans' hW)) (fun _ _ => id)
      have HNA := hH (fun W (hW : Chg (fun _ => False) (wq.alloc (.cells #[.string x.name, .slice B7 x.type.length c7] 56)) W) => name_any x.name W hxs (hly W hW))
      have HCO := hH (fun W (hW : Chg (fun _ => False) (wq.alloc (.cells #[.string x.name, .slice B7 x.type.length c7] 56)) W) => con_any x.name W hxs (hly W hW))
      have HTY := hH (fun W (hW : Chg (fun _ => False) (wq.alloc (.cells #[.string x.name, .slice B7 x.type.length c7] 56)) W) => check_any x.type _ T W ((hru.chg cx (fun _ _ _ => id)).chg hW (fun _ _ _ => id)) (hly W hW))
      have HDU := hH (fun W (hW : Chg (fun _ => False) (wq.alloc (.cells #[.string x.name, .slice B7 x.type.length c7] 56)) W) => has_sn (l.take k) (.slice (some ⟨b, o, none⟩) k c) T W wq.heap.size (fun y => decide (y.name = x.name)) (RdSc.take (RdSc.chg (RdSc.chg hrq cx (fun _ _ _ => id)) hW (fun _ _ _ => id)) k c (by omega)) (by rw [List.length_take]; omega) (fun W2 hW2 y _ u hu _ => sgSame_any y u x.name wq.heap.size T W2 hu (uH KSW W2 (hW.trans' hW2)).1))
      have HPA := hH (fun W (hW : Chg (fun _ => False) (wq.alloc (.cells #[.string x.name, .slice B7 x.type.length c7] 56)) W) => parts_any x.type _ T W ((hru.chg cx (fun _ _ _ => id)).chg hW (fun _ _ _ => id)) hcap1 (hly W hW))
      have HCON := hH (fun W (s : ByteArray) (hs : s.size ≤ 9223372036854775807) (hW : Chg (fun _ => False) (wq.alloc (.cells #[.string x.name, .slice B7 x.type.length c7] 56)) W) => con_any s W hs (hly W hW))
      have HCH0 := hH hch
      have HALL := hH hall
      have HX := hH hx
      have HD := hH (Chg.refl (fun _ => False) (wq.alloc (.cells #[.string x.name, .slice B7 x.type.length c7] 56)))
      obtain ⟨q0, q1⟩ := uH KSW _ (uH HD)
      have hkc : (k : Int) ≤ (c : Int) := by omega
      have hkl2 : (k : Int) ≤ (l.length : Int) := by omega
      have hnd : nameB 1 x.name = nameB 1 x.name := rfl
      clear hch hall hv2 hrq hbx hru cx hly hcap1
      have hG : sgGood l k x ↔ ((nameB 1 x.name || opB x.name || nameB 2 x.name) && typB x.type && (!nameB 2 x.name || nameB 2 (headText (partsL x.type).2))) = true ∧ ((l.take k).any fun y => decide (y.name = x.name)) = false := Iff.rfl
      have hB := uH HBAD k x hx
      rw [hG] at hB
      have hN : (((nameB 1 x.name || opB x.name || nameB 2 x.name) && typB x.type && (!nameB 2 x.name || nameB 2 (headText (partsL x.type).2))) = true ∧ ((l.take k).any fun y => decide (y.name = x.name)) = false) → sgGood l k x := hG.2
      clear hx hG hnd
      have HPL := hH (fun (h : typB x.type = true) => head_at h)
      have htE : typE x.type = if typB x.type then 0 else 90 := rfl
      have hPR : typB x.type = true → partsR x.type = partsL x.type := fun h => by unfold partsR; rw [h]; rfl
      cases hty : typB x.type
      · -- no type
        have hb := hB (by rw [hty]; simp)
        rw [htE, hty] at HTY
        have HB := hH hb
        clear hb hB hN htE hPR hty HPL HPA HCON HDU
        generalize (nameB 1 x.name || opB x.name) = na at *
        generalize nameB 2 x.name = co at *
        cases na <;> cases co
        all_goals
              go_wp2_with (first
              | (go_at_call 47; (with_reducible refine (uH HNA _ (uH HD)).mono ?_); rintro e w2 ⟨rfl, hc2⟩; have HN_ := hH ((uH HD).trans' hc2); clear HD; have HD := HN_; clear HN_; (obtain ⟨q0, q1⟩ := uH KSW _ (uH HD)); clear hc2)
              | (go_at_call 95; (with_reducible refine (uH HCO _ (uH HD)).mono ?_); rintro e w2 ⟨rfl, hc2⟩; have HN_ := hH ((uH HD).trans' hc2); clear HD; have HD := HN_; clear HN_; (obtain ⟨q0, q1⟩ := uH KSW _ (uH HD)); clear hc2)
              | (go_at_call 98; (with_reducible refine (uH HTY _ (uH HD)).mono ?_); rintro e w2 ⟨rfl, hc2⟩; have HN_ := hH ((uH HD).trans' hc2); clear HD; have HD := HN_; clear HN_; (obtain ⟨q0, q1⟩ := uH KSW _ (uH HD)); clear hc2)
              | (go_at_call 52; (with_reducible refine (uH HDU _ (uH HD)).mono ?_); rintro e w2 ⟨rfl, hc2⟩; have HN_ := hH ((uH HD).trans' hc2); clear HD; have HD := HN_; clear HN_; (obtain ⟨q0, q1⟩ := uH KSW _ (uH HD)); clear hc2))
              go_ret
              exact ⟨retv (intv (uH HB).symm), ((uH HCH0).trans' ((Chg.refl (fun _ => False) wq).alloc _)).trans' (uH HD)⟩
      · rw [htE, hty] at HTY
        obtain ⟨n0, r0, hp2, hht⟩ := (uH HPL) hty
        rw [hPR hty, hp2] at HPA
        rw [hty, hht] at hB hN
        have HTO := hH (show (n0 :: r0)[0]? = some n0 from rfl)
        have hnok := (uH HPL)
        clear htE hPR hty HPL hp2 hht hnok
        cases hdu : (l.take k).any fun y => decide (y.name = x.name)
        · rw [hdu] at HDU hB hN
          clear hdu
          cases hna : (nameB 1 x.name || opB x.name)
          · cases hco : nameB 2 x.name
            · cases hch : nameB 2 n0.text
              · rw [hna] at HNA
                rw [hco] at HCO
                rw [hna, hco, hch] at hB hN
                have HCX := hH (fun (hok : n0.text.size ≤ 9223372036854775807) W (hW : Chg (fun _ => False) (wq.alloc (.cells #[.string x.name, .slice B7 x.type.length c7] 56)) W) => show Calls Tryz.prog 95 #[.string n0.text] W fun e w' => e = .returned (.bool false) ∧ Chg (fun _ => False) W w' from by
                  have h := uH HCON W n0.text hok hW
                  rw [hch] at h
                  exact h)
                have HB := hH (hB (by simp))
                clear hB hN hna hco hch
                go_wp2_with (first
                | (go_at_call 121; (with_reducible refine (uH HPA _ (uH HD)).mono ?_); rintro e w2 ⟨v1, v2, rfl, h1, h2, hc2⟩; (obtain ⟨P1, p1, rfl⟩ := RdR.val h1); (obtain ⟨bt, ot, ct, hv9, _, hok9, _, t1, _, _⟩ := RdN.at_ h2 (k := 0) (uH HTO)); (obtain rfl := hv9); have HCH := hH (uH HCX hok9); clear hok9; rw [Nat.zero_mul, Nat.add_zero] at t1; have T1 := hH t1; have HN_ := hH ((uH HD).trans' hc2); clear HD; have HD := HN_; clear HN_; (obtain ⟨q0, q1⟩ := uH KSW _ (uH HD)); clear hc2; clear h1 h2)
                | (go_at_call 95; (with_reducible refine (uH HCH _ (uH HD)).mono ?_); rintro e w4 ⟨rfl, hc2⟩; have HN_ := hH ((uH HD).trans' hc2); clear HD; have HD := HN_; clear HN_; (obtain ⟨q0, q1⟩ := uH KSW _ (uH HD)); clear hc2)
                | (go_at_call 95; (have T2 := T1); (with_reducible refine (uH HCO _ (uH HD)).mono ?_); rintro e w3 ⟨rfl, hc2⟩; have t2 := (hc2.cell (World.block_lt_of_cell? _ _ (uH T1)) id).trans (uH T1); clear T2; have HN_ := hH ((uH HD).trans' hc2); clear HD; have HD := HN_; clear HN_; (obtain ⟨q0, q1⟩ := uH KSW _ (uH HD)); clear hc2)
                | (go_at_call 95; (with_reducible refine (uH HCO _ (uH HD)).mono ?_); rintro e w3 ⟨rfl, hc2⟩; have HN_ := hH ((uH HD).trans' hc2); clear HD; have HD := HN_; clear HN_; (obtain ⟨q0, q1⟩ := uH KSW _ (uH HD)); clear hc2)
                | (go_at_call 47; (with_reducible refine (uH HNA _ (uH HD)).mono ?_); rintro e w2 ⟨rfl, hc2⟩; have HN_ := hH ((uH HD).trans' hc2); clear HD; have HD := HN_; clear HN_; (obtain ⟨q0, q1⟩ := uH KSW _ (uH HD)); clear hc2)
                | (go_at_call 98; (with_reducible refine (uH HTY _ (uH HD)).mono ?_); rintro e w2 ⟨rfl, hc2⟩; have HN_ := hH ((uH HD).trans' hc2); clear HD; have HD := HN_; clear HN_; (obtain ⟨q0, q1⟩ := uH KSW _ (uH HD)); clear hc2)
                | (go_at_call 52; (with_reducible refine (uH HDU _ (uH HD)).mono ?_); rintro e w2 ⟨rfl, hc2⟩; have HN_ := hH ((uH HD).trans' hc2); clear HD; have HD := HN_; clear HN_; (obtain ⟨q0, q1⟩ := uH KSW _ (uH HD)); clear hc2))
                go_ret
                exact ⟨retv (intv (uH HB).symm), ((uH HCH0).trans' ((Chg.refl (fun _ => False) wq).alloc _)).trans' (uH HD)⟩
              · rw [hna] at HNA
                rw [hco] at HCO
                rw [hna, hco, hch] at hB hN
                have HCX := hH (fun (hok : n0.text.size ≤ 9223372036854775807) W (hW : Chg (fun _ => False) (wq.alloc (.cells #[.string x.name, .slice B7 x.type.length c7] 56)) W) => show Calls Tryz.prog 95 #[.string n0.text] W fun e w' => e = .returned (.bool true) ∧ Chg (fun _ => False) W w' from by
                  have h := uH HCON W n0.text hok hW
                  rw [hch] at h
                  exact h)
                have HB := hH (hB (by simp))
                clear hB hN hna hco hch
                go_wp2_with (first
                | (go_at_call 121; (with_reducible refine (uH HPA _ (uH HD)).mono ?_); rintro e w2 ⟨v1, v2, rfl, h1, h2, hc2⟩; (obtain ⟨P1, p1, rfl⟩ := RdR.val h1); (obtain ⟨bt, ot, ct, hv9, _, hok9, _, t1, _, _⟩ := RdN.at_ h2 (k := 0) (uH HTO)); (obtain rfl := hv9); have HCH := hH (uH HCX hok9); clear hok9; rw [Nat.zero_mul, Nat.add_zero] at t1; have T1 := hH t1; have HN_ := hH ((uH HD).trans' hc2); clear HD; have HD := HN_; clear HN_; (obtain ⟨q0, q1⟩ := uH KSW _ (uH HD)); clear hc2; clear h1 h2)
                | (go_at_call 95; (with_reducible refine (uH HCH _ (uH HD)).mono ?_); rintro e w4 ⟨rfl, hc2⟩; have HN_ := hH ((uH HD).trans' hc2); clear HD; have HD := HN_; clear HN_; (obtain ⟨q0, q1⟩ := uH KSW _ (uH HD)); clear hc2)
                | (go_at_call 95; (have T2 := T1); (with_reducible refine (uH HCO _ (uH HD)).mono ?_); rintro e w3 ⟨rfl, hc2⟩; have t2 := (hc2.cell (World.block_lt_of_cell? _ _ (uH T1)) id).trans (uH T1); clear T2; have HN_ := hH ((uH HD).trans' hc2); clear HD; have HD := HN_; clear HN_; (obtain ⟨q0, q1⟩ := uH KSW _ (uH HD)); clear hc2)
                | (go_at_call 95; (with_reducible refine (uH HCO _ (uH HD)).mono ?_); rintro e w3 ⟨rfl, hc2⟩; have HN_ := hH ((uH HD).trans' hc2); clear HD; have HD := HN_; clear HN_; (obtain ⟨q0, q1⟩ := uH KSW _ (uH HD)); clear hc2)
                | (go_at_call 47; (with_reducible refine (uH HNA _ (uH HD)).mono ?_); rintro e w2 ⟨rfl, hc2⟩; have HN_ := hH ((uH HD).trans' hc2); clear HD; have HD := HN_; clear HN_; (obtain ⟨q0, q1⟩ := uH KSW _ (uH HD)); clear hc2)
                | (go_at_call 98; (with_reducible refine (uH HTY _ (uH HD)).mono ?_); rintro e w2 ⟨rfl, hc2⟩; have HN_ := hH ((uH HD).trans' hc2); clear HD; have HD := HN_; clear HN_; (obtain ⟨q0, q1⟩ := uH KSW _ (uH HD)); clear hc2)
                | (go_at_call 52; (with_reducible refine (uH HDU _ (uH HD)).mono ?_); rintro e w2 ⟨rfl, hc2⟩; have HN_ := hH ((uH HD).trans' hc2); clear HD; have HD := HN_; clear HN_; (obtain ⟨q0, q1⟩ := uH KSW _ (uH HD)); clear hc2))
                go_ret
                exact ⟨retv (intv (uH HB).symm), ((uH HCH0).trans' ((Chg.refl (fun _ => False) wq).alloc _)).trans' (uH HD)⟩
            · cases hch : nameB 2 n0.text
              · rw [hna] at HNA
                rw [hco] at HCO
                rw [hna, hco, hch] at hB hN
                have HCX := hH (fun (hok : n0.text.size ≤ 9223372036854775807) W (hW : Chg (fun _ => False) (wq.alloc (.cells #[.string x.name, .slice B7 x.type.length c7] 56)) W) => show Calls Tryz.prog 95 #[.string n0.text] W fun e w' => e = .returned (.bool false) ∧ Chg (fun _ => False) W w' from by
                  have h := uH HCON W n0.text hok hW
                  rw [hch] at h
                  exact h)
                have HB := hH (hB (by simp))
                clear hB hN hna hco hch
                go_wp2_with (first
                | (go_at_call 121; (with_reducible refine (uH HPA _ (uH HD)).mono ?_); rintro e w2 ⟨v1, v2, rfl, h1, h2, hc2⟩; (obtain ⟨P1, p1, rfl⟩ := RdR.val h1); (obtain ⟨bt, ot, ct, hv9, _, hok9, _, t1, _, _⟩ := RdN.at_ h2 (k := 0) (uH HTO)); (obtain rfl := hv9); have HCH := hH (uH HCX hok9); clear hok9; rw [Nat.zero_mul, Nat.add_zero] at t1; have T1 := hH t1; have HN_ := hH ((uH HD).trans' hc2); clear HD; have HD := HN_; clear HN_; (obtain ⟨q0, q1⟩ := uH KSW _ (uH HD)); clear hc2; clear h1 h2)
                | (go_at_call 95; (with_reducible refine (uH HCH _ (uH HD)).mono ?_); rintro e w4 ⟨rfl, hc2⟩; have HN_ := hH ((uH HD).trans' hc2); clear HD; have HD := HN_; clear HN_; (obtain ⟨q0, q1⟩ := uH KSW _ (uH HD)); clear hc2)
                | (go_at_call 95; (have T2 := T1); (with_reducible refine (uH HCO _ (uH HD)).mono ?_); rintro e w3 ⟨rfl, hc2⟩; have t2 := (hc2.cell (World.block_lt_of_cell? _ _ (uH T1)) id).trans (uH T1); clear T2; have HN_ := hH ((uH HD).trans' hc2); clear HD; have HD := HN_; clear HN_; (obtain ⟨q0, q1⟩ := uH KSW _ (uH HD)); clear hc2)
                | (go_at_call 95; (with_reducible refine (uH HCO _ (uH HD)).mono ?_); rintro e w3 ⟨rfl, hc2⟩; have HN_ := hH ((uH HD).trans' hc2); clear HD; have HD := HN_; clear HN_; (obtain ⟨q0, q1⟩ := uH KSW _ (uH HD)); clear hc2)
                | (go_at_call 47; (with_reducible refine (uH HNA _ (uH HD)).mono ?_); rintro e w2 ⟨rfl, hc2⟩; have HN_ := hH ((uH HD).trans' hc2); clear HD; have HD := HN_; clear HN_; (obtain ⟨q0, q1⟩ := uH KSW _ (uH HD)); clear hc2)
                | (go_at_call 98; (with_reducible refine (uH HTY _ (uH HD)).mono ?_); rintro e w2 ⟨rfl, hc2⟩; have HN_ := hH ((uH HD).trans' hc2); clear HD; have HD := HN_; clear HN_; (obtain ⟨q0, q1⟩ := uH KSW _ (uH HD)); clear hc2)
                | (go_at_call 52; (with_reducible refine (uH HDU _ (uH HD)).mono ?_); rintro e w2 ⟨rfl, hc2⟩; have HN_ := hH ((uH HD).trans' hc2); clear HD; have HD := HN_; clear HN_; (obtain ⟨q0, q1⟩ := uH KSW _ (uH HD)); clear hc2))
                go_ret
                exact ⟨retv (intv (uH HB).symm), ((uH HCH0).trans' ((Chg.refl (fun _ => False) wq).alloc _)).trans' (uH HD)⟩
              · rw [hna] at HNA
                rw [hco] at HCO
                rw [hna, hco, hch] at hB hN
                have HCX := hH (fun (hok : n0.text.size ≤ 9223372036854775807) W (hW : Chg (fun _ => False) (wq.alloc (.cells #[.string x.name, .slice B7 x.type.length c7] 56)) W) => show Calls Tryz.prog 95 #[.string n0.text] W fun e w' => e = .returned (.bool true) ∧ Chg (fun _ => False) W w' from by
                  have h := uH HCON W n0.text hok hW
                  rw [hch] at h
                  exact h)
                have HG := hH (hN (by simp))
                clear hB hN hna hco hch
                go_wp2_with (first
                | (go_at_call 121; (with_reducible refine (uH HPA _ (uH HD)).mono ?_); rintro e w2 ⟨v1, v2, rfl, h1, h2, hc2⟩; (obtain ⟨P1, p1, rfl⟩ := RdR.val h1); (obtain ⟨bt, ot, ct, hv9, _, hok9, _, t1, _, _⟩ := RdN.at_ h2 (k := 0) (uH HTO)); (obtain rfl := hv9); have HCH := hH (uH HCX hok9); clear hok9; rw [Nat.zero_mul, Nat.add_zero] at t1; have T1 := hH t1; have HN_ := hH ((uH HD).trans' hc2); clear HD; have HD := HN_; clear HN_; (obtain ⟨q0, q1⟩ := uH KSW _ (uH HD)); clear hc2; clear h1 h2)
                | (go_at_call 95; (with_reducible refine (uH HCH _ (uH HD)).mono ?_); rintro e w4 ⟨rfl, hc2⟩; have HN_ := hH ((uH HD).trans' hc2); clear HD; have HD := HN_; clear HN_; (obtain ⟨q0, q1⟩ := uH KSW _ (uH HD)); clear hc2)
                | (go_at_call 95; (have T2 := T1); (with_reducible refine (uH HCO _ (uH HD)).mono ?_); rintro e w3 ⟨rfl, hc2⟩; have t2 := (hc2.cell (World.block_lt_of_cell? _ _ (uH T1)) id).trans (uH T1); clear T2; have HN_ := hH ((uH HD).trans' hc2); clear HD; have HD := HN_; clear HN_; (obtain ⟨q0, q1⟩ := uH KSW _ (uH HD)); clear hc2)
                | (go_at_call 95; (with_reducible refine (uH HCO _ (uH HD)).mono ?_); rintro e w3 ⟨rfl, hc2⟩; have HN_ := hH ((uH HD).trans' hc2); clear HD; have HD := HN_; clear HN_; (obtain ⟨q0, q1⟩ := uH KSW _ (uH HD)); clear hc2)
                | (go_at_call 47; (with_reducible refine (uH HNA _ (uH HD)).mono ?_); rintro e w2 ⟨rfl, hc2⟩; have HN_ := hH ((uH HD).trans' hc2); clear HD; have HD := HN_; clear HN_; (obtain ⟨q0, q1⟩ := uH KSW _ (uH HD)); clear hc2)
                | (go_at_call 98; (with_reducible refine (uH HTY _ (uH HD)).mono ?_); rintro e w2 ⟨rfl, hc2⟩; have HN_ := hH ((uH HD).trans' hc2); clear HD; have HD := HN_; clear HN_; (obtain ⟨q0, q1⟩ := uH KSW _ (uH HD)); clear hc2)
                | (go_at_call 52; (with_reducible refine (uH HDU _ (uH HD)).mono ?_); rintro e w2 ⟨rfl, hc2⟩; have HN_ := hH ((uH HD).trans' hc2); clear HD; have HD := HN_; clear HN_; (obtain ⟨q0, q1⟩ := uH KSW _ (uH HD)); clear hc2))
                go_roundw
                case rel =>
                  exact ⟨k + 1, by go_num, by omega, fun j y hj hy => by
                    rcases Nat.lt_or_ge j k with h | h
                    · exact (uH HALL) j y h hy
                    · obtain rfl : j = k := by omega
                      have := (uH HX).symm.trans hy
                      injection this with this
                      rw [← this]
                      exact uH HG, ((uH HCH0).trans' ((Chg.refl (fun _ => False) wq).alloc _)).trans' (uH HD)⟩
                case measure => simp [intOf]; omega
          · cases hco : nameB 2 x.name
            · cases hch : nameB 2 n0.text
              · rw [hna] at HNA
                rw [hco] at HCO
                rw [hna, hco, hch] at hB hN
                have HCX := hH (fun (hok : n0.text.size ≤ 9223372036854775807) W (hW : Chg (fun _ => False) (wq.alloc (.cells #[.string x.name, .slice B7 x.type.length c7] 56)) W) => show Calls Tryz.prog 95 #[.string n0.text] W fun e w' => e = .returned (.bool false) ∧ Chg (fun _ => False) W w' from by
                  have h := uH HCON W n0.text hok hW
                  rw [hch] at h
                  exact h)
                have HG := hH (hN (by simp))
                clear hB hN hna hco hch
                go_wp2_with (first
                | (go_at_call 121; (with_reducible refine (uH HPA _ (uH HD)).mono ?_); rintro e w2 ⟨v1, v2, rfl, h1, h2, hc2⟩; (obtain ⟨P1, p1, rfl⟩ := RdR.val h1); (obtain ⟨bt, ot, ct, hv9, _, hok9, _, t1, _, _⟩ := RdN.at_ h2 (k := 0) (uH HTO)); (obtain rfl := hv9); have HCH := hH (uH HCX hok9); clear hok9; rw [Nat.zero_mul, Nat.add_zero] at t1; have T1 := hH t1; have HN_ := hH ((uH HD).trans' hc2); clear HD; have HD := HN_; clear HN_; (obtain ⟨q0, q1⟩ := uH KSW _ (uH HD)); clear hc2; clear h1 h2)
                | (go_at_call 95; (with_reducible refine (uH HCH _ (uH HD)).mono ?_); rintro e w4 ⟨rfl, hc2⟩; have HN_ := hH ((uH HD).trans' hc2); clear HD; have HD := HN_; clear HN_; (obtain ⟨q0, q1⟩ := uH KSW _ (uH HD)); clear hc2)
                | (go_at_call 95; (have T2 := T1); (with_reducible refine (uH HCO _ (uH HD)).mono ?_); rintro e w3 ⟨rfl, hc2⟩; have t2 := (hc2.cell (World.block_lt_of_cell? _ _ (uH T1)) id).trans (uH T1); clear T2; have HN_ := hH ((uH HD).trans' hc2); clear HD; have HD := HN_; clear HN_; (obtain ⟨q0, q1⟩ := uH KSW _ (uH HD)); clear hc2)
                | (go_at_call 95; (with_reducible refine (uH HCO _ (uH HD)).mono ?_); rintro e w3 ⟨rfl, hc2⟩; have HN_ := hH ((uH HD).trans' hc2); clear HD; have HD := HN_; clear HN_; (obtain ⟨q0, q1⟩ := uH KSW _ (uH HD)); clear hc2)
                | (go_at_call 47; (with_reducible refine (uH HNA _ (uH HD)).mono ?_); rintro e w2 ⟨rfl, hc2⟩; have HN_ := hH ((uH HD).trans' hc2); clear HD; have HD := HN_; clear HN_; (obtain ⟨q0, q1⟩ := uH KSW _ (uH HD)); clear hc2)
                | (go_at_call 98; (with_reducible refine (uH HTY _ (uH HD)).mono ?_); rintro e w2 ⟨rfl, hc2⟩; have HN_ := hH ((uH HD).trans' hc2); clear HD; have HD := HN_; clear HN_; (obtain ⟨q0, q1⟩ := uH KSW _ (uH HD)); clear hc2)
                | (go_at_call 52; (with_reducible refine (uH HDU _ (uH HD)).mono ?_); rintro e w2 ⟨rfl, hc2⟩; have HN_ := hH ((uH HD).trans' hc2); clear HD; have HD := HN_; clear HN_; (obtain ⟨q0, q1⟩ := uH KSW _ (uH HD)); clear hc2))
                go_roundw
                case rel =>
                  exact ⟨k + 1, by go_num, by omega, fun j y hj hy => by
                    rcases Nat.lt_or_ge j k with h | h
                    · exact (uH HALL) j y h hy
                    · obtain rfl : j = k := by omega
                      have := (uH HX).symm.trans hy
                      injection this with this
                      rw [← this]
                      exact uH HG, ((uH HCH0).trans' ((Chg.refl (fun _ => False) wq).alloc _)).trans' (uH HD)⟩
                case measure => simp [intOf]; omega
              · rw [hna] at HNA
                rw [hco] at HCO
                rw [hna, hco, hch] at hB hN
                have HCX := hH (fun (hok : n0.text.size ≤ 9223372036854775807) W (hW : Chg (fun _ => False) (wq.alloc (.cells #[.string x.name, .slice B7 x.type.length c7] 56)) W) => show Calls Tryz.prog 95 #[.string n0.text] W fun e w' => e = .returned (.bool true) ∧ Chg (fun _ => False) W w' from by
                  have h := uH HCON W n0.text hok hW
                  rw [hch] at h
                  exact h)
                have HG := hH (hN (by simp))
                clear hB hN hna hco hch
                go_wp2_with (first
                | (go_at_call 121; (with_reducible refine (uH HPA _ (uH HD)).mono ?_); rintro e w2 ⟨v1, v2, rfl, h1, h2, hc2⟩; (obtain ⟨P1, p1, rfl⟩ := RdR.val h1); (obtain ⟨bt, ot, ct, hv9, _, hok9, _, t1, _, _⟩ := RdN.at_ h2 (k := 0) (uH HTO)); (obtain rfl := hv9); have HCH := hH (uH HCX hok9); clear hok9; rw [Nat.zero_mul, Nat.add_zero] at t1; have T1 := hH t1; have HN_ := hH ((uH HD).trans' hc2); clear HD; have HD := HN_; clear HN_; (obtain ⟨q0, q1⟩ := uH KSW _ (uH HD)); clear hc2; clear h1 h2)
                | (go_at_call 95; (with_reducible refine (uH HCH _ (uH HD)).mono ?_); rintro e w4 ⟨rfl, hc2⟩; have HN_ := hH ((uH HD).trans' hc2); clear HD; have HD := HN_; clear HN_; (obtain ⟨q0, q1⟩ := uH KSW _ (uH HD)); clear hc2)
                | (go_at_call 95; (have T2 := T1); (with_reducible refine (uH HCO _ (uH HD)).mono ?_); rintro e w3 ⟨rfl, hc2⟩; have t2 := (hc2.cell (World.block_lt_of_cell? _ _ (uH T1)) id).trans (uH T1); clear T2; have HN_ := hH ((uH HD).trans' hc2); clear HD; have HD := HN_; clear HN_; (obtain ⟨q0, q1⟩ := uH KSW _ (uH HD)); clear hc2)
                | (go_at_call 95; (with_reducible refine (uH HCO _ (uH HD)).mono ?_); rintro e w3 ⟨rfl, hc2⟩; have HN_ := hH ((uH HD).trans' hc2); clear HD; have HD := HN_; clear HN_; (obtain ⟨q0, q1⟩ := uH KSW _ (uH HD)); clear hc2)
                | (go_at_call 47; (with_reducible refine (uH HNA _ (uH HD)).mono ?_); rintro e w2 ⟨rfl, hc2⟩; have HN_ := hH ((uH HD).trans' hc2); clear HD; have HD := HN_; clear HN_; (obtain ⟨q0, q1⟩ := uH KSW _ (uH HD)); clear hc2)
                | (go_at_call 98; (with_reducible refine (uH HTY _ (uH HD)).mono ?_); rintro e w2 ⟨rfl, hc2⟩; have HN_ := hH ((uH HD).trans' hc2); clear HD; have HD := HN_; clear HN_; (obtain ⟨q0, q1⟩ := uH KSW _ (uH HD)); clear hc2)
                | (go_at_call 52; (with_reducible refine (uH HDU _ (uH HD)).mono ?_); rintro e w2 ⟨rfl, hc2⟩; have HN_ := hH ((uH HD).trans' hc2); clear HD; have HD := HN_; clear HN_; (obtain ⟨q0, q1⟩ := uH KSW _ (uH HD)); clear hc2))
                go_roundw
                case rel =>
                  exact ⟨k + 1, by go_num, by omega, fun j y hj hy => by
                    rcases Nat.lt_or_ge j k with h | h
                    · exact (uH HALL) j y h hy
                    · obtain rfl : j = k := by omega
                      have := (uH HX).symm.trans hy
                      injection this with this
                      rw [← this]
                      exact uH HG, ((uH HCH0).trans' ((Chg.refl (fun _ => False) wq).alloc _)).trans' (uH HD)⟩
                case measure => simp [intOf]; omega
            · cases hch : nameB 2 n0.text
              · rw [hna] at HNA
                rw [hco] at HCO
                rw [hna, hco, hch] at hB hN
                have HCX := hH (fun (hok : n0.text.size ≤ 9223372036854775807) W (hW : Chg (fun _ => False) (wq.alloc (.cells #[.string x.name, .slice B7 x.type.length c7] 56)) W) => show Calls Tryz.prog 95 #[.string n0.text] W fun e w' => e = .returned (.bool false) ∧ Chg (fun _ => False) W w' from by
                  have h := uH HCON W n0.text hok hW
                  rw [hch] at h
                  exact h)
                have HB := hH (hB (by simp))
                clear hB hN hna hco hch
                go_wp2_with (first
                | (go_at_call 121; (with_reducible refine (uH HPA _ (uH HD)).mono ?_); rintro e w2 ⟨v1, v2, rfl, h1, h2, hc2⟩; (obtain ⟨P1, p1, rfl⟩ := RdR.val h1); (obtain ⟨bt, ot, ct, hv9, _, hok9, _, t1, _, _⟩ := RdN.at_ h2 (k := 0) (uH HTO)); (obtain rfl := hv9); have HCH := hH (uH HCX hok9); clear hok9; rw [Nat.zero_mul, Nat.add_zero] at t1; have T1 := hH t1; have HN_ := hH ((uH HD).trans' hc2); clear HD; have HD := HN_; clear HN_; (obtain ⟨q0, q1⟩ := uH KSW _ (uH HD)); clear hc2; clear h1 h2)
                | (go_at_call 95; (with_reducible refine (uH HCH _ (uH HD)).mono ?_); rintro e w4 ⟨rfl, hc2⟩; have HN_ := hH ((uH HD).trans' hc2); clear HD; have HD := HN_; clear HN_; (obtain ⟨q0, q1⟩ := uH KSW _ (uH HD)); clear hc2)
                | (go_at_call 95; (have T2 := T1); (with_reducible refine (uH HCO _ (uH HD)).mono ?_); rintro e w3 ⟨rfl, hc2⟩; have t2 := (hc2.cell (World.block_lt_of_cell? _ _ (uH T1)) id).trans (uH T1); clear T2; have HN_ := hH ((uH HD).trans' hc2); clear HD; have HD := HN_; clear HN_; (obtain ⟨q0, q1⟩ := uH KSW _ (uH HD)); clear hc2)
                | (go_at_call 95; (with_reducible refine (uH HCO _ (uH HD)).mono ?_); rintro e w3 ⟨rfl, hc2⟩; have HN_ := hH ((uH HD).trans' hc2); clear HD; have HD := HN_; clear HN_; (obtain ⟨q0, q1⟩ := uH KSW _ (uH HD)); clear hc2)
                | (go_at_call 47; (with_reducible refine (uH HNA _ (uH HD)).mono ?_); rintro e w2 ⟨rfl, hc2⟩; have HN_ := hH ((uH HD).trans' hc2); clear HD; have HD := HN_; clear HN_; (obtain ⟨q0, q1⟩ := uH KSW _ (uH HD)); clear hc2)
                | (go_at_call 98; (with_reducible refine (uH HTY _ (uH HD)).mono ?_); rintro e w2 ⟨rfl, hc2⟩; have HN_ := hH ((uH HD).trans' hc2); clear HD; have HD := HN_; clear HN_; (obtain ⟨q0, q1⟩ := uH KSW _ (uH HD)); clear hc2)
                | (go_at_call 52; (with_reducible refine (uH HDU _ (uH HD)).mono ?_); rintro e w2 ⟨rfl, hc2⟩; have HN_ := hH ((uH HD).trans' hc2); clear HD; have HD := HN_; clear HN_; (obtain ⟨q0, q1⟩ := uH KSW _ (uH HD)); clear hc2))
                go_ret
                exact ⟨retv (intv (uH HB).symm), ((uH HCH0).trans' ((Chg.refl (fun _ => False) wq).alloc _)).trans' (uH HD)⟩
              · rw [hna] at HNA
                rw [hco] at HCO
                rw [hna, hco, hch] at hB hN
                have HCX := hH (fun (hok : n0.text.size ≤ 9223372036854775807) W (hW : Chg (fun _ => False) (wq.alloc (.cells #[.string x.name, .slice B7 x.type.length c7] 56)) W) => show Calls Tryz.prog 95 #[.string n0.text] W fun e w' => e = .returned (.bool true) ∧ Chg (fun _ => False) W w' from by
                  have h := uH HCON W n0.text hok hW
                  rw [hch] at h
                  exact h)
                have HG := hH (hN (by simp))
                clear hB hN hna hco hch
                go_wp2_with (first
                | (go_at_call 121; (with_reducible refine (uH HPA _ (uH HD)).mono ?_); rintro e w2 ⟨v1, v2, rfl, h1, h2, hc2⟩; (obtain ⟨P1, p1, rfl⟩ := RdR.val h1); (obtain ⟨bt, ot, ct, hv9, _, hok9, _, t1, _, _⟩ := RdN.at_ h2 (k := 0) (uH HTO)); (obtain rfl := hv9); have HCH := hH (uH HCX hok9); clear hok9; rw [Nat.zero_mul, Nat.add_zero] at t1; have T1 := hH t1; have HN_ := hH ((uH HD).trans' hc2); clear HD; have HD := HN_; clear HN_; (obtain ⟨q0, q1⟩ := uH KSW _ (uH HD)); clear hc2; clear h1 h2)
                | (go_at_call 95; (with_reducible refine (uH HCH _ (uH HD)).mono ?_); rintro e w4 ⟨rfl, hc2⟩; have HN_ := hH ((uH HD).trans' hc2); clear HD; have HD := HN_; clear HN_; (obtain ⟨q0, q1⟩ := uH KSW _ (uH HD)); clear hc2)
                | (go_at_call 95; (have T2 := T1); (with_reducible refine (uH HCO _ (uH HD)).mono ?_); rintro e w3 ⟨rfl, hc2⟩; have t2 := (hc2.cell (World.block_lt_of_cell? _ _ (uH T1)) id).trans (uH T1); clear T2; have HN_ := hH ((uH HD).trans' hc2); clear HD; have HD := HN_; clear HN_; (obtain ⟨q0, q1⟩ := uH KSW _ (uH HD)); clear hc2)
                | (go_at_call 95; (with_reducible refine (uH HCO _ (uH HD)).mono ?_); rintro e w3 ⟨rfl, hc2⟩; have HN_ := hH ((uH HD).trans' hc2); clear HD; have HD := HN_; clear HN_; (obtain ⟨q0, q1⟩ := uH KSW _ (uH HD)); clear hc2)
                | (go_at_call 47; (with_reducible refine (uH HNA _ (uH HD)).mono ?_); rintro e w2 ⟨rfl, hc2⟩; have HN_ := hH ((uH HD).trans' hc2); clear HD; have HD := HN_; clear HN_; (obtain ⟨q0, q1⟩ := uH KSW _ (uH HD)); clear hc2)
                | (go_at_call 98; (with_reducible refine (uH HTY _ (uH HD)).mono ?_); rintro e w2 ⟨rfl, hc2⟩; have HN_ := hH ((uH HD).trans' hc2); clear HD; have HD := HN_; clear HN_; (obtain ⟨q0, q1⟩ := uH KSW _ (uH HD)); clear hc2)
                | (go_at_call 52; (with_reducible refine (uH HDU _ (uH HD)).mono ?_); rintro e w2 ⟨rfl, hc2⟩; have HN_ := hH ((uH HD).trans' hc2); clear HD; have HD := HN_; clear HN_; (obtain ⟨q0, q1⟩ := uH KSW _ (uH HD)); clear hc2))
                go_roundw
                case rel =>
                  exact ⟨k + 1, by go_num, by omega, fun j y hj hy => by
                    rcases Nat.lt_or_ge j k with h | h
                    · exact (uH HALL) j y h hy
                    · obtain rfl : j = k := by omega
                      have := (uH HX).symm.trans hy
                      injection this with this
                      rw [← this]
                      exact uH HG, ((uH HCH0).trans' ((Chg.refl (fun _ => False) wq).alloc _)).trans' (uH HD)⟩
                case measure => simp [intOf]; omega
        · rw [hdu] at HDU hB
          have hb := hB (by simp)
          have HB := hH hb
          clear hb hB hN hdu HPA HCON HTO
          generalize (nameB 1 x.name || opB x.name) = na at *
          generalize nameB 2 x.name = co at *
          cases na <;> cases co
          all_goals
              go_wp2_with (first
              | (go_at_call 47; (with_reducible refine (uH HNA _ (uH HD)).mono ?_); rintro e w2 ⟨rfl, hc2⟩; have HN_ := hH ((uH HD).trans' hc2); clear HD; have HD := HN_; clear HN_; (obtain ⟨q0, q1⟩ := uH KSW _ (uH HD)); clear hc2)
              | (go_at_call 95; (with_reducible refine (uH HCO _ (uH HD)).mono ?_); rintro e w2 ⟨rfl, hc2⟩; have HN_ := hH ((uH HD).trans' hc2); clear HD; have HD := HN_; clear HN_; (obtain ⟨q0, q1⟩ := uH KSW _ (uH HD)); clear hc2)
              | (go_at_call 98; (with_reducible refine (uH HTY _ (uH HD)).mono ?_); rintro e w2 ⟨rfl, hc2⟩; have HN_ := hH ((uH HD).trans' hc2); clear HD; have HD := HN_; clear HN_; (obtain ⟨q0, q1⟩ := uH KSW _ (uH HD)); clear hc2)
              | (go_at_call 52; (with_reducible refine (uH HDU _ (uH HD)).mono ?_); rintro e w2 ⟨rfl, hc2⟩; have HN_ := hH ((uH HD).trans' hc2); clear HD; have HD := HN_; clear HN_; (obtain ⟨q0, q1⟩ := uH KSW _ (uH HD)); clear hc2))
              go_ret
              exact ⟨retv (intv (uH HB).symm), ((uH HCH0).trans' ((Chg.refl (fun _ => False) wq).alloc _)).trans' (uH HD)⟩
    · obtain rfl : k = l.length := by omega
      have hki : ¬ (l.length : Int) < (l.length : Int) := by omega
      have HF := hH (uH HGOOD (fun i x hx => hall i x (List.getElem?_eq_some_iff.1 hx).1 hx))
      have HCH := hH hch
      clear hall hch
      go_wp2_with fail
      go_ret
      exact ⟨retv (intv (uH HF).symm), uH HCH⟩
end Go.Proofs.YtinekmjengckdaaGreatDoor
