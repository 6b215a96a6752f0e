/-
  Layer 10, the program's side: whether declarations may be, together.
-/
import Derived.Test.YtinekmjengckdaaGreatDoorA11
namespace Go.Proofs.YtinekmjengckdaaGreatDoor
open Go.RowKit
set_option maxHeartbeats 4000000
set_option maxRecDepth 100000
theorem each_again (l : List Dt) (v : Value) (T S : Nat → Prop) (w : World) (g0 : Nat) (Inv Fin : Nat → Nat → World → Prop) (hr : RdD T w v l) (hn : l.length ≤ 1000000) (hcn : ∀ d ∈ l, d.cons.length ≤ 1000000) (hTS : ∀ b, T b → ¬ S b)
    (hch : ∀ i k W, Inv i k W → Chg S w W) (hst : ∀ i k W W', Inv i k W → Chg (fun _ => False) W W' → Inv i k W') (h0 : Inv 0 0 w) (hnx : ∀ (i : Nat) (d : Dt) W, l[i]? = some d → Inv i d.cons.length W → Inv (i + 1) 0 W)
    (hcl : ∀ (i k : Nat) (d : Dt) (x : Ct) W, l[i]? = some d → d.cons[k]? = some x → Inv i k W → Calls Tryz.prog 106 #[.int .i64 (i : Int), .int .i64 (k : Int), .pointer (some ⟨g0, 0, none⟩)] W (CloOut i k Inv Fin)) :
    Calls Tryz.prog 108 #[v, .func (.func 106) #[] #[.pointer (some ⟨g0, 0, none⟩)]] w (EachOut l Inv Fin) := by
  obtain ⟨A, c, rfl⟩ := hr.val
  have HR := hH hr
  have HCL := hH hcl
  have HCH := hH hch
  have HST := hH hst
  have HNX := hH hnx
  have HTS := hH hTS
  have HCN := hH hcn
  have H0 := hH h0
  clear hr hcl hch hst hnx hTS h0 hcn
  go_enter Tryz.func108, Tryz.ntmps108
  go_wp2_with fail
  go_loopw [10] (fun i wr => ∃ k : Nat, i = .int .i64 (k : Int) ∧ k ≤ l.length ∧ Inv k 0 wr) (fun i _ => l.length - (intOf i).toNat)
  case atStart => exact ⟨0, rfl, Nat.zero_le _, uH H0⟩
  case round =>
    obtain ⟨wq, rfl⟩ : ∃ wq : World, wq = wr := ⟨_, rfl⟩
    obtain ⟨i, rfl, hi, hinv⟩ := hrel
    by_cases hlt : i < l.length
    · have hki : (i : Int) < (l.length : Int) := by omega
      have hx : l[i]? = some l[i] := List.getElem?_eq_getElem hlt
      have hdn := (uH HCN) l[i] (List.getElem_mem hlt)
      generalize l[i] = d at *
      obtain ⟨b, o, c2, u, hv, _, hru, hns, c0, c1, c3⟩ := ((uH HR).chg ((uH HCH) _ _ _ hinv) (fun b hb _ => (uH HTS) b hb)).at_ hx
      injection hv with hv1 hv2 hv3
      subst hv1 hv3
      obtain ⟨B, c5, rfl⟩ := hru.val
      have HX := hH hx
      have HIV := hH hinv
      clear hx hinv hru
      go_upto_region 4 with fail
      have bk := Blk.new wq 70 #[.string d.name, .int .i64 d.params, .slice B d.cons.length c5]
      have hc3 : Chg (fun _ => False) wq (wq.alloc (.cells #[.string d.name, .int .i64 d.params, .slice B d.cons.length c5] 70)) := (Chg.refl _ wq).alloc _
      generalize wq.alloc (.cells #[.string d.name, .int .i64 d.params, .slice B d.cons.length c5] 70) = w3 at *
      generalize wq.heap.size = nb at *
      have z2 := bk.cell 2
      simp only [List.getElem?_toArray, List.getElem?_cons_zero, List.getElem?_cons_succ] at z2
      have HI3 := hH ((uH HST) _ _ _ _ (uH HIV) hc3)
      clear bk hc3 c0 c1 c3 HIV
      go_wp2_with fail
      go_loopw [18] (fun j wr => ∃ k : Nat, j = .int .i64 (k : Int) ∧ k ≤ d.cons.length ∧ Inv i k wr) (fun j _ => d.cons.length - (intOf j).toNat)
      case atStart => exact ⟨0, rfl, Nat.zero_le _, uH HI3⟩
      case round =>
        obtain ⟨wy, rfl⟩ : ∃ wy : World, wy = wr := ⟨_, rfl⟩
        obtain ⟨k, rfl, hk, hinv⟩ := hrel
        by_cases hlk : k < d.cons.length
        · have hkk : (k : Int) < (d.cons.length : Int) := by omega
          have HC := hH ((uH HCL) i k d d.cons[k] wy (uH HX) (List.getElem?_eq_getElem hlk) hinv)
          clear hinv
          go_wp2_with (go_at_call 106; refine (uH HC).mono ?_; rintro e w4 ⟨r, rfl, h4⟩; have H4 := hH h4; clear h4)
          · go_ret
            exact .inr ⟨rfl, i, k, (uH H4).2 (by first | assumption | simp_all)⟩
          · refine ⟨⟨k + 1, by go_num, by omega, (uH H4).1 (by first | assumption | simp_all)⟩, ?_⟩
            simp [intOf]
            omega
        · obtain rfl : k = d.cons.length := by omega
          have hkk : ¬ (d.cons.length : Int) < (d.cons.length : Int) := by omega
          have HV := hH ((uH HNX) i d _ (uH HX) hinv)
          clear hinv
          go_wp2_with fail
          go_roundw
          case rel => exact ⟨i + 1, by go_num, by omega, uH HV⟩
          case measure => simp [intOf]; omega
    · obtain rfl : i = l.length := by omega
      have hki : ¬ (l.length : Int) < (l.length : Int) := by omega
      have HV := hH hinv
      clear hinv
      go_wp2_with fail
      go_ret
      exact .inl ⟨rfl, uH HV⟩
theorem each_lacks (l : List Dt) (v : Value) (T S : Nat → Prop) (w : World) (g0 g1 : Nat) (Inv Fin : Nat → Nat → World → Prop) (hr : RdD T w v l) (hn : l.length ≤ 1000000) (hcn : ∀ d ∈ l, d.cons.length ≤ 1000000) (hTS : ∀ b, T b → ¬ S b)
    (hch : ∀ i k W, Inv i k W → Chg S w W) (hst : ∀ i k W W', Inv i k W → Chg (fun _ => False) W W' → Inv i k W') (h0 : Inv 0 0 w) (hnx : ∀ (i : Nat) (d : Dt) W, l[i]? = some d → Inv i d.cons.length W → Inv (i + 1) 0 W)
    (hcl : ∀ (i k : Nat) (d : Dt) (x : Ct) W, l[i]? = some d → d.cons[k]? = some x → Inv i k W → Calls Tryz.prog 112 #[.int .i64 (i : Int), .int .i64 (k : Int), .pointer (some ⟨g0, 0, none⟩), .pointer (some ⟨g1, 0, none⟩)] W (CloOut i k Inv Fin)) :
    Calls Tryz.prog 108 #[v, .func (.func 112) #[] #[.pointer (some ⟨g0, 0, none⟩), .pointer (some ⟨g1, 0, none⟩)]] w (EachOut l Inv Fin) := by
  obtain ⟨A, c, rfl⟩ := hr.val
  have HR := hH hr
  have HCL := hH hcl
  have HCH := hH hch
  have HST := hH hst
  have HNX := hH hnx
  have HTS := hH hTS
  have HCN := hH hcn
  have H0 := hH h0
  clear hr hcl hch hst hnx hTS h0 hcn
  go_enter Tryz.func108, Tryz.ntmps108
  go_wp2_with fail
  go_loopw [10] (fun i wr => ∃ k : Nat, i = .int .i64 (k : Int) ∧ k ≤ l.length ∧ Inv k 0 wr) (fun i _ => l.length - (intOf i).toNat)
  case atStart => exact ⟨0, rfl, Nat.zero_le _, uH H0⟩
  case round =>
    obtain ⟨wq, rfl⟩ : ∃ wq : World, wq = wr := ⟨_, rfl⟩
    obtain ⟨i, rfl, hi, hinv⟩ := hrel
    by_cases hlt : i < l.length
    · have hki : (i : Int) < (l.length : Int) := by omega
      have hx : l[i]? = some l[i] := List.getElem?_eq_getElem hlt
      have hdn := (uH HCN) l[i] (List.getElem_mem hlt)
      generalize l[i] = d at *
      obtain ⟨b, o, c2, u, hv, _, hru, hns, c0, c1, c3⟩ := ((uH HR).chg ((uH HCH) _ _ _ hinv) (fun b hb _ => (uH HTS) b hb)).at_ hx
      injection hv with hv1 hv2 hv3
      subst hv1 hv3
      obtain ⟨B, c5, rfl⟩ := hru.val
      have HX := hH hx
      have HIV := hH hinv
      clear hx hinv hru
      go_upto_region 4 with fail
      have bk := Blk.new wq 70 #[.string d.name, .int .i64 d.params, .slice B d.cons.length c5]
      have hc3 : Chg (fun _ => False) wq (wq.alloc (.cells #[.string d.name, .int .i64 d.params, .slice B d.cons.length c5] 70)) := (Chg.refl _ wq).alloc _
      generalize wq.alloc (.cells #[.string d.name, .int .i64 d.params, .slice B d.cons.length c5] 70) = w3 at *
      generalize wq.heap.size = nb at *
      have z2 := bk.cell 2
      simp only [List.getElem?_toArray, List.getElem?_cons_zero, List.getElem?_cons_succ] at z2
      have HI3 := hH ((uH HST) _ _ _ _ (uH HIV) hc3)
      clear bk hc3 c0 c1 c3 HIV
      go_wp2_with fail
      go_loopw [18] (fun j wr => ∃ k : Nat, j = .int .i64 (k : Int) ∧ k ≤ d.cons.length ∧ Inv i k wr) (fun j _ => d.cons.length - (intOf j).toNat)
      case atStart => exact ⟨0, rfl, Nat.zero_le _, uH HI3⟩
      case round =>
        obtain ⟨wy, rfl⟩ : ∃ wy : World, wy = wr := ⟨_, rfl⟩
        obtain ⟨k, rfl, hk, hinv⟩ := hrel
        by_cases hlk : k < d.cons.length
        · have hkk : (k : Int) < (d.cons.length : Int) := by omega
          have HC := hH ((uH HCL) i k d d.cons[k] wy (uH HX) (List.getElem?_eq_getElem hlk) hinv)
          clear hinv
          go_wp2_with (go_at_call 112; refine (uH HC).mono ?_; rintro e w4 ⟨r, rfl, h4⟩; have H4 := hH h4; clear h4)
          · go_ret
            exact .inr ⟨rfl, i, k, (uH H4).2 (by first | assumption | simp_all)⟩
          · refine ⟨⟨k + 1, by go_num, by omega, (uH H4).1 (by first | assumption | simp_all)⟩, ?_⟩
            simp [intOf]
            omega
        · obtain rfl : k = d.cons.length := by omega
          have hkk : ¬ (d.cons.length : Int) < (d.cons.length : Int) := by omega
          have HV := hH ((uH HNX) i d _ (uH HX) hinv)
          clear hinv
          go_wp2_with fail
          go_roundw
          case rel => exact ⟨i + 1, by go_num, by omega, uH HV⟩
          case measure => simp [intOf]; omega
    · obtain rfl : i = l.length := by omega
      have hki : ¬ (l.length : Int) < (l.length : Int) := by omega
      have HV := hH hinv
      clear hinv
      go_wp2_with fail
      go_ret
      exact .inl ⟨rfl, uH HV⟩
def AllB (P : Nat → Nat → Dt → Ct → Prop) (l : List Dt) (i k : Nat) : Prop := ∀ (i' k' : Nat) (d : Dt) (x : Ct), l[i']? = some d → d.cons[k']? = some x → (i' < i ∨ (i' = i ∧ k' < k)) → P i' k' d x
section
variable {P : Nat → Nat → Dt → Ct → Prop} {l : List Dt} {i k : Nat} {d : Dt} {x : Ct}
theorem AllB.start (P : Nat → Nat → Dt → Ct → Prop) (l : List Dt) : AllB P l 0 0 := fun i' k' _ _ _ _ h => by omega
theorem AllB.step (h : AllB P l i k) (hd : l[i]? = some d) (hk : d.cons[k]? = some x) (hx : P i k d x) : AllB P l i (k + 1) := fun i' k' d' x' h1 h2 h3 => by
  rcases h3 with h3 | ⟨rfl, h3⟩
  · exact h i' k' d' x' h1 h2 (.inl h3)
  · rcases Nat.lt_or_ge k' k with h4 | h4
    · exact h i' k' d' x' h1 h2 (.inr ⟨rfl, h4⟩)
    · obtain rfl : k' = k := by omega
      have := h1.symm.trans hd
      injection this with this
      subst this
      have := h2.symm.trans hk
      injection this with this
      subst this
      exact hx
theorem AllB.next (h : AllB P l i d.cons.length) (hd : l[i]? = some d) : AllB P l (i + 1) 0 := fun i' k' d' x' h1 h2 h3 => by
  rcases h3 with h3 | ⟨_, h3⟩
  · rcases Nat.lt_or_ge i' i with h4 | h4
    · exact h i' k' d' x' h1 h2 (.inl h4)
    · obtain rfl : i' = i := by omega
      have := h1.symm.trans hd
      injection this with this
      subst this
      exact h i' k' d' x' h1 h2 (.inr ⟨rfl, (List.getElem?_eq_some_iff.1 h2).1⟩)
  · omega
theorem AllB.all (h : AllB P l l.length 0) {i k : Nat} {d : Dt} {x : Ct} (hd : l[i]? = some d) (hk : d.cons[k]? = some x) : P i k d x := h i k d x hd hk (.inl (List.getElem?_eq_some_iff.1 hd).1)
end
theorem again_iff {l : List Dt} {i k : Nat} {d : Dt} {x : Ct} (hd : l[i]? = some d) (hk : d.cons[k]? = some x) : (!(fX l x.name == (i : Int)) || !(fY l x.name == (k : Int))) = false ↔ findG x.name 0 l = some (0 + i, k) := by
  rw [Nat.zero_add, Bool.or_eq_false_iff, Bool.not_eq_false', Bool.not_eq_false', beq_iff_eq, beq_iff_eq]
  have hm : (findG x.name 0 l).isSome = true := (findG_mem x.name l 0).2 (List.mem_flatMap.2 ⟨d, List.mem_of_getElem? hd, List.mem_map.2 ⟨x, List.mem_of_getElem? hk, rfl⟩⟩)
  unfold fX fY findL
  cases e : findG x.name 0 l with
  | none => rw [e] at hm; cases hm
  | some r =>
    obtain ⟨a, b⟩ := r
    simp only [Option.some.injEq, Prod.mk.injEq]
    omega
theorem again_each (l : List Dt) (v : Value) (T : Nat → Prop) (w : World) (gl : Nat) (hl : Blk w gl 23 #[v]) (hr : RdD T w v l) (hn : l.length ≤ 1000000) (hcn : ∀ d ∈ l, d.cons.length ≤ 1000000) :
    Calls Tryz.prog 108 #[v, .func (.func 106) #[] #[.pointer (some ⟨gl, 0, none⟩)]] w fun e w' => e = .returned (.bool (!decide ((consNames l).Nodup))) ∧ Chg (fun _ => False) w w' := by
  refine (each_again l v T (fun _ => False) w gl
    (fun i k W => Chg (fun _ => False) w W ∧ AllB (fun i k _ x => findG x.name 0 l = some (0 + i, k)) l i k)
    (fun i k W => Chg (fun _ => False) w W ∧ ∃ d x, l[i]? = some d ∧ d.cons[k]? = some x ∧ ¬ findG x.name 0 l = some (0 + i, k))
    hr hn hcn (fun _ _ h => h) (fun _ _ _ h => h.1) (fun i k W W' h hW => ⟨h.1.trans' hW, h.2⟩) ⟨Chg.refl _ _, AllB.start _ _⟩ (fun i d W hd h => ⟨h.1, h.2.next hd⟩)
    (fun i k d x W hd hk h => ?_)).mono ?_
  · refine (again_any l v i k d x T W gl (hl.chg h.1 id) (hr.chg h.1 (fun _ _ _ => id)) hd hk hn hcn).mono ?_
    rintro e w2 ⟨rfl, hc2⟩
    refine ⟨_, rfl, fun hf => ⟨h.1.trans' hc2, h.2.step hd hk ((again_iff hd hk).1 hf)⟩, fun ht => ⟨h.1.trans' hc2, d, x, hd, hk, fun hf => ?_⟩⟩
    rw [(again_iff hd hk).2 hf] at ht
    cases ht
  · rintro e w2 (⟨rfl, h1, h2⟩ | ⟨rfl, i, k, h1, d, x, hd, hk, h2⟩)
    · have : (consNames l).Nodup := (consNodup l 0).2 fun k d c x hk hx => h2.all hk hx
      rw [decide_eq_true this]
      exact ⟨rfl, h1⟩
    · have : ¬ (consNames l).Nodup := fun hh => h2 ((consNodup l 0).1 hh i d k x hd hk)
      rw [decide_eq_false this]
      exact ⟨rfl, h1⟩
def lackD (l : List Dt) : Bool := l.any fun d => d.cons.any fun c => c.args.any fun t => t.any (lackN l)
theorem lacks_each (l : List Dt) (v : Value) (T : Nat → Prop) (w : World) (gl gf : Nat) (hl : Blk w gl 23 #[v]) (hf : Blk w gf 149 #[.func (.func 109) #[] #[.pointer (some ⟨gl, 0, none⟩)]]) (hr : RdD T w v l) (hn : l.length ≤ 1000000) (hcn : ∀ d ∈ l, d.cons.length ≤ 1000000)
    (han : ∀ d ∈ l, ∀ x ∈ d.cons, x.args.length ≤ 1000000) (htn : ∀ d ∈ l, ∀ x ∈ d.cons, ∀ t ∈ x.args, t.length ≤ 1000000) (lay : Lay w) :
    Calls Tryz.prog 108 #[v, .func (.func 112) #[] #[.pointer (some ⟨gl, 0, none⟩), .pointer (some ⟨gf, 0, none⟩)]] w fun e w' => e = .returned (.bool (lackD l)) ∧ Chg (fun _ => False) w w' := by
  refine (each_lacks l v T (fun _ => False) w gl gf
    (fun i k W => Chg (fun _ => False) w W ∧ AllB (fun _ _ _ x => (x.args.any fun t => t.any (lackN l)) = false) l i k)
    (fun i k W => Chg (fun _ => False) w W ∧ ∃ d x, l[i]? = some d ∧ d.cons[k]? = some x ∧ (x.args.any fun t => t.any (lackN l)) = true)
    hr hn hcn (fun _ _ h => h) (fun _ _ _ h => h.1) (fun i k W W' h hW => ⟨h.1.trans' hW, h.2⟩) ⟨Chg.refl _ _, AllB.start _ _⟩ (fun i d W hd h => ⟨h.1, h.2.next hd⟩)
    (fun i k d x W hd hk h => ?_)).mono ?_
  · have m1 := List.mem_of_getElem? hd
    have m2 := List.mem_of_getElem? hk
    refine (lacks_any l v i k d x T W gl gf (hl.chg h.1 id) (hf.chg h.1 id) (hr.chg h.1 (fun _ _ _ => id)) hd hk hn (hcn d m1) (han d m1 x m2) (htn d m1 x m2) (lay.chg h.1 (fun _ _ => id))).mono ?_
    rintro e w2 ⟨rfl, hc2⟩
    exact ⟨_, rfl, fun hf => ⟨h.1.trans' hc2, h.2.step hd hk hf⟩, fun ht => ⟨h.1.trans' hc2, d, x, hd, hk, ht⟩⟩
  · rintro e w2 (⟨rfl, h1, h2⟩ | ⟨rfl, i, k, h1, d, x, hd, hk, h2⟩)
    · have : lackD l = false := by
        unfold lackD
        rw [List.any_eq_false]
        intro d hd
        rw [Bool.not_eq_true, List.any_eq_false]
        intro x hx
        obtain ⟨i, hi⟩ := List.mem_iff_getElem?.1 hd
        obtain ⟨k, hk⟩ := List.mem_iff_getElem?.1 hx
        rw [h2.all hi hk]
        exact Bool.false_ne_true
      rw [this]
      exact ⟨rfl, h1⟩
    · have : lackD l = true := List.any_eq_true.2 ⟨d, List.mem_of_getElem? hd, List.any_eq_true.2 ⟨x, List.mem_of_getElem? hk, h2⟩⟩
      rw [this]
      exact ⟨rfl, h1⟩
theorem idxN (l : List Dt) {i : Nat} {d : Dt} (hd : l[i]? = some d) : idxP (fun x : Dt => x.name.toList == d.name.toList) l < (i : Int) ↔ ∃ j, j < i ∧ (l.map Dt.name)[j]? = some d.name := by
  unfold idxP
  have hi := (List.getElem?_eq_some_iff.1 hd)
  cases e : l.findIdx? (fun x : Dt => x.name.toList == d.name.toList) with
  | none =>
    rw [List.findIdx?_eq_none_iff] at e
    have := e d (List.mem_of_getElem? hd)
    rw [name_same.2 rfl] at this
    cases this
  | some k =>
    rw [List.findIdx?_eq_some_iff_getElem] at e
    obtain ⟨hk, h1, h2⟩ := e
    dsimp only
    constructor
    · intro h
      exact ⟨k, by omega, by rw [List.getElem?_map, List.getElem?_eq_getElem hk]; exact congrArg some (name_same.1 h1)⟩
    · rintro ⟨j, hj, hjn⟩
      rw [List.getElem?_map, Option.map_eq_some_iff] at hjn
      obtain ⟨y, hy, e⟩ := hjn
      obtain ⟨hjl, hy2⟩ := List.getElem?_eq_some_iff.1 hy
      rcases Nat.lt_or_ge j k with h3 | h3
      · have := h2 j h3
        rw [hy2] at this
        exact absurd (name_same.2 e) this
      · omega
theorem names_twice {l : List Dt} {i : Nat} {d : Dt} (hd : l[i]? = some d) (h : idxP (fun x : Dt => x.name.toList == d.name.toList) l < (i : Int)) : ¬ (l.map Dt.name).Nodup := fun hh => by
  obtain ⟨j, hj, hjn⟩ := (idxN l hd).1 h
  exact (nodup_iff_first _).1 hh i d.name (by rw [List.getElem?_map, hd]; rfl) j hj hjn
theorem names_once {l : List Dt} (h : ∀ i d, i < l.length → l[i]? = some d → ¬ idxP (fun x : Dt => x.name.toList == d.name.toList) l < (i : Int)) : (l.map Dt.name).Nodup := by
  rw [nodup_iff_first]
  intro i nm hi j hj hjn
  rw [List.getElem?_map, Option.map_eq_some_iff] at hi
  obtain ⟨d, hd, rfl⟩ := hi
  exact h i d (List.getElem?_eq_some_iff.1 hd).1 hd ((idxN l hd).2 ⟨j, hj, hjn⟩)
theorem dt_small {d : Dt} (h : dtB d = true) : d.cons.length ≤ 60 ∧ ∀ x ∈ d.cons, x.args.length ≤ 8 ∧ ∀ t ∈ x.args, t.length ≤ 4000 := by
  unfold dtB at h
  simp only [Bool.and_eq_true, decide_eq_true_eq, List.all_eq_true] at h
  refine ⟨h.1.2, fun x hx => ?_⟩
  have hx := h.2 x hx
  unfold ctB at hx
  simp only [Bool.and_eq_true, decide_eq_true_eq, List.all_eq_true] at hx
  refine ⟨hx.1.2, fun t ht => ?_⟩
  have ht := hx.2 t ht
  unfold argB typB at ht
  simp only [Bool.and_eq_true, decide_eq_true_eq] at ht
  exact ht.1.1.1
theorem datasE_form {l : List Dt} (h : 60 < l.length ∨ l.all dtB = false) : datasE l = 100 := by
  unfold datasE
  rw [if_pos h]
theorem datasE_twice {l : List Dt} (h1 : ¬ 60 < l.length) (h2 : l.all dtB = true) (h : ¬ (l.map Dt.name).Nodup ∨ ¬ (consNames l).Nodup) : datasE l = 101 := by
  unfold datasE
  rw [if_neg (fun hh => hh.elim h1 (fun h3 => by rw [h2] at h3; cases h3)), if_pos h]
theorem datasE_rest {l : List Dt} (h1 : ¬ 60 < l.length) (h2 : l.all dtB = true) (h3 : (l.map Dt.name).Nodup) (h4 : (consNames l).Nodup) : datasE l = if lackD l = true then 102 else 0 := by
  unfold datasE
  rw [if_neg (fun hh => hh.elim h1 (fun h3 => by rw [h2] at h3; cases h3)), if_neg (fun hh => hh.elim (fun k => k h3) (fun k => k h4))]
  rfl
theorem check_data (l : List Dt) (v : Value) (T : Nat → Prop) (w : World) (hr : RdD T w v l) (lay : Lay w) :
    Calls Tryz.prog 49 #[v] w fun e w' => e = .returned (.int .i64 (datasE l)) ∧ Chg (fun _ => False) w w' := by
  obtain ⟨A, c, rfl⟩ := hr.val
  have hbig := hr.big
  have c1 : Chg (fun _ => False) w (w.alloc (.cells #[.slice A l.length c] 23)) := (Chg.refl _ w).alloc _
  have b1 := Blk.new w 23 #[.slice A l.length c]
  have hr1 := hr.chg c1 (fun _ _ _ => id)
  have lay1 := lay.chg c1 (fun _ _ => id)
  have l0 := b1.cell 0
  simp only [List.getElem?_toArray, List.getElem?_cons_zero] at l0
  have C1 := hH c1
  clear hr lay c1
  by_cases h60 : 60 < l.length
  · have HE := hH (datasE_form (l := l) (.inl h60))
    have h60' : (60 : Int) < (l.length : Int) := by omega
    clear hr1 lay1 b1 h60
    generalize datasE l = E at *
    go_enter Tryz.func49, Tryz.ntmps49
    go_wp2_with fail
    go_ret
    exact ⟨retv (intv (uH HE).symm), uH C1⟩
  have h60' : ¬ (60 : Int) < (l.length : Int) := by omega
  have HD := hH (has_dr l _ T _ (fun d => !dtB d) hr1 (by omega) (fun W hW x _ u hu hs => notRight_any x u T W hu hs (lay1.chg hW (fun _ _ => id))))
  rw [any_not] at HD
  cases hall : l.all dtB with
  | false =>
    rw [hall] at HD
    have HE := hH (datasE_form (l := l) (.inr hall))
    clear hr1 lay1 b1 hall
    generalize datasE l = E at *
    go_enter Tryz.func49, Tryz.ntmps49
    go_wp2_with (go_at_call 101; refine (uH HD).mono ?_; rintro e w2 ⟨rfl, hc2⟩; have HC2 := hH hc2; clear hc2)
    go_ret
    exact ⟨retv (intv (uH HE).symm), (uH C1).trans' (uH HC2)⟩
  | true =>
    rw [hall] at HD
    have hsm : ∀ d ∈ l, dtB d = true := List.all_eq_true.1 hall
    have hcn : ∀ d ∈ l, d.cons.length ≤ 1000000 := fun d hd => by have := (dt_small (hsm d hd)).1; omega
    have HTW := hH (datasE_twice h60 hall)
    have HRE := hH (datasE_rest h60 hall)
    have han : ∀ d ∈ l, ∀ x ∈ d.cons, x.args.length ≤ 1000000 := fun d hd x hx => by have := ((dt_small (hsm d hd)).2 x hx).1; omega
    have htn : ∀ d ∈ l, ∀ x ∈ d.cons, ∀ t ∈ x.args, t.length ≤ 1000000 := fun d hd x hx t ht => by have := ((dt_small (hsm d hd)).2 x hx).2 t ht; omega
    have hln : l.length ≤ 1000000 := by omega
    have HB := hH b1
    have HR1 := hH hr1
    have LAY1 := hH lay1
    have HAG := hH (fun W (hW : Chg (fun _ => False) (w.alloc (.cells #[.slice A l.length c] 23)) W) => again_each l _ T W _ (b1.chg hW id) (hr1.chg hW (fun _ _ _ => id)) hln hcn)
    have HLA := hH (fun W (hW : Chg (fun _ => False) (w.alloc (.cells #[.slice A l.length c] 23)) W) =>
      lacks_each l _ T (W.alloc (.cells #[.func (.func 109) #[] #[.pointer (some ⟨w.heap.size, 0, none⟩)]] 149)) w.heap.size W.heap.size ((b1.chg hW id).alloc _) (Blk.new W _ _) (hr1.chg (hW.alloc _) (fun _ _ _ => id)) hln hcn han htn (lay1.chg (hW.alloc _) (fun _ _ => id)))
    have HID := hH (fun (W : World) (d : Dt) (B : Option Addr) (m c5 : Nat) (nb : Nat) (hW : Chg (fun _ => False) (w.alloc (.cells #[.slice A l.length c] 23)) W) (hb : Blk W nb 70 #[.string d.name, .int .i64 d.params, .slice B m c5]) =>
      idx_dn l _ T W nb (fun x : Dt => x.name.toList == d.name.toList) (hr1.chg hW (fun _ _ _ => id)) hln (fun W2 hW2 x _ u hu _ => by obtain ⟨B2, c6, rfl⟩ := hu.val; exact sameName_any x B2 _ c6 d.name _ _ nb W2 (hb.chg hW2 id)))
    clear hr1 lay1 b1 hall hcn han htn hsm h60
    go_enter Tryz.func49, Tryz.ntmps49
    go_wp2_with (go_at_call 101; refine (uH HD).mono ?_; rintro e w2 ⟨rfl, hc2⟩; (have l2 := ((uH HB).chg hc2 id).cell 0); simp only [List.getElem?_toArray, List.getElem?_cons_zero] at l2; have HC2 := hH hc2; clear hc2)
    go_loopw [17] (fun i wr => ∃ k : Nat, i = .int .i64 (k : Int) ∧ k ≤ l.length ∧ (∀ i d, i < k → l[i]? = some d → ¬ idxP (fun x : Dt => x.name.toList == d.name.toList) l < (i : Int)) ∧ Chg (fun _ => False) (w.alloc (.cells #[.slice A l.length c] 23)) wr) (fun i _ => l.length - (intOf i).toNat)
    case atStart => exact ⟨0, rfl, Nat.zero_le _, fun i d h => absurd h (Nat.not_lt_zero _), uH HC2⟩
    case round =>
      clear l2 HC2 HD
      obtain ⟨wq, rfl⟩ : ∃ wq : World, wq = wr := ⟨_, rfl⟩
      obtain ⟨i, rfl, hi, hinv, hch⟩ := hrel
      have l3 := ((uH HB).chg hch id).cell 0
      simp only [List.getElem?_toArray, List.getElem?_cons_zero] at l3
      by_cases hlt : i < l.length
      · have hki : (i : Int) < (l.length : Int) := by omega
        have hx : l[i]? = some l[i] := List.getElem?_eq_getElem hlt
        generalize l[i] = d at *
        obtain ⟨b, o, c2, u, hv, _, hru, hns, e0, e1, e3⟩ := ((uH HR1).chg hch (fun _ _ _ => id)).at_ hx
        injection hv with hv1 hv2 hv3
        subst hv1 hv3
        obtain ⟨B, c5, rfl⟩ := hru.val
        have HX := hH hx
        have HIV := hH hinv
        have HCH := hH hch
        clear hx hinv hru hch
        go_upto_region 6 with fail
        have bk := Blk.new wq 70 #[.string d.name, .int .i64 d.params, .slice B d.cons.length c5]
        have hc3 : Chg (fun _ => False) wq (wq.alloc (.cells #[.string d.name, .int .i64 d.params, .slice B d.cons.length c5] 70)) := (Chg.refl _ wq).alloc _
        have l4 := cell_alloc l3 (.cells #[.string d.name, .int .i64 d.params, .slice B d.cons.length c5] 70)
        generalize wq.alloc (.cells #[.string d.name, .int .i64 d.params, .slice B d.cons.length c5] 70) = w3 at *
        generalize wq.heap.size = nb at *
        have HC3 := hH ((uH HCH).trans' hc3)
        have HI := hH (uH HID w3 d B _ c5 nb (uH HC3) bk)
        clear bk hc3 e0 e1 e3 l3
        by_cases hq : idxP (fun x : Dt => x.name.toList == d.name.toList) l < (i : Int)
        · have HE := hH (uH HTW (.inl (names_twice (uH HX) hq)))
          generalize idxP (fun x : Dt => x.name.toList == d.name.toList) l = J at *
          go_wp2_with (go_at_call 104; refine (uH HI).mono ?_; rintro e w4 ⟨rfl, hc4⟩; have HC4 := hH hc4; clear hc4)
          go_ret
          exact ⟨retv (intv (uH HE).symm), (uH C1).trans' ((uH HC3).trans' (uH HC4))⟩
        · have HQ := hH hq
          have hq2 : ∃ J : Int, J = idxP (fun x : Dt => x.name.toList == d.name.toList) l := ⟨_, rfl⟩
          obtain ⟨J, hJ⟩ := hq2
          rw [← hJ] at hq HI
          have HJ := hH hJ
          clear hJ
          go_wp2_with (go_at_call 104; refine (uH HI).mono ?_; rintro e w4 ⟨rfl, hc4⟩; have HC4 := hH hc4; clear hc4)
          go_roundw
          case rel =>
            exact ⟨i + 1, by go_num, by omega, fun j d' hj hd' => by
              rcases Nat.lt_or_ge j i with h | h
              · exact Int.not_lt.2 ((uH HIV) j d' h hd')
              · obtain rfl : j = i := by omega
                have := (uH HX).symm.trans hd'
                injection this with this
                subst this
                exact Int.not_lt.2 (uH HQ), (uH HC3).trans' (uH HC4)⟩
          case measure => simp [intOf]; omega
      · obtain rfl : i = l.length := by omega
        have hki : ¬ (l.length : Int) < (l.length : Int) := by omega
        have HN := hH (names_once hinv)
        have HCH := hH hch
        have HA := hH (uH HAG wq hch)
        clear hinv hch HAG
        by_cases hcd : (consNames l).Nodup
        · have HE := hH (uH HRE (uH HN) hcd)
          rw [decide_eq_true hcd] at HA
          clear hcd HTW HRE
          cases hL : lackD l with
          | true =>
            rw [hL] at HE HLA
            clear hL
            go_wp2_with (first
              | (go_at_call 108; (with_reducible refine (uH HA).mono ?_); rintro e w4 ⟨rfl, hc4⟩; (have l5 := ((((uH HB).chg (uH HCH) id).chg hc4 id).alloc (.cells #[.func (.func 109) #[] #[.pointer (some ⟨w.heap.size, 0, none⟩)]] 149)).cell 0); simp only [List.getElem?_toArray, List.getElem?_cons_zero] at l5; have HC4 := hH ((uH HCH).trans' hc4); clear hc4)
              | (go_at_call 108; (with_reducible refine (uH HLA _ (uH HC4)).mono ?_); rintro e w5 ⟨rfl, hc5⟩; have HC5 := hH hc5; clear hc5))
            go_ret
            exact ⟨retv (intv (uH HE).symm), (uH C1).trans' (((uH HC4).alloc _).trans' (uH HC5))⟩
          | false =>
            rw [hL] at HE HLA
            clear hL
            go_wp2_with (first
              | (go_at_call 108; (with_reducible refine (uH HA).mono ?_); rintro e w4 ⟨rfl, hc4⟩; (have l5 := ((((uH HB).chg (uH HCH) id).chg hc4 id).alloc (.cells #[.func (.func 109) #[] #[.pointer (some ⟨w.heap.size, 0, none⟩)]] 149)).cell 0); simp only [List.getElem?_toArray, List.getElem?_cons_zero] at l5; have HC4 := hH ((uH HCH).trans' hc4); clear hc4)
              | (go_at_call 108; (with_reducible refine (uH HLA _ (uH HC4)).mono ?_); rintro e w5 ⟨rfl, hc5⟩; have HC5 := hH hc5; clear hc5))
            go_ret
            exact ⟨retv (intv (uH HE).symm), (uH C1).trans' (((uH HC4).alloc _).trans' (uH HC5))⟩
        · have HE := hH (uH HTW (.inr hcd))
          rw [decide_eq_false hcd] at HA
          clear hcd HTW HRE
          go_wp2_with (go_at_call 108; refine (uH HA).mono ?_; rintro e w4 ⟨rfl, hc4⟩; have HC4 := hH hc4; clear hc4)
          go_ret
          exact ⟨retv (intv (uH HE).symm), (uH C1).trans' ((uH HCH).trans' (uH HC4))⟩
end Go.Proofs.YtinekmjengckdaaGreatDoor
