/-
  Layer 17: what the listed variables and the world's shape give; the row's last step.
-/
import Derived.Test.YtgonllogaiiicaaDoorWz
import Derived.Test.YtgonllogaiiicaaDoorRows
import Derived.ProofKit
import Derived.LaidMore
import Derived.OpenShut
import Derived.Stop.Joined
import Derived.Lib.LaidTab
import Derived.Shelf.Vars
import Derived.HandedShaped
import Derived.Lib.LaidU8
namespace Go.Proofs.YtgonllogaiiicaaDoor
open Go.RowKit
open Go.ChangeShapes Go.WideShapes Go.ChangeAt
set_option maxHeartbeats 1000000
set_option maxRecDepth 100000
/-- The row's last step where of the world it is known that nothing old has changed. -/
theorem post_of_below {H : Type} {enc : TypeId × Value → H} {P : Program} {f : Func} {s : ChangeSpec} {apart fresh handsOn again : Bool} {W W' : World} {args : Array Value} {v : Value} {ds gs : List (DataW H)} {before pa pv : List MemPlace}
    (hW : DataW.Whole enc P f.params.toList s.vars apart W args.toList ds gs before)
    (hres : ∀ (b : Nat) (sp : Nat → Bool) (hd : Bool), DataW.TrodAll enc P W' b sp hd f.resultTypes.toList (v.resultList f.resultTypes.size) (s.fn H (ds ++ gs)).results [])
    (hargs : ∀ sp : Nat → Bool, (∀ p ∈ before, sp p.block = true) → DataW.TrodAll enc P W' 0 sp true f.params.toList args.toList (s.fn H (ds ++ gs)).args pa)
    (hvars : ∀ sp : Nat → Bool, (∀ p ∈ before, sp p.block = true) → DataW.TrodVars enc P W' sp s.vars (s.fn H (ds ++ gs)).vars pv)
    (hps : before = pa ++ pv) (hb : Below W.heap.size W W')
    (hok : ∀ (j : Nat) (t : TypeId) (r : Value), f.resultTypes[j]? = some t → (v.resultList f.resultTypes.size)[j]? = some r → Value.okWide P W' .any 0 t r) :
    s.post enc P f apart fresh handsOn again W args v W' := by
  have hlt : ∀ p ∈ before, p.block < W.heap.size := fun p hp => hW.lt p hp
  have hold : ∀ p ∈ before, (fun b => decide (b < W.heap.size)) p.block = true := fun p hp => by simpa using hlt p hp
  refine ⟨ds, gs, before, [], pa, pv, hW, hres _ _ _, hargs _ hold, hvars _ hold, World.keptBut_mono (fun p hp => ⟨hp, ?_⟩) (hb.frame (· ∈ before)), fun _ => ?_⟩
  · rw [hps, List.mem_append] at hp
    exact Or.inr hp
  · obtain ⟨_, _, _, _, _, hz, hn⟩ := hW
    refine ⟨hok, _, _, ([] ++ pa) ++ pv, ⟨[] ++ pa, pv, trodAll_append (hargs _ (fun _ _ => rfl)) (hres _ _ _), hvars _ (fun _ _ => rfl), rfl, ?_, ?_⟩, ?_⟩
    · intro b off hp
      have hin : MemPlace.cell b off ∈ before := by rw [hps]; simpa using hp
      rw [hb.frozen (hlt _ hin)]
      exact hz b off hin
    · intro ha
      have := hn ha
      rw [hps] at this
      simpa using this
    · intro p hp _
      rw [hps]
      simpa using hp
theorem Tryd.own : ownKnob Tryd.prog.godebug = none := by kernel_rfl
theorem Chg.old {w w' : World} (h : Chg (fun _ => False) w w') : Below w.heap.size w w' := h.below (Nat.le_refl _) (fun _ _ e => e.elim)
noncomputable def laidR : List (String × DataW Unit) := [("math/bits.deBruijn32tab", Rows.laid_math_bits_deBruijn32tab), ("math/bits.deBruijn64tab", Rows.laid_math_bits_deBruijn64tab), ("internal/strconv.uint64pow10", Rows.laid_internal_strconv_uint64pow10), ("unicode/utf8.acceptRanges", Rows.laid_unicode_utf8_acceptRanges), ("triglyph/op.names", Rows.laid_triglyph_op_names), ("triglyph/op.numbers", Rows.laid_triglyph_op_numbers), ("unicode/utf8.first", Rows.laid_unicode_utf8_first)]
theorem glN : Tryd.prog.globalNamed "triglyph/op.names" = some 0 := by kernel_rfl
theorem glM : Tryd.prog.globalNamed "triglyph/op.numbers" = some 1 := by kernel_rfl
noncomputable def gt0 : TypeId := ((Tryd.prog.globals[0]?).map (·.type)).getD 0
noncomputable def gt1 : TypeId := ((Tryd.prog.globals[1]?).map (·.type)).getD 0
noncomputable def gt2 : TypeId := ((Tryd.prog.globals[2]?).map (·.type)).getD 0
theorem gty0 : (Tryd.prog.globals[0]?).map (·.type) = some gt0 := by kernel_rfl
theorem gty1 : (Tryd.prog.globals[1]?).map (·.type) = some gt1 := by kernel_rfl
theorem gty2 : (Tryd.prog.globals[2]?).map (·.type) = some gt2 := by kernel_rfl
noncomputable def ge2 : TypeId := match Tryd.prog.underlying gt2 with
  | some (.array _ e) => e
  | _ => 0
theorem gar0 : Tryd.prog.underlying gt0 = some (.array 21 9) := by kernel_rfl
theorem gar1 : Tryd.prog.underlying gt1 = some (.array 21 3) := by kernel_rfl
theorem gar2 : Tryd.prog.underlying gt2 = some (.array Lib.pow10Tab.length ge2) := by kernel_rfl
theorem gce0 : Tryd.prog.cellsOf 9 = 1 := by kernel_rfl
theorem gce1 : Tryd.prog.cellsOf 3 = 1 := by kernel_rfl
theorem gce2 : Tryd.prog.cellsOf ge2 = 1 := by kernel_rfl
theorem gee2 : Tryd.prog.underlying ge2 = some (.int .u64) := by kernel_rfl
theorem gct0 : Tryd.prog.cellsOf gt0 = 21 := by kernel_rfl
theorem gct1 : Tryd.prog.cellsOf gt1 = 21 := by kernel_rfl
theorem gct2 : Tryd.prog.cellsOf gt2 = Lib.pow10Tab.length := by kernel_rfl
theorem tab0 : (Rows.laid_triglyph_op_names : DataW Unit) = .agg (opNames.map fun z => .lit (.string z)) := by kernel_rfl
theorem tab1 : (Rows.laid_triglyph_op_numbers : DataW Unit) = Lib.tabData .i64 numT := by kernel_rfl
theorem tab2 : (Rows.laid_internal_strconv_uint64pow10 : DataW Unit) = Lib.tabData .u64 Lib.pow10Tab := by kernel_rfl
/-- An array of strings that reads as the table holds the table's strings, cell for cell. -/
theorem cells_of_strs {H : Type} {enc : TypeId × Value → H} {P : Program} {w : World} {base : Nat} {sp : Nat → Bool} {held : Bool} {fuel : Nat} {t e : TypeId} {n : Nat} {cs : List Value} {zs : List Bs} {p : List MemPlace}
    (ht : P.underlying t = some (.array n e)) (he : P.underlying e = some .string) (hce : P.cellsOf e = 1) (hct : P.cellsOf t = n)
    (h : DataW.trod enc P w base sp held fuel t cs = some (.agg (zs.map fun z => .lit (.string z)), p)) : cs = zs.map bv := by
  cases fuel with
  | zero => simp [DataW.trod] at h
  | succ fuel =>
    simp only [DataW.trod, ht, hce, hct, Nat.mul_one] at h
    split at h
    · rename_i hl
      obtain ⟨xs, hm, hx⟩ := Option.map_eq_some_iff.1 h
      have hxs : xs.map (·.1) = zs.map fun z => (DataW.lit (.string z) : DataW H) := by
        have := congrArg Prod.fst hx
        simpa using this
      have hxl : xs.length = n := by simpa using Lib.mapM_length hm
      have hzl : zs.length = n := by
        have := congrArg List.length hxs
        simp at this
        omega
      apply List.ext_getElem?
      intro i
      by_cases hi : i < n
      · obtain ⟨b, hb, hf⟩ := Lib.mapM_at hm i i (by simp [hi])
        obtain ⟨z, hc, rfl, _⟩ := DataW.trod_string he hf
        have h1 : cs[i]? = some (.string z) := by
          have := congrArg (·[0]?) hc
          simpa [List.getElem?_take, List.getElem?_drop] using this
        have h2 : (xs.map (·.1))[i]? = some (DataW.lit (.string z.data.toList) : DataW H) := by simp [hb]
        rw [hxs] at h2
        simp only [List.getElem?_map, Option.map_eq_some_iff, DataW.lit.injEq, Lit.string.injEq] at h2
        obtain ⟨z', hz', hzz⟩ := h2
        rw [h1, List.getElem?_map, hz', hzz]
        rfl
      · rw [List.getElem?_eq_none (by omega), List.getElem?_eq_none (by simp; omega)]
    · cases h
/-- What the condition and the world's shape give. -/
theorem of_laid {W : World} (h : laidMetH Tryd.prog laidR W) (hs : W.ShapedOpen Tryd.prog) : Lay W := by
  rw [MakeChecks.laidMetH_plain _ _ _ (by kernel_rfl)] at h
  obtain ⟨ps, ⟨g0, t0, cs0, f0, p0, q0, hg0, ht0, hv0, hd0, ⟨g1, t1, cs1, f1, p1, q1, hg1, ht1, hv1, hd1, ⟨g2, t2, cs2, f2, p2, q2, hg2, ht2, hv2, hd2, ⟨g3, t3, cs3, f3, p3, q3, hg3, ht3, hv3, hd3, ⟨g4, t4, cs4, f4, p4, q4, hg4, ht4, hv4, hd4, ⟨g5, t5, cs5, f5, p5, q5, hg5, ht5, hv5, hd5, ⟨g6, t6, cs6, f6, p6, q6, hg6, ht6, hv6, hd6, _, _⟩, _⟩, _⟩, _⟩, _⟩, _⟩, _⟩, _, _⟩ := h
  obtain rfl := Option.some.inj (glN.symm.trans hg4)
  obtain rfl := Option.some.inj (glM.symm.trans hg5)
  obtain rfl := Option.some.inj (glob2.symm.trans hg2)
  obtain rfl := Option.some.inj (gty0.symm.trans ht4)
  obtain rfl := Option.some.inj (gty1.symm.trans ht5)
  obtain rfl := Option.some.inj (gty2.symm.trans ht2)
  rw [tab0] at hd4
  rw [tab1] at hd5
  rw [tab2] at hd2
  have e0 := cells_of_strs gar0 Tryd.underlying9 gce0 gct0 hd4
  have e1 := Lib.cells_of_tab gar1 Tryd.underlying3 gce1 gct1 hd5
  have e2 := Lib.cells_of_tab gar2 gee2 gce2 gct2 hd2
  have v1 : Lib.TabIs Tryd.prog W "triglyph/op.numbers" .i64 numT := by
    unfold Lib.TabIs
    rw [hv5, ← e1]
  have v0 : W.var? Tryd.prog "triglyph/op.names" = some (opNames.map bv).toArray := by
    rw [hv4, ← e0]
  refine ⟨fun k hk => ?_, fun k hk => v1.cell glM k hk, ?_, ?_, ?_⟩
  · have hk2 : k < opNames.length := hk
    have h1 := World.var?_cell glN v0 k
    rw [List.getElem?_toArray, List.getElem?_map, List.getElem?_eq_getElem hk2] at h1
    rw [h1, List.getD_eq_getElem?_getD, List.getElem?_eq_getElem hk2]
    rfl
  · unfold Lib.TabIs
    rw [hv2, ← e2]
  · exact cell_of_shapedOpen_int (g := 3) (t := 3) (zero := #[.int .i64 0]) hs (by decide +kernel) (by kernel_rfl) rfl (by kernel_rfl) (by kernel_rfl) Tryd.underlying3
  · obtain ⟨⟨zero, t⟩, h0⟩ := Option.isSome_iff_exists.1 (show ((((begin Tryd.prog (fun _ _ => 0) default).world.heap[7]?).bind Obj.row?).isSome = true) by kernel_rfl)
    obtain ⟨cs, hh, _⟩ := hs.1 7 zero t (by decide +kernel) h0
    rcases Nat.lt_or_ge 7 W.heap.size with h2 | h2
    · exact h2
    · rw [Array.getElem?_eq_none h2] at hh
      cases hh
noncomputable def gF : Nat := (Tryd.prog.globalNamed "unicode/utf8.first").getD 0
/-- The door's world, and the pinned table in its place. -/
noncomputable def laidW (os : Os) : World :=
  let w0 := World.doorLaid Tryd.prog 400 os
  { w0 with heap := w0.heap.modify gF fun
    | .cells _ t frozen => .cells (Lib.firstTab.map fun z => Value.int .u8 z).toArray t frozen
    | o => o }
theorem door_met (os : Os) (args : Array Value) : laidMetH Tryd.prog laidR ((laidW os).forCall (fun _ _ => 0) ⟨#[], args, []⟩).memory :=
  laidMetH_of_parts3 (fuel := 8) (laidMet_of_run' 8 (by kernel_rfl) (by kernel_rfl)) (by kernel_rfl) (by kernel_rfl)
/-- The plain wrap with a condition, the world's shape kept. -/
theorem returnsInHanded_and_shaped {H : Type} {enc : TypeId × Value → H} {a : Assume} {C : Checked} {os : Os} {f : FuncId} {fn : Func} {s : ChangeSpec} {conds : List PathCond} {apart fresh handsOn again : Bool} {X : World → Array Value → Prop}
    (hX : ∀ (w w' : World) (args : Array Value), w.heap = w'.heap → X w args → X w' args)
    (own : ownKnob C.prog.godebug = none) (started : os.Started) (noInit : C.prog.inits.idxOf? f = none) (hfn : C.prog.funcs[f]? = some fn)
    (witness : ∃ (w : World) (tape : Tape) (i : Input), w.os = os ∧ (w.forCall tape i).Shaped C.prog ∧ i.vars = [] ∧ Input.okWide C.prog (w.forCall tape i) .any w.heap.size f i ∧
      ((s.pre enc C.prog fn conds apart (w.forCall tape i).memory i.args ∧ X (w.forCall tape i).memory i.args) ∧ sizedMet enc C.prog fn (OpenSpec.ofChange s) apart (w.forCall tape i).memory i.args) ∧ a.holds C.prog (lone (Frame.enter C.prog f i.args .normal) [] (w.forCall tape i)))
    (contract : ∀ (W : World) (base : Nat) (args : Array Value) (ds gs : List (DataW H)) (before : List MemPlace),
      (∀ (j : Nat) t v, fn.params[j]? = some t → args[j]? = some v → Value.okWide C.prog W .any base t v) →
      DataW.Whole enc C.prog fn.params.toList s.vars apart W args.toList ds gs before →
      X W args → W.ShapedOpen C.prog →
      Calls C.prog f args W fun e W' => ∃ v, e = .returned v ∧ s.post enc C.prog fn apart fresh handsOn again W args v W') :
    ReturnsInHanded a C os f .any (fun w args => (s.pre enc C.prog fn conds apart w args ∧ X w args) ∧ sizedMet enc C.prog fn (OpenSpec.ofChange s) apart w args) (s.post enc C.prog fn apart fresh handsOn again) := by
  refine returnsInHanded_of_calls own started noInit witness ?_
  intro w tape i _ hsh _ hok hpre _
  obtain ⟨_, _, _, fn', hfn', _, _, _, _, hval⟩ := hok
  have e : fn' = fn := Option.some.inj (hfn'.symm.trans hfn)
  subst e
  obtain ⟨⟨⟨ds, gs, before, hw, _⟩, hx⟩, _⟩ := hpre
  have hw' := DataW.Whole.of_heap (w' := w.forCall tape i) (by rfl) hw
  refine (contract (w.forCall tape i) w.heap.size i.args ds gs before hval hw' (hX _ _ _ (by rfl) hx) hsh).mono fun e W' ⟨v, he, hp⟩ => ?_
  subst he
  exact ChangeSpec.post_blind hp
end Go.Proofs.YtgonllogaiiicaaDoor
