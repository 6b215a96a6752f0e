/-
  The plain law of layer 19: what follows is there; what nothing comes to doesn't matter. Layer 19: no instruction takes what is not there: the ways that end at once.
-/
import Derived.Test.YtejkaalhjocmgaaDoorPla
import Derived.Test.YtejkaalhjocmgaaDoorYi
namespace Go.Proofs.YtejkaalhjocmgaaDoor
section
variable {con : ByteArray → Bool} {m : Im}
theorem reach_wf (hg : Good con m) (hc : CodeOk m) {k : Nat} {s : RSt} (h : Reach con m k s) : ∃ N, WfS N s.of s.height s.tries := by
  induction h with
  | base => exact ⟨0, .inl rfl, by simp, by simp, by simp, trivial, by simp [floorT]⟩
  | @step k s l t s' hr hn hm ih =>
    obtain ⟨N, hw⟩ := ih
    have ho := hg.ok k s hr
    rw [nextR, if_pos ho] at hn
    injection hn with hn
    subst hn
    exact ⟨N + 1, (next_wf hc (hg.lt k s hr) hw ho t s' hm).2⟩
/-- How many values an instruction takes at least. -/
def leastI (i : Ins) : Int :=
  if i.op = 0 ∨ i.op = 9 ∨ i.op = 11 ∨ i.op = 13 ∨ i.op = 16 ∨ i.op = 19 ∨ i.op = 20 then 1
  else if i.op = 7 ∨ i.op = 8 then 2
  else if i.op = 2 ∨ i.op = 6 then i.a + 1
  else if i.op = 5 then i.a
  else if i.op = 10 ∨ i.op = 18 then i.b
  else if i.op = 12 then takesI i.a
  else 0
theorem follows (hg : Good con m) (hc : CodeOk m) {k : Nat} {s : RSt} (h : Reach con m k s) :
    0 ≤ s.height ∧ leastI (insAt m k) ≤ s.height ∧
    ((insAt m k).op ≠ 0 ∧ (insAt m k).op ≠ 8 ∧ (insAt m k).op ≠ 9 ∧ (insAt m k).op ≠ 13 ∧ (insAt m k).op ≠ 15 → k + 1 < m.code.length ∧ ∃ s', Reach con m (k + 1) s' ∧ s'.of = s.of) ∧
    (15 ≤ (insAt m k).op → ∃ s', Reach con m (insAt m k).a.toNat s' ∧ ((insAt m k).op ≠ 18 → s'.of = s.of) ∧ ((insAt m k).op = 18 → s'.of = (insAt m k).a ∧ s'.height = 1)) := by
  obtain ⟨N, hw⟩ := reach_wf hg hc h
  have hk := hg.lt k s h
  have ho := hg.ok k s h
  obtain ⟨h0, h20, ha, _, hb, _, _⟩ := insAt_ok hc hk
  have hfl := (floor_drop hw.srt).2
  have hlo := hw.lo
  have hn : ∀ t s', (t, s') ∈ nextL con m k s → Reach con m t s' := fun t s' hm => reach_next h ho hm
  have ht := takes_bd (insAt m k).a
  unfold nextOk at ho
  unfold nextL at hn
  dsimp only at ho hn
  generalize insAt m k = i at *
  obtain ⟨op, a, b⟩ := i
  dsimp only at *
  have hcase : op = 0 ∨ op = 1 ∨ op = 2 ∨ op = 3 ∨ op = 4 ∨ op = 5 ∨ op = 6 ∨ op = 7 ∨ op = 8 ∨ op = 9 ∨ op = 10 ∨ op = 11 ∨ op = 12 ∨ op = 13 ∨ op = 14 ∨ op = 15 ∨ op = 16 ∨ op = 17 ∨ op = 18 ∨ op = 19 ∨ op = 20 := by omega
  refine ⟨hlo, ?_, fun hgo => ?_, fun h15 => ?_⟩
  · rcases hcase with rfl | rfl | rfl | rfl | rfl | rfl | rfl | rfl | rfl | rfl | rfl | rfl | rfl | rfl | rfl | rfl | rfl | rfl | rfl | rfl | rfl <;> simp [tab] at ho <;> simp [leastI] <;> omega
  · have hbh : (tab con m ⟨op, a, b⟩ (decide (0 ≤ s.of)) s.tries.isEmpty s.has s.height).behind = true := by
      clear hn ho
      rcases hcase with rfl | rfl | rfl | rfl | rfl | rfl | rfl | rfl | rfl | rfl | rfl | rfl | rfl | rfl | rfl | rfl | rfl | rfl | rfl | rfl | rfl <;> simp [tab] <;> omega
    rw [hbh] at ho hn
    simp only [Bool.true_and, Bool.and_eq_true, Bool.not_eq_true', decide_eq_false_iff_not] at ho
    refine ⟨by omega, ⟨s.of, s.has, s.height - (tab con m ⟨op, a, b⟩ (decide (0 ≤ s.of)) s.tries.isEmpty s.has s.height).takes + (tab con m ⟨op, a, b⟩ (decide (0 ≤ s.of)) s.tries.isEmpty s.has s.height).puts, triesOf op s.height s.tries⟩, hn (k + 1) _ (List.mem_append.2 (.inl (List.mem_append.2 (.inr ?_)))), rfl⟩
    simp
  · by_cases h17 : op = 17
    · subst h17
      refine ⟨⟨s.of, s.has, s.height + 1, s.tries⟩, hn _ _ (List.mem_append.2 (.inl (List.mem_append.2 (.inl (List.mem_append.2 (.inl ?_)))))), fun _ => rfl, fun e => by omega⟩
      simp
    · by_cases h18 : op = 18
      · subst h18
        refine ⟨⟨a, b, 1, []⟩, hn _ _ (List.mem_append.2 (.inl (List.mem_append.2 (.inl (List.mem_append.2 (.inr ?_)))))), fun e => absurd rfl e, fun _ => ⟨rfl, rfl⟩⟩
        simp
      · have hth : (tab con m ⟨op, a, b⟩ (decide (0 ≤ s.of)) s.tries.isEmpty s.has s.height).there = true := by
          clear hn ho
          have : op = 15 ∨ op = 16 ∨ op = 19 ∨ op = 20 := by omega
          rcases this with rfl | rfl | rfl | rfl <;> simp [tab]
        rw [hth] at hn
        refine ⟨⟨s.of, s.has, s.height - (tab con m ⟨op, a, b⟩ (decide (0 ≤ s.of)) s.tries.isEmpty s.has s.height).takes + (tab con m ⟨op, a, b⟩ (decide (0 ≤ s.of)) s.tries.isEmpty s.has s.height).puts, triesOf op s.height s.tries⟩, hn _ _ (List.mem_append.2 (.inr ?_)), fun _ => rfl, fun e => absurd e h18⟩
        simp
/-- More behind it that nothing comes to. -/
def moreIm (m : Im) (l : List Ins) : Im := ⟨m.pool, m.code ++ l⟩
theorem more_ins {l : List Ins} {k : Nat} (hk : k < m.code.length) : insAt (moreIm m l) k = insAt m k := by
  unfold insAt moreIm
  rw [List.getD_eq_getElem?_getD, List.getD_eq_getElem?_getD, List.getElem?_append_left hk]
theorem more_tab {l : List Ins} (i : Ins) (fn free : Bool) (has height : Int) : tab con (moreIm m l) i fn free has height = tab con m i fn free has height := rfl
theorem more_next {l : List Ins} {k : Nat} (hk : k < m.code.length) (s : RSt) : nextL con (moreIm m l) k s = nextL con m k s := by
  unfold nextL
  rw [more_ins hk]
  rfl
theorem more_ok {l : List Ins} {k : Nat} (hk : k < m.code.length) {s : RSt} (h : nextOk con m k s = true) : nextOk con (moreIm m l) k s = true := by
  unfold nextOk at h ⊢
  rw [more_ins hk]
  dsimp only at h ⊢
  rw [more_tab]
  generalize tab con m (insAt m k) (decide (0 ≤ s.of)) s.tries.isEmpty s.has s.height = T at *
  have hl : (moreIm m l).code.length = m.code.length + l.length := by simp [moreIm]
  rw [hl]
  simp only [Bool.and_eq_true, Bool.not_eq_true', Bool.and_eq_false_iff, decide_eq_false_iff_not] at h ⊢
  refine ⟨h.1, ?_⟩
  rcases h.2 with e | e
  · exact .inl e
  · exact .inr (by omega)
theorem more_reach (hg : Good con m) (l : List Ins) (k : Nat) (s : RSt) : Reach con (moreIm m l) k s ↔ Reach con m k s := by
  constructor
  · intro h
    induction h with
    | base => exact .base
    | @step k s l' t s' hr hn hm ih =>
      have hk := hg.lt k s ih
      have ho := hg.ok k s ih
      rw [nextR, if_pos (more_ok hk ho)] at hn
      injection hn with hn
      subst hn
      rw [more_next hk] at hm
      exact reach_next ih ho hm
  · intro h
    induction h with
    | base => exact .base
    | @step k s l' t s' hr hn hm ih =>
      have hk := hg.lt k s hr
      have ho := hg.ok k s hr
      rw [nextR, if_pos ho] at hn
      injection hn with hn
      subst hn
      rw [← more_next (l := l) hk] at hm
      exact reach_next ih (more_ok hk ho) hm
theorem more_good (hg : Good con m) (l : List Ins) : Good con (moreIm m l) := by
  have hl : (moreIm m l).code.length = m.code.length + l.length := by simp [moreIm]
  refine ⟨by have := hg.pos; omega, fun k s h => ?_, fun k s h => ?_, fun k s s' h h' => ?_⟩
  · have := hg.lt k s ((more_reach hg l k s).1 h); omega
  · have h1 := (more_reach hg l k s).1 h
    exact more_ok (hg.lt k s h1) (hg.ok k s h1)
  · exact hg.one k s s' ((more_reach hg l k s).1 h) ((more_reach hg l k s').1 h')
end
end Go.Proofs.YtejkaalhjocmgaaDoor

namespace Go.Proofs.YtejkaalhjocmgaaDoor
open Go.RowKit
set_option maxHeartbeats 2000000
set_option maxRecDepth 1000000
theorem few_lens {m : Im} (h : fewB m = true) : m.pool.length ≤ 60 ∧ m.code.length ≤ 120 := by
  unfold fewB at h
  simp only [Bool.and_eq_true, decide_eq_true_eq] at h
  exact h.2
theorem dep_list {m : Im} (h : verE m = 0) : depL m = (List.range m.code.length).map (depAt m) := if_pos h
theorem own_list {m : Im} (h : verE m = 0) : ownL m = (List.range m.code.length).map (ownAt m) := if_pos h
theorem dep_len {m : Im} (h : verE m = 0) : (depL m).length = m.code.length := by rw [dep_list h, List.length_map, List.length_range]
theorem own_len {m : Im} (h : verE m = 0) : (ownL m).length = m.code.length := by rw [own_list h, List.length_map, List.length_range]
/-- A copy of an image, and what the functions tell of it, in whatever later world. -/
def CpyOk (m : Im) (W : World) (A B : Option Addr) (c d : Nat) : Prop := ∀ W', Chg (fun _ => False) W W' →
  (Calls Tryd.prog 13 #[.agg #[.slice A m.pool.length c, .slice B m.code.length d]] W' fun e w' => e = .returned (.int .i64 (verE m)) ∧ Chg (fun _ => False) W' w') ∧
  (Calls Tryd.prog 10 #[.agg #[.slice A m.pool.length c, .slice B m.code.length d]] W' fun e w' => TellOut (depL m) W' e w') ∧
  (Calls Tryd.prog 12 #[.agg #[.slice A m.pool.length c, .slice B m.code.length d]] W' fun e w' => TellOut (ownL m) W' e w')
theorem CpyOk.later {m : Im} {W W2 : World} {A B : Option Addr} {c d : Nat} (h : CpyOk m W A B c d) (hc : Chg (fun _ => False) W W2) : CpyOk m W2 A B c d := fun W' hW => h W' (hc.trans' hW)
theorem CpyOk.ver {m : Im} {W : World} {A B : Option Addr} {c d : Nat} (h : CpyOk m W A B c d) : Calls Tryd.prog 13 #[.agg #[.slice A m.pool.length c, .slice B m.code.length d]] W fun e w' => e = .returned (.int .i64 (verE m)) ∧ Chg (fun _ => False) W w' := (h W (Chg.refl _ _)).1
theorem CpyOk.dep {m : Im} {W : World} {A B : Option Addr} {c d : Nat} (h : CpyOk m W A B c d) : Calls Tryd.prog 10 #[.agg #[.slice A m.pool.length c, .slice B m.code.length d]] W fun e w' => TellOut (depL m) W e w' := (h W (Chg.refl _ _)).2.1
theorem CpyOk.own {m : Im} {W : World} {A B : Option Addr} {c d : Nat} (h : CpyOk m W A B c d) : Calls Tryd.prog 12 #[.agg #[.slice A m.pool.length c, .slice B m.code.length d]] W fun e w' => TellOut (ownL m) W e w' := (h W (Chg.refl _ _)).2.2
theorem copy_any (m : Im) (pA cA : Option Addr) (pc cc : Nat) (T T2 : Nat → Prop) (w : World) (hp : Rd T w pA (m.pool.flatMap cstv)) (hc : Rd T2 w cA (m.code.flatMap insv)) (hn : m.code.length ≤ 900) (pn : m.pool.length ≤ 100000) (px : ∀ x ∈ m.pool, x.text.size ≤ 9223372036854775807) (lay : Lay w) :
    Calls Tryd.prog 11 #[.agg #[.slice pA m.pool.length pc, .slice cA m.code.length cc]] w fun e w' => ∃ A' c' B' d', e = .returned (.agg #[.slice A' m.pool.length c', .slice B' m.code.length d']) ∧ CpyOk m w' A' B' c' d' ∧ Rd (fun k => w.heap.size ≤ k) w' A' (m.pool.flatMap cstv) ∧ Rd (fun k => w.heap.size ≤ k) w' B' (m.code.flatMap insv) ∧ Chg (fun _ => False) w w' := by
  refine (copied_any m pc cc pA cA (fun _ => True) w (hp.mono (fun _ _ => trivial)) (hc.mono (fun _ _ => trivial)) (by omega) (by omega)).mono ?_
  rintro e w' ⟨A', c', B', d', h1, h2, h3, h4⟩
  refine ⟨A', c', B', d', h1, fun W' hW => ?_, h2, h3, h4⟩
  have q1 := h2.chg hW (fun _ _ _ => id)
  have q2 := h3.chg hW (fun _ _ _ => id)
  have q3 := (lay.chg h4 (fun _ _ => id)).chg hW (fun _ _ => id)
  exact ⟨verify_any m A' B' c' d' _ _ W' q1 q2 hn pn px q3, depths_any m A' B' c' d' _ _ W' q1 q2 hn pn px q3, owners_any m A' B' c' d' _ _ W' q1 q2 hn pn px q3⟩
/-- Where the law ends at once: it answers as the examples do. -/
theorem follows_few (m : Im) (pA cA : Option Addr) (pc cc : Nat) (T T2 : Nat → Prop) (w : World) (hp : Rd T w pA (m.pool.flatMap cstv)) (_hc : Rd T2 w cA (m.code.flatMap insv)) (hpn : m.pool.length ≤ 9223372036854775807) (hcn : m.code.length ≤ 9223372036854775807) (px : ∀ x ∈ m.pool, x.text.size ≤ 9223372036854775807) (lay : Lay w) (hf : fewB m = false) :
    Calls Tryd.prog 5 #[.agg #[.slice pA m.pool.length pc, .slice cA m.code.length cc]] w fun e w' => e = .returned (.bool true) ∧ Chg (fun _ => False) w w' := by
  have b1 := Blk.new w 25 #[.slice pA m.pool.length pc, .slice cA m.code.length cc]
  have c1 := (Chg.refl (fun _ => False) w).alloc (.cells #[.slice pA m.pool.length pc, .slice cA m.code.length cc] 25)
  have HA := hide (fun W (hW : Chg (fun _ => False) w W) => awake_any W (lay.chg hW (fun _ _ => id)))
  have HF := hide (fun W (hW : Chg (fun _ => False) w W) => few_any m pc cc pA cA T W (hp.chg hW (fun _ _ _ => id)) hpn hcn px)
  have HB := hide b1
  have HC1 := hide c1
  have x0 := b1.cell 0
  have x1 := b1.cell 1
  simp only [List.getElem?_toArray, List.getElem?_cons_zero, List.getElem?_cons_succ] at x0 x1
  have HD1 := hide (Chg.refl (fun _ => False) (w.alloc (.cells #[.slice pA m.pool.length pc, .slice cA m.code.length cc] 25)))
  clear b1 c1
  rw [hf] at HF
  clear hp _hc px lay hf
  go_enter Tryd.func5, Tryd.ntmps5
  go_wp2_with (first
    | (go_at_call 7; (with_reducible refine (unhide HA _ (unhide HC1)).mono ?_); rintro e w2 ⟨rfl, hch⟩; have HC2 := hide ((unhide HC1).trans' hch); have HD2 := hide ((unhide HD1).trans' hch); have hk := (unhide HB).chg (unhide HD2) id; have y0 := hk.cell 0; have y1 := hk.cell 1; simp only [List.getElem?_toArray, List.getElem?_cons_zero, List.getElem?_cons_succ] at y0 y1; clear hk; clear hch)
    | (go_at_call 8; (with_reducible refine (unhide HF _ (unhide HC2)).mono ?_); rintro e w3 ⟨rfl, hch⟩; have HC3 := hide ((unhide HC2).trans' hch); have HD3 := hide ((unhide HD2).trans' hch); have hk := (unhide HB).chg (unhide HD3) id; have z0 := hk.cell 0; have z1 := hk.cell 1; simp only [List.getElem?_toArray, List.getElem?_cons_zero, List.getElem?_cons_succ] at z0 z1; clear hk; clear hch)
    | (go_at_call 7; (with_reducible refine (unhide HA _ (unhide HC3)).mono ?_); rintro e w4 ⟨rfl, hch⟩; have HC4 := hide ((unhide HC3).trans' hch); have HD4 := hide ((unhide HD3).trans' hch); have hk := (unhide HB).chg (unhide HD4) id; have u0 := hk.cell 0; have u1 := hk.cell 1; simp only [List.getElem?_toArray, List.getElem?_cons_zero, List.getElem?_cons_succ] at u0 u1; clear hk; clear hch))
  go_ret
  exact ⟨rfl, unhide HC4⟩
theorem follows_not (m : Im) (pA cA : Option Addr) (pc cc : Nat) (T T2 : Nat → Prop) (w : World) (hp : Rd T w pA (m.pool.flatMap cstv)) (hc : Rd T2 w cA (m.code.flatMap insv)) (hpn : m.pool.length ≤ 9223372036854775807) (hcn : m.code.length ≤ 9223372036854775807) (px : ∀ x ∈ m.pool, x.text.size ≤ 9223372036854775807) (lay : Lay w) (hf : fewB m = true) (hv : (verE m != 0) = true) :
    Calls Tryd.prog 5 #[.agg #[.slice pA m.pool.length pc, .slice cA m.code.length cc]] w fun e w' => e = .returned (.bool true) ∧ Chg (fun _ => False) w w' := by
  have b1 := Blk.new w 25 #[.slice pA m.pool.length pc, .slice cA m.code.length cc]
  have c1 := (Chg.refl (fun _ => False) w).alloc (.cells #[.slice pA m.pool.length pc, .slice cA m.code.length cc] 25)
  have HA := hide (fun W (hW : Chg (fun _ => False) w W) => awake_any W (lay.chg hW (fun _ _ => id)))
  have HF := hide (fun W (hW : Chg (fun _ => False) w W) => few_any m pc cc pA cA T W (hp.chg hW (fun _ _ _ => id)) hpn hcn px)
  have HB := hide b1
  have HC1 := hide c1
  have x0 := b1.cell 0
  have x1 := b1.cell 1
  simp only [List.getElem?_toArray, List.getElem?_cons_zero, List.getElem?_cons_succ] at x0 x1
  have HD1 := hide (Chg.refl (fun _ => False) (w.alloc (.cells #[.slice pA m.pool.length pc, .slice cA m.code.length cc] 25)))
  clear b1 c1
  have hl := few_lens hf
  have HCP := hide (fun W (hW : Chg (fun _ => False) w W) => copy_any m pA cA pc cc T T2 W (hp.chg hW (fun _ _ _ => id)) (hc.chg hW (fun _ _ _ => id)) (by omega) (by omega) px (lay.chg hW (fun _ _ => id)))
  rw [hf] at HF
  clear hp hc px lay hf
  go_enter Tryd.func5, Tryd.ntmps5
  go_wp2_with (first
    | (go_at_call 7; (with_reducible refine (unhide HA _ (unhide HC1)).mono ?_); rintro e w2 ⟨rfl, hch⟩; have HC2 := hide ((unhide HC1).trans' hch); have HD2 := hide ((unhide HD1).trans' hch); have hk := (unhide HB).chg (unhide HD2) id; have y0 := hk.cell 0; have y1 := hk.cell 1; simp only [List.getElem?_toArray, List.getElem?_cons_zero, List.getElem?_cons_succ] at y0 y1; clear hk; clear hch)
    | (go_at_call 8; (with_reducible refine (unhide HF _ (unhide HC2)).mono ?_); rintro e w3 ⟨rfl, hch⟩; have HC3 := hide ((unhide HC2).trans' hch); have HD3 := hide ((unhide HD2).trans' hch); have hk := (unhide HB).chg (unhide HD3) id; have z0 := hk.cell 0; have z1 := hk.cell 1; simp only [List.getElem?_toArray, List.getElem?_cons_zero, List.getElem?_cons_succ] at z0 z1; clear hk; clear hch)
    | (go_at_call 11; (with_reducible refine (unhide HCP _ (unhide HC3)).mono ?_); rintro e w5 ⟨A', c', B', d', rfl, hcp, _, _, hch⟩; have HC5 := hide ((unhide HC3).trans' hch); have HD5 := hide ((unhide HD3).trans' hch); have hk := (unhide HB).chg (unhide HD5) id; have v0 := hk.cell 0; have v1 := hk.cell 1; simp only [List.getElem?_toArray, List.getElem?_cons_zero, List.getElem?_cons_succ] at v0 v1; clear hk; have HV := hide hcp.ver; clear hch hcp)
    | (go_at_call 13; (with_reducible refine (unhide HV).mono ?_); rintro e w6 ⟨rfl, hch⟩; have HC6 := hide ((unhide HC5).trans' hch); have HD6 := hide ((unhide HD5).trans' hch); have hk := (unhide HB).chg (unhide HD6) id; have s0 := hk.cell 0; have s1 := hk.cell 1; simp only [List.getElem?_toArray, List.getElem?_cons_zero, List.getElem?_cons_succ] at s0 s1; clear hk; clear hch)
    | (go_at_call 7; (with_reducible refine (unhide HA _ (unhide HC6)).mono ?_); rintro e w4 ⟨rfl, hch⟩; have HC4 := hide ((unhide HC6).trans' hch); have HD4 := hide ((unhide HD6).trans' hch); have hk := (unhide HB).chg (unhide HD4) id; have u0 := hk.cell 0; have u1 := hk.cell 1; simp only [List.getElem?_toArray, List.getElem?_cons_zero, List.getElem?_cons_succ] at u0 u1; clear hk; clear hch))
  go_ret
  exact ⟨rfl, unhide HC4⟩
/-- The block of that number. -/
def findBlk (k : Nat) : Code → Option Code
  | .block i c => if i = k then some (.block i c) else findBlk k c
  | .loop c => findBlk k c
  | .seq a b => match findBlk k a with
    | some c => some c
    | none => findBlk k b
  | .scope c => findBlk k c
  | .cond _ a b => match findBlk k a with
    | some c => some c
    | none => findBlk k b
  | _ => none
def isReg (k : Nat) : Code → Bool
  | .region i _ _ => i == k
  | .seq a _ => isReg k a
  | _ => false
/-- What stands behind the region of that number (and its test). -/
def findAfter (k : Nat) : Code → Option Code
  | .block _ c => findAfter k c
  | .loop c => findAfter k c
  | .seq a b => if isReg k a then (match a with
      | .region _ _ _ => some b
      | .seq (.region _ _ _) (.cond _ _ _) => some b
      | .seq _ c => match findAfter k a with
        | some d => some d
        | none => some c
      | _ => none) else match findAfter k a with
    | some c => some c
    | none => findAfter k b
  | .scope c => findAfter k c
  | .cond _ a b => match findAfter k a with
    | some c => some c
    | none => findAfter k b
  | _ => none
theorem tell_cells {w : World} {A : Option Addr} {c n : Nat} {f : Nat → Int} (h : RdI (fun _ => True) w (.slice A n c) ((List.range n).map f)) (hne : (List.range n).map f ≠ []) : ∃ b o, A = some ⟨b, o, none⟩ ∧ ∀ k, k < n → w.cell? ⟨b, o + k, none⟩ = some (.int .i64 (f k)) := by
  have hl : ((List.range n).map f).length = n := by rw [List.length_map, List.length_range]
  have h2 : RdI (fun _ => True) w (.slice A ((List.range n).map f).length c) ((List.range n).map f) := by rw [hl]; exact h
  obtain ⟨b, o, e, _, hh⟩ := h2.flat hne
  refine ⟨b, o, e, fun k hk => ?_⟩
  rw [hh k (by omega)]
  congr 2
  rw [List.getD_eq_getElem?_getD, List.getElem?_map, List.getElem?_range hk]
  rfl
end Go.Proofs.YtejkaalhjocmgaaDoor
