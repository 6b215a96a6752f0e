/-
  Alloc and AllocText whatever they come to; the walk of build.
-/
import Derived.Test.YtlgkgglecgdkgaaPick
namespace Go.Proofs.Ytlgkgglecgdkgaa
open Go.RowKit
set_option maxHeartbeats 400000
set_option maxRecDepth 100000

def HM.allocOk (M : HM) (k tag : Int) (parts : List Nat) : Prop :=
  (1 ≤ k ∧ k ≤ 3 ∧ 0 ≤ tag ∧ tag ≤ 1048576 ∧ parts.length ≤ 4096) ∧ parts.all M.value = true ∧ M.now.length + parts.length + 1 ≤ M.size
instance (M : HM) (k tag : Int) (parts : List Nat) : Decidable (M.allocOk k tag parts) := by unfold HM.allocOk; infer_instance
def HM.allocM (M : HM) (k tag : Int) (parts : List Nat) : Option HM :=
  if M.allocOk k tag parts then some (M.put (tag.toNat * 65536 + parts.length * 8 + k.toNat) parts) else none
def HM.allocT (M : HM) (s : ByteArray) : Option HM :=
  if s.size ≤ 200 ∧ M.now.length + (s.size + 7) / 8 + 1 ≤ M.size then some (M.put (s.size * 65536 + (s.size + 7) / 8 * 8 + 4) (tws s.data.toList s.size)) else none
def newWord (M : HM) (o : Option HM) : Nat := if o.isSome then 2 * M.now.length else 0

theorem alloc_all (M : HM) (g bn bo bb c : Nat) (A : Option Addr) (k tag : Int) (parts : List Nat) (T : Nat → Prop) (w : World) (h : HRep w g bn bo bb M)
    (hT : ∀ b, T b → b ≠ g ∧ b ≠ bn ∧ b ≠ bb) (hr : Rd T w A (parts.map wv)) (hx : ∀ x ∈ parts, x < 18446744073709551616) (hn : parts.length ≤ 1048576) :
    Calls Try.prog 16 #[.pointer (some ⟨g, 0, none⟩), .int .i64 k, .int .i64 tag, .slice A parts.length c] w fun e w' =>
      e = .returned (.tuple #[.int .u64 ((newWord M (M.allocM k tag parts) : Nat) : Int), .bool (M.allocM k tag parts).isSome]) ∧ HRep w' g bn bo bb ((M.allocM k tag parts).getD M) ∧ Chg (fun k => k = g ∨ k = bn ∨ k = bb) w w' := by
  by_cases ho : M.allocOk k tag parts
  · obtain ⟨⟨h1, h2, h3, h4, h5⟩, h6, h7⟩ := ho
    have e : M.allocM k tag parts = some (M.put (tag.toNat * 65536 + parts.length * 8 + k.toNat) parts) := if_pos ⟨⟨h1, h2, h3, h4, h5⟩, h6, h7⟩
    rw [e]
    obtain ⟨k, rfl⟩ := Int.eq_ofNat_of_zero_le (show 0 ≤ k by omega)
    obtain ⟨t, rfl⟩ := Int.eq_ofNat_of_zero_le h3
    exact alloc_good M g bn bo bb c k t A parts T w h hT hr hx (by omega) (by omega) (by omega) h5 h6 h7
  · have e : M.allocM k tag parts = none := if_neg ho
    rw [e]
    have hsame : ∀ w', w = w' → HRep w' g bn bo bb ((none : Option HM).getD M) ∧ Chg (fun k => k = g ∨ k = bn ∨ k = bb) w w' := by
      rintro w' rfl
      exact ⟨h, Chg.refl _ _⟩
    by_cases h1 : 1 ≤ k ∧ k ≤ 3 ∧ 0 ≤ tag ∧ tag ≤ 1048576 ∧ parts.length ≤ 4096
    · cases h2 : parts.all M.value
      · exact (alloc_bad M g bn bo bb c A k tag parts T w h hr hx h1 h2).mono fun e w' hh => ⟨hh.1, hsame w' hh.2⟩
      · have h3 : M.size < M.now.length + parts.length + 1 := by
          rcases Nat.lt_or_ge M.size (M.now.length + parts.length + 1) with h3 | h3
          · exact h3
          · exact absurd ⟨h1, h2, h3⟩ ho
        obtain ⟨q1, q2, q3, q4, q5⟩ := h1
        obtain ⟨k, rfl⟩ := Int.eq_ofNat_of_zero_le (show 0 ≤ k by omega)
        obtain ⟨t, rfl⟩ := Int.eq_ofNat_of_zero_le q3
        refine (alloc_full M g bn bo bb c k t A parts T w h hT hr hx (by omega) (by omega) (by omega) q5 h2 h3).mono fun e w' hh => ⟨hh.1, ?_⟩
        obtain ⟨n, rfl⟩ := hh.2
        exact ⟨h.chg ((Chg.refl (fun _ => False) w).drewN n) id id id id, (Chg.refl _ _).drewN n⟩
    · exact (alloc_out g parts.length c A k tag w hn h1).mono fun e w' hh => ⟨hh.1, hsame w' hh.2⟩

theorem allocT_all (M : HM) (g bn bo bb : Nat) (s : ByteArray) (w : World) (h : HRep w g bn bo bb M) (hs : s.size ≤ 1048576) :
    Calls Try.prog 18 #[.pointer (some ⟨g, 0, none⟩), .string s] w fun e w' =>
      e = .returned (.tuple #[.int .u64 ((newWord M (M.allocT s) : Nat) : Int), .bool (M.allocT s).isSome]) ∧ HRep w' g bn bo bb ((M.allocT s).getD M) ∧ Chg (fun k => k = g ∨ k = bn ∨ k = bb) w w' := by
  by_cases h1 : s.size ≤ 200
  · by_cases h2 : M.now.length + (s.size + 7) / 8 + 1 ≤ M.size
    · have e : M.allocT s = some _ := if_pos ⟨h1, h2⟩
      rw [e]
      exact allocText_good M g bn bo bb s w h h1 h2
    · have e : M.allocT s = none := if_neg (fun h => h2 h.2)
      rw [e]
      exact (allocText_full M g bn bo bb s w h h1 (by omega)).mono fun e w' hh => ⟨hh.1, h.chg hh.2 id id id id, hh.2.mono fun _ _ h => h.elim⟩
  · have e : M.allocT s = none := if_neg (fun h => h1 h.1)
    rw [e]
    refine (allocText_long g s w hs (by omega)).mono fun e w' hh => ⟨hh.1, ?_⟩
    obtain ⟨_, rfl⟩ := hh
    exact ⟨h, Chg.refl _ _⟩

/-- The parts that numbers tell. -/
def pickW (ws : List Nat) (n : Int) : Nat := if 0 ≤ n ∧ 0 < ws.length then ws.getD (n.toNat % ws.length) 0 else numW (-1)
def bstep (S : HM × List Nat) (a : ActM) : HM × List Nat :=
  match (if a.k = 1 then S.1.allocT a.text else S.1.allocM a.kind a.tag (a.parts.map (pickW S.2))) with
  | some M => (M, S.2 ++ [2 * S.1.now.length])
  | none => S
def buildM (size : Nat) (l : List ActM) : HM × List Nat := l.foldl bstep (HM.new size, [])

theorem row_step {wq wr w3 : World} {v : Value} {k : Nat} {xs : List Value} (hcq : Chg (fun _ => False) wq wr) (hop : wr.ownsRow wq.heap.size 26 1 v k xs) (o : Obj) (hc3 : Chg (fun i => v.ownBlock = some i) (wr.alloc o) w3) : Chg (fun _ => False) wq w3 :=
  (hcq.alloc o).trans hc3 (fun i hi hs => by have := (hop.lt i hs).1; omega)
theorem build_none {w wq wr w2 : World} {B g bn bo bb j : Nat} {M : HM} {v : Value} {words : List Nat} (hch : Chg (fun _ => False) w wq) (hcq : Chg (fun _ => False) wq wr) (hrep : HRep w2 g bn bo bb M)
    (hc2 : Chg (fun k => k = g ∨ k = bn ∨ k = bb) wr w2) (how : wq.ownsRow B 26 1 v words.length (words.map wv)) (l1 : w.heap.size ≤ g) (l2 : w.heap.size ≤ bn) (l4 : w.heap.size ≤ bb) (b1 : g < B) (b2 : bn < B) (b4 : bb < B) (hB : B ≤ wq.heap.size)
    (hwl : words.length ≤ j) (hwx : ∀ x ∈ words, x < 18446744073709551616) :
    HRep w2 g bn bo bb M ∧ w2.ownsRow B 26 1 v words.length (words.map wv) ∧ words.length ≤ j + 1 ∧ (∀ x ∈ words, x < 18446744073709551616) ∧ Chg (fun _ => False) w w2 ∧ B ≤ w2.heap.size := by
  have q1 := hcq.size
  have q2 := hc2.size
  refine ⟨hrep, own_chg (own_chg how hcq (fun _ _ => id)) hc2 (fun k hk hs => ?_), by omega, hwx, (hch.trans' hcq).trans hc2 (fun i hi hs => ?_), by omega⟩
  · have := (how.lt k hk).1
    omega
  · omega
theorem build_some {w wq wr w2 w3 : World} {B g bn bo bb j x : Nat} {M : HM} {v v3 : Value} {words : List Nat} {o : Obj} (hch : Chg (fun _ => False) w wq) (hcq : Chg (fun _ => False) wq wr) (hrep : HRep w2 g bn bo bb M)
    (hc2 : Chg (fun k => k = g ∨ k = bn ∨ k = bb) wr w2) (how : wq.ownsRow B 26 1 v words.length (words.map wv)) (l1 : w.heap.size ≤ g) (l2 : w.heap.size ≤ bn) (l4 : w.heap.size ≤ bb) (b1 : g < B) (b2 : bn < B) (b3 : bo < B) (b4 : bb < B) (hB : B ≤ wq.heap.size)
    (hwl : words.length ≤ j) (hwx : ∀ x ∈ words, x < 18446744073709551616) (hx : x < 18446744073709551616)
    (ho3 : w3.ownsRow B 26 1 v3 (words.length + 1) (words.map wv ++ [wv x])) (hc3 : Chg (fun k => v.ownBlock = some k) (w2.alloc o) w3) :
    HRep w3 g bn bo bb M ∧ w3.ownsRow B 26 1 v3 (words ++ [x]).length ((words ++ [x]).map wv) ∧ (words ++ [x]).length ≤ j + 1 ∧ (∀ y ∈ words ++ [x], y < 18446744073709551616) ∧ Chg (fun _ => False) w w3 ∧ B ≤ w3.heap.size := by
  obtain ⟨_, r2, _, _, r5, r6⟩ := build_none hch hcq hrep hc2 how l1 l2 l4 b1 b2 b4 hB hwl hwx
  have q3 := hc3.size
  rw [size_alloc] at q3
  have hw := r5.size
  have hold : ∀ k, v.ownBlock = some k → B ≤ k := fun k hk => (how.lt k hk).1
  refine ⟨(hrep.chg ((Chg.refl (fun _ => False) w2).alloc o) id id id id).chg hc3 (fun h => ?_) (fun h => ?_) (fun h => ?_) (fun h => ?_), ?_, ?_, ?_, (r5.alloc o).trans hc3 (fun i hi hs => ?_), by omega⟩
  · have := hold _ h; omega
  · have := hold _ h; omega
  · have := hold _ h; omega
  · have := hold _ h; omega
  · simpa using ho3
  · simp; omega
  · intro y hy
    rcases List.mem_append.1 hy with hy | hy
    · exact hwx y hy
    · rw [List.mem_singleton] at hy
      rw [hy]
      exact hx
  · have := hold _ hs
    omega
theorem pickW_lt {words : List Nat} (h : ∀ x ∈ words, x < 18446744073709551616) (n : Int) : pickW words n < 18446744073709551616 := by
  unfold pickW
  split
  · exact getD_lt64 h _
  · exact numW_lt _

theorem build_any (l : List ActM) (n : Nat) (A : Option Addr) (c : Nat) (w : World) (h : RdActs w A l) (hl : l.length ≤ 60) (hs : ∀ a ∈ l, a.small = true) (h1 : 16 ≤ n) (h2 : n ≤ 1048576) :
    Calls Try.prog 28 #[.int .i64 (n : Int), .slice A l.length c] w fun e w' => ∃ g bn bo bb A' c', e = .returned (.tuple #[.pointer (some ⟨g, 0, none⟩), .slice A' (buildM n l).2.length c']) ∧
      HRep w' g bn bo bb (buildM n l).1 ∧ Rd (fun _ => True) w' A' ((buildM n l).2.map wv) ∧ Chg (fun _ => False) w w' := by
  obtain ⟨i0, hi0, hz0, hz1, hz2⟩ := info_parts info51
  obtain ⟨j0, hj0, hy0, hy1, hy2⟩ := info_parts info26
  have hmk : ∀ W, (Instr.makeSlice 33 (.int .i64 1) (.int .i64 1)).run Try.prog W = .ok (.slice (some ⟨W.heap.size, 0, none⟩) 1 1) (W.alloc (.cells (madeCells #[.bool false, .int .i64 0] 2) 51)) := fun W => by
    have := run_make_rowN (P := Try.prog) 33 51 i0 _ Try.underlying33 hi0 hz0 .i64 .i64 1 1 (Nat.le_refl _) (by rw [hz2]; omega) (by omega) W
    rw [hz1] at this
    exact this
  have Hh := hide h
  have Hs := hide hs
  have Hn := hide (new_yes n w h1 h2)
  clear h hs
  go_enter Try.func28, Try.ntmps28
  go_wp2_with (first
    | (go_at_call 14; refine (unhide Hn).mono ?_; rintro e w1 ⟨g, bn, bo, bb, rfl, hrep, hchg, l1, l2, l3, l4⟩))
  generalize hF : buildM n l = F at *
  have HF := hide hF
  have HC1 := hide hchg
  have HR1 := hide hrep
  have b1 := hrep.st.lt
  have b2 := hrep.rn.lt
  have b3 := hrep.ro.lt
  have b4 := hrep.rb.lt
  clear hF hchg hrep hmk
  go_loopw [8, 10] (fun v i wr => ∃ (j : Nat) (M : HM) (words : List Nat), i = .int .i64 j ∧ j ≤ l.length ∧ (l.drop j).foldl bstep (M, words) = F ∧ HRep wr g bn bo bb M ∧ wr.ownsRow w1.heap.size 26 1 v words.length (words.map wv) ∧
      words.length ≤ j ∧ (∀ x ∈ words, x < 18446744073709551616) ∧ Chg (fun _ => False) w wr ∧ w1.heap.size ≤ wr.heap.size) (fun _ i _ => l.length - (intOf i).toNat)
  case atStart =>
    refine ⟨0, HM.new n, [], rfl, Nat.zero_le _, unhide HF, (unhide HR1).chg (S := fun _ => False) ?_ id id id id, ?_, Nat.le_refl _, fun x hx => absurd hx (by simp), ?_, ?_⟩
    · exact ((Chg.refl _ w1).alloc _).alloc _
    · exact (World.ownsRow_made w1 #[] 0 (Nat.le_refl _) (Nat.zero_le _) rfl).alloc _
    · exact ((unhide HC1).alloc _).alloc _
    · simp; omega
  case round =>
    obtain ⟨wq, rfl⟩ : ∃ wq : World, wq = wr := ⟨_, rfl⟩
    obtain ⟨j, M, words, rfl, hj, hfold, hrep, hown, hwl, hwx, hchg, hsz⟩ := hrel
    obtain ⟨Aw, cw, rfl⟩ := own_val hown
    by_cases hlt : j < l.length
    · have ha0 := (unhide Hh).old hchg
      obtain ⟨b, o, rfl, hc⟩ := ha0.flat (by rintro rfl; simp at hlt)
      obtain ⟨v, ha⟩ := hc j _ (List.getElem?_eq_getElem hlt)
      have hsm := (unhide Hs) _ (List.getElem_mem hlt)
      rw [List.drop_eq_getElem_cons hlt, List.foldl_cons] at hfold
      generalize l[j] = a at *
      obtain ⟨pA, pc, rfl, hints⟩ := ha.ints
      obtain ⟨c0, c1, c2, c3, c4, c5, c6, c7, _⟩ := ha
      have hpl : a.parts.length ≤ 20 := by simp [ActM.small] at hsm; exact hsm.1
      have htl : a.text.size ≤ 300 := by simp [ActM.small] at hsm; exact hsm.2
      have HFO := hide hfold
      have HRE := hide hrep
      have HOW := hide hown
      have HWX := hide hwx
      have HCH := hide hchg
      have HIN := hide hints
      clear hfold hrep hown hwx hchg hints ha0 hc hsm
      go_wp2_with fail
      obtain ⟨acs, hacs⟩ : ∃ x : Array Value, x = #[.int .i64 a.k, .int .i64 a.kind, .int .i64 a.tag, .slice pA a.parts.length pc, .string a.text, .int .i64 a.at_, .int .i64 a.by_, .int .i64 a.keep] := ⟨_, rfl⟩
      have hB5 := (Blk.new wq 49 acs).alloc (.cells #[] 26)
      have hC5 : Chg (fun _ => False) wq ((wq.alloc (.cells acs 49)).alloc (.cells #[] 26)) := ((Chg.refl _ wq).alloc _).alloc _
      have hO5 := World.ownsRow_made (base := wq.heap.size) (e := 26) (size := 1) (wq.alloc (.cells acs 49)) #[] 0 (by simp) (Nat.zero_le _) rfl
      rw [size_alloc] at hO5
      rw [← hacs]
      have hS5 : ((wq.alloc (.cells acs 49)).alloc (.cells #[] 26)).heap.size = wq.heap.size + 1 + 1 := by simp
      generalize (wq.alloc (.cells acs 49)).alloc (.cells #[] 26) = w5 at *
      have HB5 := hide hB5
      have HC5 := hide hC5
      have HO5 := hide hO5
      have HAC := hide hacs
      have HS5 := hide hS5
      have HWS := hide (show (Value.slice Aw words.length cw).ownBlock = none ∨ ∃ k, (Value.slice Aw words.length cw).ownBlock = some k ∧ k < wq.heap.size from by
        cases hk : (Value.slice Aw words.length cw).ownBlock with
        | none => exact .inl rfl
        | some k => exact .inr ⟨k, rfl, ((unhide HOW).lt k hk).2⟩)
      clear hB5 hC5 hO5 hacs hS5 c0 c1 c2 c3 c4 c5 c6 c7
      go_loopw [12, 13] (fun p q wR => ∃ k : Nat, q = .int .i64 k ∧ k ≤ a.parts.length ∧ wR.ownsRow wq.heap.size 26 1 p k (((a.parts.take k).map (pickW words)).map wv) ∧ Chg (fun _ => False) wq wR ∧ Blk wR wq.heap.size 49 acs) (fun _ i _ => a.parts.length - (intOf i).toNat)
      case atStart => exact ⟨0, rfl, Nat.zero_le _, unhide HO5, unhide HC5, unhide HB5⟩
      case round =>
        obtain ⟨k, rfl, hk, hown, hchg, hblk⟩ := hrel
        obtain ⟨Ap, cp, rfl⟩ := own_val hown
        have hac := unhide HAC
        have d0 := hblk.cell 0
        have d1 := hblk.cell 1
        have d2 := hblk.cell 2
        have d3 := hblk.cell 3
        have d4 := hblk.cell 4
        rw [hac] at d0 d1 d2 d3 d4
        simp only [List.getElem?_toArray, List.getElem?_cons_zero, List.getElem?_cons_succ] at d0 d1 d2 d3 d4
        have how := own_chg (unhide HOW) hchg (fun _ _ => id)
        have hwb := (unhide HRE).st.lt
        have hsz2 := hchg.size
        by_cases hkl : k < a.parts.length
        · have hrd := (unhide HIN).old hchg
          obtain ⟨pb, po, rfl, _, hcc⟩ := hrd.flat (by intro e; have := congrArg List.length e; rw [List.length_map, List.length_nil] at this; omega)
          have hpk := hcc k _ (by rw [List.getElem?_map, List.getElem?_eq_getElem hkl]; rfl)
          have htake : a.parts.take (k + 1) = a.parts.take k ++ [a.parts[k]] := by rw [List.take_add_one, List.getElem?_eq_getElem hkl]; rfl
          generalize a.parts[k] = x at *
          unfold intl at hpk
          have HTK := hide htake
          have HBL := hide hblk
          have HOP := hide hown
          have HCQ := hide hchg
          have HOW2 := hide how
          clear hcc hrd htake hblk hown hchg how hac
          by_cases hx : 0 ≤ x ∧ 0 < words.length
          · obtain ⟨hx0, hw0⟩ := hx
            obtain ⟨x, rfl⟩ := Int.eq_ofNat_of_zero_le hx0
            have hK : x % words.length < words.length := Nat.mod_lt _ hw0
            obtain ⟨bw, ow, rfl, _, hcw⟩ := (own_rd (unhide HOW2) (by omega)).flat (by intro e; have := congrArg List.length e; rw [List.length_map, List.length_nil] at this; omega)
            have hcell := hcw _ _ (wv_at words hK)
            have hpick : pickW words (x : Int) = words.getD (x % words.length) 0 := by unfold pickW; rw [if_pos ⟨hx0, hw0⟩]; rfl
            have HPK := hide hpick
            have hm : (x : Int) % (words.length : Int) = ((x % words.length : Nat) : Int) := rfl
            have hL0 : ((words.length : Int) == 0) = false := by rw [beq_eq_false_iff_ne]; omega
            have hL1 : decide (0 < (words.length : Int)) = true := decide_eq_true (by omega)
            have hx1 : decide (0 ≤ (x : Int)) = true := decide_eq_true (by omega)
            generalize words.getD (x % words.length) 0 = V at *
            generalize x % words.length = K at *
            clear hcw hpick
            go_wp2_with (at_builtin
                         refine wpList_append_rd _ rfl (.tmp 64) (.tmp 72) 46 rfl wq.heap.size 26 j0 _ 1 8 Try.underlying46 hj0 hy0 hy1 hy2 rfl (by omega) (.slice Ap k cp) k _ rfl ((unhide HOP).alloc _) (· = wr.heap.size) (some ⟨wr.heap.size, 0, none⟩) 1 1 [wv V] rfl rfl (rd_new _ _ 26 [wv V] rfl) (by intro u hu; simp at hu; subst hu; rfl) (by simp only [maxLen]; omega) (by omega) (by simp; omega) ?_
                         intro v3 w3 ho3 hc3 hat
                         have HO3 := hide ho3
                         have HC3 := hide hc3
                         clear ho3 hc3 hat)
            go_roundw
            case rel =>
              refine ⟨k + 1, by go_num, by omega, ?_, ?_, ?_⟩
              · have := unhide HO3
                rw [unhide HTK, List.map_append, List.map_append]
                simp only [List.map_cons, List.map_nil]
                rw [unhide HPK]
                exact this
              · exact row_step (unhide HCQ) (unhide HOP) _ (unhide HC3)
              · exact ((unhide HBL).alloc _).chg (unhide HC3) (own_blk_ne (unhide HOP) (unhide HBL) (by decide))
            case measure => simp [intOf]; omega
          · have hpick : pickW words x = numW (-1) := if_neg hx
            have HPK := hide hpick
            have Hpick := hide (pick_num (-1) none (some ⟨w1.heap.size + 1, 0, none⟩) 0 0 1 1 wr (.inl (by omega)))
            generalize numW (-1) = V at *
            generalize backV (u64n (-1)) = V2 at *
            have hcond : (0 ≤ x ∧ decide (0 ≤ x) = true ∧ decide (0 < (words.length : Int)) = false ∧ ¬ 0 < words.length) ∨ (x < 0 ∧ decide (0 ≤ x) = false) := by
              by_cases h0 : 0 ≤ x
              · exact .inl ⟨h0, decide_eq_true h0, decide_eq_false (fun h => hx ⟨h0, by omega⟩), fun h => hx ⟨h0, h⟩⟩
              · exact .inr ⟨by omega, decide_eq_false h0⟩
            clear hpick hx
            rcases hcond with ⟨hq0, hq1, hq2, hq3⟩ | ⟨hq0, hq1⟩
            all_goals
              go_wp2_with (first
                | (go_at_call 15; refine (unhide Hpick).mono ?_; rintro e w2 ⟨rfl, hc2⟩
                   have HC2 := hide ((unhide HCQ).trans' hc2)
                   have HO2 := hide (own_chg (unhide HOP) hc2 (fun _ _ => id))
                   have HB2 := hide ((unhide HBL).chg hc2 id)
                   have hs2 := hc2.size
                   clear hc2)
                | (at_builtin
                   refine wpList_append_rd _ rfl (.tmp 79) (.tmp 81) 46 rfl wq.heap.size 26 j0 _ 1 8 Try.underlying46 hj0 hy0 hy1 hy2 rfl (by omega) (.slice Ap k cp) k _ rfl (((unhide HO2).alloc _).alloc _) (· = (w2.alloc (.cells #[.bool true, .int .i64 V2] 51)).heap.size) (some ⟨(w2.alloc (.cells #[.bool true, .int .i64 V2] 51)).heap.size, 0, none⟩) 1 1 [wv V] (by rw [size_alloc]; rfl) rfl (rd_new _ _ 26 [wv V] rfl) (by intro u hu; simp at hu; subst hu; rfl) (by simp only [maxLen]; omega) (by omega) (by simp; omega) ?_
                   intro v3 w3 ho3 hc3 hat
                   have HO3 := hide ho3
                   have HC3 := hide hc3
                   clear ho3 hc3 hat))
              go_roundw
              case rel =>
                refine ⟨k + 1, by go_num, by omega, ?_, ?_, ?_⟩
                · have := unhide HO3
                  rw [unhide HTK, List.map_append, List.map_append]
                  simp only [List.map_cons, List.map_nil]
                  rw [unhide HPK]
                  exact this
                · exact row_step ((unhide HC2).alloc _) ((unhide HO2).alloc _) _ (unhide HC3)
                · exact (((unhide HB2).alloc _).alloc _).chg (unhide HC3) (own_blk_ne (unhide HO2) (unhide HB2) (by decide))
              case measure => simp [intOf]; omega
        · obtain rfl : k = a.parts.length := by omega
          rw [List.take_length] at hown
          have hrep := (unhide HRE).chg hchg id id id id
          have hpl2 : (a.parts.map (pickW words)).length ≤ 1048576 := by rw [List.length_map]; omega
          have hall := alloc_all M g bn bo bb cp Ap a.kind a.tag (a.parts.map (pickW words)) (fun k => (Value.slice Ap a.parts.length cp).ownBlock = some k) wr hrep (fun k hk => by have := (hown.lt k hk).1; omega) (own_rd hown (by omega))
            (fun x hx => by obtain ⟨y, _, rfl⟩ := List.mem_map.1 hx; exact pickW_lt (unhide HWX) y) hpl2
          rw [List.length_map] at hall
          have hallT := allocT_all M g bn bo bb a.text wr hrep (by omega)
          have hbs : bstep (M, words) a = match (if a.k = 1 then M.allocT a.text else M.allocM a.kind a.tag (a.parts.map (pickW words))) with
            | some M' => (M', words ++ [2 * M.now.length])
            | none => (M, words) := rfl
          have hml : 2 * M.now.length < 18446744073709551616 := by have := hrep.ok.n; have := hrep.ok.s; omega
          generalize M.allocM a.kind a.tag (a.parts.map (pickW words)) = O1 at *
          generalize M.allocT a.text = O2 at *
          have HCQ := hide hchg
          have HBS := hide hbs
          by_cases hk1 : a.k = 1
          · rw [if_pos hk1] at hbs
            have hkb : (a.k == 1) = true := by rw [hk1]; rfl
            cases O2 with
            | none =>
              have HBS := hide hbs
              have HT := hide hallT
              clear hbs hallT hall hown hrep hblk hchg how
              go_wp2_with (go_at_call 18; refine (unhide HT).mono ?_; rintro e w2 ⟨rfl, hr2, hc2⟩; have HR2 := hide hr2; have HC2 := hide hc2; clear hr2 hc2)
              go_roundw
              case rel =>
                refine ⟨j + 1, M, words, by go_num, by omega, ?_, build_none (unhide HCH) (unhide HCQ) (unhide HR2) (unhide HC2) (unhide HOW) l1 l2 l4 b1 b2 b4 hsz hwl (unhide HWX)⟩
                rw [← unhide HFO, unhide HBS]
              case measure => simp [intOf]; omega
            | some M' =>
              have HBS := hide hbs
              have HT := hide hallT
              clear hbs hallT hall hown hrep hblk hchg how
              go_wp2_with (first
                | (go_at_call 18; refine (unhide HT).mono ?_; rintro e w2 ⟨rfl, hr2, hc2⟩
                   have HO2 := hide (own_chg (own_chg (unhide HOW) (unhide HCQ) (fun _ _ => id)) hc2 (fun k hk hs => by have := ((unhide HOW).lt k hk).1; omega))
                   have hs2 := hc2.size
                   have HR2 := hide hr2
                   have HC2 := hide hc2
                   clear hr2 hc2)
                | (at_builtin
                   refine wpList_append_rd _ rfl (.tmp 94) (.tmp 96) 46 rfl w1.heap.size 26 j0 _ 1 8 Try.underlying46 hj0 hy0 hy1 hy2 rfl (by omega) (.slice Aw words.length cw) words.length _ rfl ((unhide HO2).alloc _) (· = w2.heap.size) (some ⟨w2.heap.size, 0, none⟩) 1 1 [wv (2 * M.now.length)] rfl rfl (rd_new _ _ 26 [wv (2 * M.now.length)] rfl) (by intro u hu; simp at hu; subst hu; rfl) (by simp only [maxLen]; omega) (by omega) (by simp; omega) ?_
                   intro v3 w3 ho3 hc3 hat
                   have HO3 := hide ho3
                   have HC3 := hide hc3
                   clear ho3 hc3 hat))
              go_roundw
              case rel =>
                refine ⟨j + 1, M', words ++ [2 * M.now.length], by go_num, by omega, ?_, build_some (unhide HCH) (unhide HCQ) (unhide HR2) (unhide HC2) (unhide HOW) l1 l2 l4 b1 b2 b3 b4 hsz hwl (unhide HWX) hml (unhide HO3) (unhide HC3)⟩
                rw [← unhide HFO, unhide HBS]
              case measure => simp [intOf]; omega
          · rw [if_neg hk1] at hbs
            have hkb : (a.k == 1) = false := by rw [beq_eq_false_iff_ne]; exact hk1
            have hallT := hall
            cases O1 with
            | none =>
              have HBS := hide hbs
              have HT := hide hallT
              clear hbs hallT hall hown hrep hblk hchg how
              go_wp2_with (go_at_call 16; refine (unhide HT).mono ?_; rintro e w2 ⟨rfl, hr2, hc2⟩; have HR2 := hide hr2; have HC2 := hide hc2; clear hr2 hc2)
              go_roundw
              case rel =>
                refine ⟨j + 1, M, words, by go_num, by omega, ?_, build_none (unhide HCH) (unhide HCQ) (unhide HR2) (unhide HC2) (unhide HOW) l1 l2 l4 b1 b2 b4 hsz hwl (unhide HWX)⟩
                rw [← unhide HFO, unhide HBS]
              case measure => simp [intOf]; omega
            | some M' =>
              have HBS := hide hbs
              have HT := hide hallT
              clear hbs hallT hall hown hrep hblk hchg how
              go_wp2_with (first
                | (go_at_call 16; refine (unhide HT).mono ?_; rintro e w2 ⟨rfl, hr2, hc2⟩
                   have HO2 := hide (own_chg (own_chg (unhide HOW) (unhide HCQ) (fun _ _ => id)) hc2 (fun k hk hs => by have := ((unhide HOW).lt k hk).1; omega))
                   have hs2 := hc2.size
                   have HR2 := hide hr2
                   have HC2 := hide hc2
                   clear hr2 hc2)
                | (at_builtin
                   refine wpList_append_rd _ rfl (.tmp 109) (.tmp 111) 46 rfl w1.heap.size 26 j0 _ 1 8 Try.underlying46 hj0 hy0 hy1 hy2 rfl (by omega) (.slice Aw words.length cw) words.length _ rfl ((unhide HO2).alloc _) (· = w2.heap.size) (some ⟨w2.heap.size, 0, none⟩) 1 1 [wv (2 * M.now.length)] rfl rfl (rd_new _ _ 26 [wv (2 * M.now.length)] rfl) (by intro u hu; simp at hu; subst hu; rfl) (by simp only [maxLen]; omega) (by omega) (by simp; omega) ?_
                   intro v3 w3 ho3 hc3 hat
                   have HO3 := hide ho3
                   have HC3 := hide hc3
                   clear ho3 hc3 hat))
              go_roundw
              case rel =>
                refine ⟨j + 1, M', words ++ [2 * M.now.length], by go_num, by omega, ?_, build_some (unhide HCH) (unhide HCQ) (unhide HR2) (unhide HC2) (unhide HOW) l1 l2 l4 b1 b2 b3 b4 hsz hwl (unhide HWX) hml (unhide HO3) (unhide HC3)⟩
                rw [← unhide HFO, unhide HBS]
              case measure => simp [intOf]; omega
    · obtain rfl : j = l.length := by omega
      rw [List.drop_length] at hfold
      simp only [List.foldl_nil] at hfold
      subst hfold
      have HRE := hide hrep
      have HOW := hide (own_rd hown (by omega))
      have HCH := hide hchg
      clear hrep hown hwx hchg
      go_wp2_with fail
      go_ret2
      refine ⟨g, bn, bo, bb, Aw, cw, ?_⟩
      rw [unhide HF]
      exact ⟨rfl, unhide HRE, (unhide HOW).mono (fun _ _ => trivial), unhide HCH⟩
end Go.Proofs.Ytlgkgglecgdkgaa
