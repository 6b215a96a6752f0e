/-
  Layer 19: the document's side: how things stand everywhere: the walk. Layer 19: the document's side: may it be run? Layer 19: whether an image may be run, and how things stand: behind the copies. Layer 19: whether an image may be run, and how things stand, is as the document says: the walk.
-/
import Derived.Test.YtejkaalhjocmgaaDoorRc
import Derived.Deep.LoopGhost
import Derived.Deep.QuietTactic
import Derived.BigQuiet
import Derived.Deep.RegionHeld3
import Derived.Test.YtejkaalhjocmgaaDoorYe
import Derived.Test.YtejkaalhjocmgaaDoorZa
namespace Go.Proofs.YtejkaalhjocmgaaDoor
open Go.RowKit
set_option maxHeartbeats 6000000
set_option maxRecDepth 1000000
def StOut (m : Im) (w : World) (e : Ending) (w' : World) : Prop :=
  (¬ Good conB m ∧ e = .returned (.tuple #[.slice none 0 0, .bool false]) ∧ Chg (fun _ => False) w w') ∨
  (Good conB m ∧ ∃ (b : Nat) (cs : Array Value) (all : List (Option RSt)), e = .returned (.tuple #[.slice (some ⟨b, 0, none⟩) m.code.length m.code.length, .bool true]) ∧ AllRep (fun _ => True) w' b cs all ∧ all.length = m.code.length ∧ (∀ (k : Nat) (s : RSt), all[k]? = some (some s) ↔ Reach conB m k s) ∧ Chg (fun _ => False) w w')
theorem states_none (m : Im) (pA cA : Option Addr) (pc cc : Nat) (w : World) (hn : m.code.length = 0) :
    Calls Tryd.prog 14 #[.agg #[.slice pA m.pool.length pc, .slice cA m.code.length cc]] w fun e w' => StOut m w e w' := by
  have hg := not_good_none (con := conB) hn
  have hmk : ∀ W, (Instr.makeSlice 33 (.int .i64 ((0 : Nat) : Int)) (.int .i64 ((0 : Nat) : Int))).run Tryd.prog W = .ok (.slice (some ⟨W.heap.size, 0, none⟩) 0 0) (W.alloc (.cells (madeCells #[.bool false, .int .i64 0, .int .i64 0, .int .i64 0, .slice none 0 0] 0) 37)) := fun W => by
    obtain ⟨i37, hi37, hz37, hs37, hb37⟩ := info_parts info37
    have := run_make (P := Tryd.prog) W 33 37 i37 _ Tryd.underlying33 hi37 hz37 .i64 .i64 0 0 (by omega) (Int.le_refl _) (by rw [hb37]; omega) (by omega)
    simp at this
    exact this
  rw [hn]
  have HG := hide hg
  clear hg
  generalize madeCells #[.bool false, .int .i64 0, .int .i64 0, .int .i64 0, .slice none 0 0] 0 = zc at *
  have hmk2 : ∀ W, (Instr.makeSlice 33 (.int .i64 0) (.int .i64 0)).run Tryd.prog W = .ok (.slice (some ⟨W.heap.size, 0, none⟩) 0 0) (W.alloc (.cells zc 37)) := hmk
  clear hmk
  have H1 := hide (((Chg.refl (fun _ => False) w).alloc (.cells #[.slice pA m.pool.length pc, .slice cA 0 cc] 25)).alloc (.cells zc 37))
  go_enter Tryd.func14, Tryd.ntmps14
  go_wp2_with fail
  go_ret2
  exact .inl ⟨unhide HG, rfl, unhide H1⟩
/-- What holds ahead of each round. -/
def StRel (m : Im) (w : World) (pA cA : Option Addr) (pc cc bx b : Nat) (all : List (Option RSt)) (wr : World) : Prop :=
  Blk wr bx 25 #[.slice pA m.pool.length pc, .slice cA m.code.length cc] ∧ (∃ cs, AllRep (fun t => t ≠ b) wr b cs all) ∧ Chg (fun _ => False) w wr ∧ w.heap.size ≤ b ∧ b < wr.heap.size ∧ bx ≠ b
theorem StRel.chg {m : Im} {w wr wz : World} {pA cA : Option Addr} {pc cc bx b : Nat} {all : List (Option RSt)} (h : StRel m w pA cA pc cc bx b all wr) (hc : Chg (fun _ => False) wr wz) : StRel m w pA cA pc cc bx b all wz := by
  obtain ⟨h1, ⟨cs, h2⟩, h3, h4, h5, h6⟩ := h
  exact ⟨h1.chg hc id, ⟨cs, h2.chg hc id (fun _ _ _ => id)⟩, h3.trans' hc, h4, Nat.lt_of_lt_of_le h5 hc.size, h6⟩
theorem nextL_len (m : Im) (k : Nat) (s : RSt) : (nextL conB m k s).length ≤ 4 := by
  have h : ∀ (c : Prop) [Decidable c] (x : Nat × RSt), (if c then [x] else []).length ≤ 1 := fun c _ x => by split <;> simp
  unfold nextL
  dsimp only
  simp only [List.length_append]
  exact Nat.le_trans (Nat.add_le_add (Nat.add_le_add (Nat.add_le_add (h _ _) (h _ _)) (h _ _)) (h _ _)) (by omega)
/-- A place is stored. -/
theorem StRel.store {m : Im} {w wr W : World} {pA cA : Option Addr} {pc cc bx b : Nat} {all : List (Option RSt)} (h : StRel m w pA cA pc cc bx b all wr) (hc : Chg (fun _ => False) wr W) {t : Nat} {s : RSt} {tv : Value} (ht : t < all.length) (hx : RdI (fun t => t ≠ b) wr tv s.tries ∧ CapOk tv) :
    StRel m w pA cA pc cc bx b (all.set t (some s)) (((((W.setCell ⟨b, t * 5, none⟩ (.bool true)).setCell ⟨b, t * 5 + 1, none⟩ (.int .i64 s.of)).setCell ⟨b, t * 5 + 2, none⟩ (.int .i64 s.has)).setCell ⟨b, t * 5 + 3, none⟩ (.int .i64 s.height)).setCell ⟨b, t * 5 + 4, none⟩ tv).drew ∧
    Chg (fun i => i = b) wr (((((W.setCell ⟨b, t * 5, none⟩ (.bool true)).setCell ⟨b, t * 5 + 1, none⟩ (.int .i64 s.of)).setCell ⟨b, t * 5 + 2, none⟩ (.int .i64 s.has)).setCell ⟨b, t * 5 + 3, none⟩ (.int .i64 s.height)).setCell ⟨b, t * 5 + 4, none⟩ tv).drew := by
  have hC := (((((hc.mono (S' := fun i => i = b) (fun _ _ h => h.elim)).setCell (p := ⟨b, t * 5, none⟩) (fun _ => rfl) (.bool true)).setCell (p := ⟨b, t * 5 + 1, none⟩) (fun _ => rfl) (.int .i64 s.of)).setCell (p := ⟨b, t * 5 + 2, none⟩) (fun _ => rfl) (.int .i64 s.has)).setCell (p := ⟨b, t * 5 + 3, none⟩) (fun _ => rfl) (.int .i64 s.height)).setCell (p := ⟨b, t * 5 + 4, none⟩) (fun _ => rfl) tv
  have hC := hC.drew
  obtain ⟨h1, ⟨cs, h2⟩, h3, h4, h5, h6⟩ := h
  exact ⟨⟨h1.chg hC h6, ⟨_, ((h2.chg hc id (fun _ _ _ => id)).set5 ht (hx.1.chg hc (fun _ _ _ => id)) hx.2 (fun h => h rfl)).chg ((Chg.refl (fun _ => False) _).drew) id (fun _ _ _ => id)⟩, h3.trans hC (fun i hi e => by have e : i = b := e; omega), h4, Nat.lt_of_lt_of_le h5 hC.size, h6⟩, hC⟩
theorem row_at {T : Nat → Prop} {w : World} {A : Option Addr} {l : List (Nat × RSt × Value)} (h : Rd T w A (l.flatMap trv)) (hn : l ≠ []) : ∃ b o, A = some ⟨b, o, none⟩ ∧ T b ∧ ∀ k x, l[k]? = some x → w.cell? ⟨b, o + k * 6, none⟩ = some (.int .i64 (x.1 : Int)) ∧ w.cell? ⟨b, o + k * 6 + 1, none⟩ = some (.bool true) ∧ w.cell? ⟨b, o + k * 6 + 2, none⟩ = some (.int .i64 x.2.1.of) ∧ w.cell? ⟨b, o + k * 6 + 3, none⟩ = some (.int .i64 x.2.1.has) ∧ w.cell? ⟨b, o + k * 6 + 4, none⟩ = some (.int .i64 x.2.1.height) ∧ w.cell? ⟨b, o + k * 6 + 5, none⟩ = some x.2.2 := by
  obtain ⟨b, o, hA, hT, hc⟩ := h.flat (by
    intro e
    rcases l with _ | ⟨x, l⟩
    · exact hn rfl
    · simp [trv] at e)
  refine ⟨b, o, hA, hT, fun k i hi => ?_⟩
  have hg := fun j (hj : j < 6) => flat_get trv 6 (fun _ => rfl) l k j i hi hj
  exact ⟨hc _ _ (hg 0 (by omega)), by rw [Nat.add_assoc]; exact hc _ _ (hg 1 (by omega)), by rw [Nat.add_assoc]; exact hc _ _ (hg 2 (by omega)), by rw [Nat.add_assoc]; exact hc _ _ (hg 3 (by omega)), by rw [Nat.add_assoc]; exact hc _ _ (hg 4 (by omega)), by rw [Nat.add_assoc]; exact hc _ _ (hg 5 (by omega))⟩
theorem states_some (m : Im) (pA cA : Option Addr) (pc cc : Nat) (T0 T1 : Nat → Prop) (w : World) (hp : Rd T0 w pA (m.pool.flatMap cstv)) (hc : Rd T1 w cA (m.code.flatMap insv)) (hpn : m.pool.length ≤ 100000) (hcn : m.code.length ≤ 900) (px : ∀ x ∈ m.pool, x.text.size ≤ 9223372036854775807) (ok : CodeOk m) (hn : 0 < m.code.length) :
    Calls Tryd.prog 14 #[.agg #[.slice pA m.pool.length pc, .slice cA m.code.length cc]] w fun e w' => StOut m w e w' := by
  obtain ⟨zc, hzs, hzc, hmk⟩ : ∃ zc : Array Value, zc.size = m.code.length * 5 ∧ (∀ k j, k < m.code.length → j < 5 → zc[k * 5 + j]? = zero5[j]?) ∧ ∀ W, (Instr.makeSlice 33 (.int .i64 (m.code.length : Int)) (.int .i64 (m.code.length : Int))).run Tryd.prog W = .ok (.slice (some ⟨W.heap.size, 0, none⟩) m.code.length m.code.length) (W.alloc (.cells zc 37)) := by
    refine ⟨madeCells #[.bool false, .int .i64 0, .int .i64 0, .int .i64 0, .slice none 0 0] (m.code.length * 5), by simp [madeCells], fun k j hk hj => made37_at m.code.length k j hk hj, fun W => ?_⟩
    obtain ⟨i37, hi37, hz37, hs37, hb37⟩ := info_parts info37
    have := run_make (P := Tryd.prog) W 33 37 i37 _ Tryd.underlying33 hi37 hz37 .i64 .i64 (m.code.length : Int) (m.code.length : Int) (by omega) (Int.le_refl _) (by rw [hb37]; omega) (by omega)
    simp at this
    rw [hs37] at this
    exact this
  have n0 : ((m.code.length : Int) == 0) = false := beq_eq_false_iff_ne.2 (by omega)
  have hW : Chg (fun _ => False) w (((((((w.alloc (.cells #[.slice pA m.pool.length pc, .slice cA m.code.length cc] 25)).alloc (.cells zc 37)).setCell ⟨w.heap.size + 1, 0, none⟩ (.bool true)).setCell ⟨w.heap.size + 1, 1, none⟩ (.int .i64 (-1))).setCell ⟨w.heap.size + 1, 2, none⟩ (.int .i64 0)).setCell ⟨w.heap.size + 1, 3, none⟩ (.int .i64 0)).setCell ⟨w.heap.size + 1, 4, none⟩ (.slice none 0 0)) := by
    have h0 : Chg (fun _ => False) w ((w.alloc (.cells #[.slice pA m.pool.length pc, .slice cA m.code.length cc] 25)).alloc (.cells zc 37)) := ((Chg.refl _ w).alloc _).alloc _
    have hst : ∀ (W : World) (j : Nat) (v : Value), Chg (fun _ => False) w W → Chg (fun _ => False) w (W.setCell ⟨w.heap.size + 1, j, none⟩ v) := fun W j v h => h.setCell (fun h => absurd h (by show ¬ (w.heap.size + 1 < w.heap.size); omega)) v
    exact hst _ _ _ (hst _ _ _ (hst _ _ _ (hst _ _ _ (hst _ _ _ h0))))
  have b0 : Blk ((w.alloc (.cells #[.slice pA m.pool.length pc, .slice cA m.code.length cc] 25)).alloc (.cells zc 37)) w.heap.size 25 #[.slice pA m.pool.length pc, .slice cA m.code.length cc] := (Blk.new w _ _).alloc _
  have b1 : Blk (((((((w.alloc (.cells #[.slice pA m.pool.length pc, .slice cA m.code.length cc] 25)).alloc (.cells zc 37)).setCell ⟨w.heap.size + 1, 0, none⟩ (.bool true)).setCell ⟨w.heap.size + 1, 1, none⟩ (.int .i64 (-1))).setCell ⟨w.heap.size + 1, 2, none⟩ (.int .i64 0)).setCell ⟨w.heap.size + 1, 3, none⟩ (.int .i64 0)).setCell ⟨w.heap.size + 1, 4, none⟩ (.slice none 0 0)) w.heap.size 25 #[.slice pA m.pool.length pc, .slice cA m.code.length cc] := b0.chg ((((((Chg.refl (fun i => i = w.heap.size + 1) ((w.alloc (.cells #[.slice pA m.pool.length pc, .slice cA m.code.length cc] 25)).alloc (.cells zc 37))).setCell (fun _ => rfl) _).setCell (fun _ => rfl) _).setCell (fun _ => rfl) _).setCell (fun _ => rfl) _).setCell (fun _ => rfl) _) (by omega)
  have hA0 : AllRep (fun t => t ≠ w.heap.size + 1) ((w.alloc (.cells #[.slice pA m.pool.length pc, .slice cA m.code.length cc] 25)).alloc (.cells zc 37)) (w.heap.size + 1) zc (List.replicate m.code.length none) := AllRep.zero _ (Blk.new_at _ _ _ _ (by simp)) hzs hzc
  have hA := hA0.set5 (s := ⟨-1, 0, 0, []⟩) (tv := .slice none 0 0) (k := 0) (by rw [List.length_replicate]; exact hn) (RdI.nil_ _ _) CapOk.nil_ (fun h => h rfl)
  simp only [Nat.zero_mul, Nat.zero_add] at hA
  have hl0 : (List.replicate m.code.length (none : Option RSt)).set 0 (some ⟨-1, 0, 0, []⟩) = some ⟨-1, 0, 0, []⟩ :: List.replicate (m.code.length - 1) none := by
    obtain ⟨q, hq⟩ : ∃ q, m.code.length = q + 1 := ⟨m.code.length - 1, by omega⟩
    rw [hq]
    rfl
  rw [hl0] at hA
  have x1 := b0.cell 1
  have xw := (Blk.new w 25 #[.slice pA m.pool.length pc, .slice cA m.code.length cc]).cell 1
  simp only [List.getElem?_toArray, List.getElem?_cons_zero, List.getElem?_cons_succ] at x1 xw
  have HREL := hide (show StRel m w pA cA pc cc w.heap.size (w.heap.size + 1) (some ⟨-1, 0, 0, []⟩ :: List.replicate (m.code.length - 1) none) (((((((w.alloc (.cells #[.slice pA m.pool.length pc, .slice cA m.code.length cc] 25)).alloc (.cells zc 37)).setCell ⟨w.heap.size + 1, 0, none⟩ (.bool true)).setCell ⟨w.heap.size + 1, 1, none⟩ (.int .i64 (-1))).setCell ⟨w.heap.size + 1, 2, none⟩ (.int .i64 0)).setCell ⟨w.heap.size + 1, 3, none⟩ (.int .i64 0)).setCell ⟨w.heap.size + 1, 4, none⟩ (.slice none 0 0)) from ⟨b1, ⟨_, hA⟩, hW, by omega, by have := hA.blk.lt; omega, by omega⟩)
  have HIN := hide (RInv.one (con := conB) hn)
  have HP := hide hp
  have HCD := hide hc
  have HOK := hide ok
  have hn0 : (0 : Int) < (m.code.length : Int) := by omega
  have y0 := hA0.blk.cell' (hzc 0 0 hn (by omega))
  have y1 := hA0.blk.cell' (hzc 0 1 hn (by omega))
  have y2 := hA0.blk.cell' (hzc 0 2 hn (by omega))
  have y3 := hA0.blk.cell' (hzc 0 3 hn (by omega))
  have y4 := hA0.blk.cell' (hzc 0 4 hn (by omega))
  simp only [Nat.zero_mul, Nat.zero_add] at y0 y1 y2 y3 y4
  have f0 := hA0.blk.frozen 0
  have f1 := hA0.blk.frozen 1
  have f2 := hA0.blk.frozen 2
  have f3 := hA0.blk.frozen 3
  have f4 := hA0.blk.frozen 4
  clear b0 b1 hA hW hA0 hl0 hzs hzc hp hc ok
  go_enter Tryd.func14, Tryd.ntmps14
  go_upto_region 4 with fail
  generalize ((w.alloc (.cells #[.slice pA m.pool.length pc, .slice cA m.code.length cc] 25)).alloc (.cells zc 37)) = W at *
  clear xw
  go_upto_region 5 with fail
  clear y0 y1 y2 y3 y4 f0 f1 f2 f3 f4 x1
  generalize (((((W.setCell ⟨w.heap.size + 1, 0, none⟩ (.bool true)).setCell ⟨w.heap.size + 1, 1, none⟩ (.int .i64 (-1))).setCell ⟨w.heap.size + 1, 2, none⟩ (.int .i64 0)).setCell ⟨w.heap.size + 1, 3, none⟩ (.int .i64 0)).setCell ⟨w.heap.size + 1, 4, none⟩ (.slice none 0 0)) = W1 at *
  generalize w.heap.size + 1 = b at *
  generalize w.heap.size = bx at *
  go_wp2_with fail
  go_loopg [5] (m.code.length + 1) (fun k v wr => ∃ (new : Bool) (all : List (Option RSt)), v = .bool new ∧ StRel m w pA cA pc cc bx b all wr ∧ ((new = true ∧ RInv conB m all ∧ m.code.length + 1 - cnt all ≤ k) ∨ (new = false ∧ ∃ c0, RPass conB m c0 all false m.code.length)))
  case atStart => exact ⟨true, _, rfl, unhide HREL, .inl ⟨rfl, unhide HIN, by omega⟩⟩
  case round =>
    obtain ⟨wq, rfl⟩ : ∃ wq : World, wq = wr := ⟨_, rfl⟩
    obtain ⟨new, all, rfl, hst, hor⟩ := hrel
    rcases hor with ⟨rfl, hinv, hms⟩ | ⟨rfl, c0, hpass⟩
    · have HST := hide hst
      have HI := hide hinv
      have HMS := hide hms
      have HPS := hide (RPass.start hinv)
      generalize hc0 : cnt all = c0 at *
      have HC0 := hide hc0
      clear hst hinv hms hc0 HREL HIN
      go_wp2_with fail
      go_loopw [5,6] (fun v i wr => ∃ (new : Bool) (all : List (Option RSt)) (k : Nat), v = .bool new ∧ i = .int .i64 (k : Int) ∧ k ≤ m.code.length ∧ StRel m w pA cA pc cc bx b all wr ∧ RPass conB m c0 all new k) (fun _ i _ => m.code.length - (intOf i).toNat)
      case atStart => exact ⟨false, all, 0, rfl, rfl, Nat.zero_le _, unhide HST, unhide HPS⟩
      case round =>
        obtain ⟨wq, rfl⟩ : ∃ wq : World, wq = wr := ⟨_, rfl⟩
        obtain ⟨new, al, k, rfl, rfl, hkn, hst, hps⟩ := hrel
        by_cases hk : k < m.code.length
        · have hki : (k : Int) < (m.code.length : Int) := by omega
          obtain ⟨hbx, ⟨cs, hal⟩, hch, hbw, hbl, hxb⟩ := hst
          have hkl : k < al.length := by rw [hps.inv.len]; exact hk
          obtain ⟨o, s, tA, tc, ho, hos, a0, a1, a2, a3, a4, htr, hcap⟩ := hal.any hkl
          have x0 := hbx.cell 0
          have x1 := hbx.cell 1
          simp only [List.getElem?_toArray, List.getElem?_cons_zero, List.getElem?_cons_succ] at x0 x1
          have q0 := hal.blk.cell' a0
          have q1 := hal.blk.cell' a1
          have q2 := hal.blk.cell' a2
          have q3 := hal.blk.cell' a3
          have q4 := hal.blk.cell' a4
          have hxl := hat_lt x0
          have HBX := hide hbx
          have HAL := hide hal
          have HCH := hide hch
          have HPS2 := hide hps
          have HBW := hide hbw
          rcases hos with rfl | rfl
          · have HPN := hide (hps.none_ ho)
            clear hbx hal hch hps a0 a1 a2 a3 a4 htr hcap ho hbw
            simp only [Option.isSome_none] at q0
            go_wp2_with fail
            go_roundw
            case rel => exact ⟨new, al, k + 1, rfl, by go_num, by omega, ⟨unhide HBX, ⟨cs, unhide HAL⟩, unhide HCH, unhide HBW, hbl, hxb⟩, unhide HPN⟩
            case measure => simp [intOf]; omega
          · have hwf := hps.inv.wf k s ho
            have hcl := cnt_le al
            rw [hps.inv.len] at hcl
            have HNX := hide (fun (W : World) (hW : Chg (fun _ => False) wq W) => next_any m pA cA pc cc T0 T1 (fun t => t ≠ b) W ((unhide HP).chg (hch.trans' hW) (fun _ _ _ => id)) ((unhide HCD).chg (hch.trans' hW) (fun _ _ _ => id)) hpn hcn px (unhide HOK) k hk s (.slice tA s.tries.length tc) (htr.chg hW (fun _ _ _ => id)) hcap (by have := hwf.tl; omega) ⟨hwf.lo, by have := hwf.hi; omega⟩)
            have KSW := hide (show ∀ W', Chg (fun _ => False) wq W' → (W'.cell? ⟨bx, 0, none⟩ = some (.slice pA m.pool.length pc) ∧ W'.cell? ⟨bx, 1, none⟩ = some (.slice cA m.code.length cc) ∧ W'.cell? ⟨b, k * 5, none⟩ = some (.bool true) ∧ W'.cell? ⟨b, k * 5 + 1, none⟩ = some (.int .i64 s.of) ∧ W'.cell? ⟨b, k * 5 + 2, none⟩ = some (.int .i64 s.has) ∧ W'.cell? ⟨b, k * 5 + 3, none⟩ = some (.int .i64 s.height) ∧ W'.cell? ⟨b, k * 5 + 4, none⟩ = some (.slice tA s.tries.length tc)) from fun W' h => ⟨(h.cell (p := ⟨bx, 0, none⟩) hxl id).trans x0, (h.cell (p := ⟨bx, 1, none⟩) hxl id).trans x1, (h.cell (p := ⟨b, k * 5, none⟩) hbl id).trans q0, (h.cell (p := ⟨b, k * 5 + 1, none⟩) hbl id).trans q1, (h.cell (p := ⟨b, k * 5 + 2, none⟩) hbl id).trans q2, (h.cell (p := ⟨b, k * 5 + 3, none⟩) hbl id).trans q3, (h.cell (p := ⟨b, k * 5 + 4, none⟩) hbl id).trans q4⟩)
            have HO := hide ho
            have HCW := hide ((Chg.refl (fun _ => False) wq).drew)
            simp only [Option.isSome_some] at q0
            have HKK := hide (unhide KSW _ (unhide HCW))
            clear hbx hal hch hps a0 a1 a2 a3 a4 htr hcap ho hbw hwf hcl
            go_upto_region 12 with fail
            by_cases hok : nextOk conB m k s = true
            · have HN2 := hide (show ∀ (W : World), Chg (fun _ => False) wq W → Calls Tryd.prog 24 #[.agg #[.slice pA m.pool.length pc, .slice cA m.code.length cc], .int .i64 (k : Int), .agg #[.bool true, .int .i64 s.of, .int .i64 s.has, .int .i64 s.height, .slice tA s.tries.length tc]] W fun e w' => ∃ (A : Option Addr) (c : Nat) (Lt : List (Nat × RSt × Value)), e = .returned (.tuple #[.slice A Lt.length c, .bool true]) ∧ Lt.map (fun x => (x.1, x.2.1)) = nextL conB m k s ∧ Rd (fun t => t ≠ b) w' A (Lt.flatMap trv) ∧ (∀ x ∈ Lt, RdI (fun t => t ≠ b) w' x.2.2 x.2.1.tries ∧ CapOk x.2.2) ∧ Chg (fun _ => False) W w' from fun W hW => (unhide HNX W hW).mono (by
                have hsz := hW.size
                rintro e w' (⟨_, v, rfl, ⟨A, c, Lt, hmp, rfl, hrd, hall⟩, hch⟩ | ⟨h, _⟩)
                · exact ⟨A, c, Lt, rfl, hmp, hrd.mono (fun t ht => by omega), fun x hx => ⟨(hall x hx).1.mono (fun t ht => by omega), (hall x hx).2⟩, hch⟩
                · rw [hok] at h
                  cases h))
              have HRS := hide ((unhide HPS2).step (unhide HO))
              have HOK3 := hide hok
              clear hok HNX
              refine wp_region_noPanic ?_
              go_region_held3 (fun W' => W'.cell? ⟨bx, 0, none⟩ = some (.slice pA m.pool.length pc) ∧ W'.cell? ⟨bx, 1, none⟩ = some (.slice cA m.code.length cc) ∧ W'.cell? ⟨b, k * 5, none⟩ = some (.bool true) ∧ W'.cell? ⟨b, k * 5 + 1, none⟩ = some (.int .i64 s.of) ∧ W'.cell? ⟨b, k * 5 + 2, none⟩ = some (.int .i64 s.has) ∧ W'.cell? ⟨b, k * 5 + 3, none⟩ = some (.int .i64 s.height) ∧ W'.cell? ⟨b, k * 5 + 4, none⟩ = some (.slice tA s.tries.length tc)) (first | exact unhide HKK | go_keep) (first | (go_at_call 24; (with_reducible refine (unhide HN2 _ (unhide HCW)).mono ?_); rintro e wz ⟨A, c, Lt, rfl, hmp, hrd, hall, hch⟩; have HN_ := hide ((unhide HCW).trans' hch); clear HCW; have HCW := HN_; clear HN_; have HKK := hide (unhide KSW _ (unhide HCW)); have HMP := hide hmp; have HRD := hide hrd; have HALL := hide hall; clear hch hmp hrd hall))
              refine NoPanic.normal ?_
              try dsimp only
              go_wp2_with fail
              have HSTZ := hide (StRel.chg (show StRel m w pA cA pc cc bx b al wq from ⟨unhide HBX, ⟨cs, unhide HAL⟩, unhide HCH, unhide HBW, hbl, hxb⟩) (unhide HCW))
              clear HBX HAL HCH HPS2 KSW HKK HCW HN2 q0 q1 q2 q3 q4 x0 x1 hxl
              go_loopw [5,9] (fun v i wr => ∃ (new : Bool) (al : List (Option RSt)) (j : Nat), v = .bool new ∧ i = .int .i64 (j : Int) ∧ j ≤ Lt.length ∧ StRel m w pA cA pc cc bx b al wr ∧ RStep conB m c0 al new k s j ∧ Rd (fun t => t ≠ b) wr A (Lt.flatMap trv) ∧ ∀ x ∈ Lt, RdI (fun t => t ≠ b) wr x.2.2 x.2.1.tries ∧ CapOk x.2.2) (fun _ i _ => Lt.length - (intOf i).toNat)
              case atStart => exact ⟨new, al, 0, rfl, rfl, Nat.zero_le _, unhide HSTZ, unhide HRS, unhide HRD, unhide HALL⟩
              case round =>
                obtain ⟨wy, rfl⟩ : ∃ wy : World, wy = wr := ⟨_, rfl⟩
                obtain ⟨new2, al2, j, rfl, rfl, hjn, hst, hrs, hrd, hall⟩ := hrel
                have hlen : Lt.length = (nextL conB m k s).length := by rw [← unhide HMP, List.length_map]
                have hl4 : Lt.length ≤ 4 := by rw [hlen]; exact nextL_len m k s
                by_cases hj : j < Lt.length
                · have hji : (j : Int) < (Lt.length : Int) := by omega
                  have hx : Lt[j]? = some Lt[j] := List.getElem?_eq_getElem hj
                  have hxa := hall _ (List.getElem_mem hj)
                  have hmm : (nextL conB m k s)[j]? = some (Lt[j].1, Lt[j].2.1) := by rw [← unhide HMP, List.getElem?_map, hx]; rfl
                  generalize Lt[j] = x at *
                  obtain ⟨t, s', tv⟩ := x
                  dsimp only at hxa hmm
                  obtain ⟨rb, ro, rfl, hrb, hrow⟩ := row_at hrd (by rintro rfl; simp at hj)
                  obtain ⟨r0, r1, r2, r3, r4, r5⟩ := hrow j _ hx
                  dsimp only at r0 r1 r2 r3 r4 r5
                  obtain ⟨tvA, tvc, rfl⟩ := hxa.1.val
                  have htn := hrs.lt (unhide HOK) (unhide HOK3) (List.mem_of_getElem? hmm)
                  have hti : (t : Int) < (m.code.length : Int) := by omega
                  obtain ⟨hbx, ⟨cs2, hal⟩, hch, hbw, hbl2, hxb2⟩ := hst
                  obtain ⟨o2, s2, tA2, tc2, ho2, hos2, a0, a1, a2, a3, a4, htr2, hcap2⟩ := hal.any (k := t) (by rw [hrs.inv.len]; exact htn)
                  have q0 := hal.blk.cell' a0
                  have q1 := hal.blk.cell' a1
                  have q2 := hal.blk.cell' a2
                  have q3 := hal.blk.cell' a3
                  have q4 := hal.blk.cell' a4
                  have f0 := hal.blk.frozen (t * 5)
                  have f1 := hal.blk.frozen (t * 5 + 1)
                  have f2 := hal.blk.frozen (t * 5 + 2)
                  have f3 := hal.blk.frozen (t * 5 + 3)
                  have f4 := hal.blk.frozen (t * 5 + 4)
                  have hlt5 : t < al2.length := by rw [hrs.inv.len]; exact htn
                  have HSET := hide (fun (W : World) (hW : Chg (fun _ => False) wy W) => (hal.chg hW id (fun _ _ _ => id)).set5 (k := t) (s := s') (tv := .slice tvA s'.tries.length tvc) hlt5 (hxa.1.chg hW (fun _ _ _ => id)) hxa.2 (fun h => h rfl))
                  have HST3 := hide (show StRel m w pA cA pc cc bx b al2 wy from ⟨hbx, ⟨cs2, hal⟩, hch, hbw, hbl2, hxb2⟩)
                  have HRS2 := hide hrs
                  have HRD2 := hide hrd
                  have HALL2 := hide hall
                  have HMM := hide hmm
                  have HO2 := hide ho2
                  have HXA := hide hxa
                  have hl2 : s'.tries.length ≤ 1000000 := by
                    have h1 := (next_wf (unhide HOK) (by have := lt_of_some hrs.here; have := hrs.inv.len; omega) (hrs.inv.wf k s hrs.here) (unhide HOK3) t s' (List.mem_of_getElem? hmm)).2.tl
                    have h2 := cnt_le al2
                    rw [hrs.inv.len] at h2
                    omega
                  have HAL3 := hide hal
                  have HTR2 := hide htr2
                  have HBX2 := hide hbx
                  have HCH2 := hide hch
                  clear hbx hal hch hrs hrd hall hmm ho2 hxa htr2 hcap2 a0 a1 a2 a3 a4 hrow hx hbw HRD HALL HRS HSTZ hlen
                  rcases hos2 with rfl | rfl
                  · simp only [Option.isSome_none] at q0
                    go_wp2_with fail
                    go_quiet (fail)
                    have HNW := hide ((unhide HRS2).new_ (unhide HOK) (unhide HOK3) (unhide HMM) (unhide HO2))
                    cases new2
                    all_goals
                      go_upto_region 21 with fail
                      refine st_reg21 _ _ _ _ _ _ _ _ _ _ _ _ _ _ _ _ _ _ _ _ _ _ _ _ _ _ _ _ _ _ _ _ _ _ _ _ _ _ _ _ _ _ _ _ _ _ _ _ _ _ _ _ _ _ _ _ _ _ _ _ _ _ _ _ _ _ _ _ _ _ _ _ _ _ _ _ _ _ _ _ _ _ _ _ _ _ _ _ _ _ _ _ _ _ _ _ _ _ _ _ _ _ b rb ro j t _ _ _ _ s'.of s'.has s'.height s2.of s2.has s2.height tvA tA2 s'.tries.length tvc s2.tries.length tc2 false (by omega) hji hti hcn (by exact r0) (by exact r1) (by exact r2) (by exact r3) (by exact r4) (by exact r5) (by exact q0) (by exact q1) (by exact q2) (by exact q3) (by exact q4) (by exact f0) (by exact f1) (by exact f2) (by exact f3) (by exact f4) _ ?_
                      intro y91 y92 y93 y94 y95 y96 y97 y98 y99 y100 y101 y102
                      go_wp2_with fail
                      go_roundw
                      case rel => exact ⟨_, al2.set t (some s'), j + 1, rfl, by go_num, by omega, (StRel.store (unhide HST3) (by first | exact Chg.refl _ _ | exact (Chg.refl _ _).drewN _ | exact (Chg.refl _ _).drew) hlt5 (unhide HXA)).1, unhide HNW, (unhide HRD2).chg (StRel.store (unhide HST3) (by first | exact Chg.refl _ _ | exact (Chg.refl _ _).drewN _ | exact (Chg.refl _ _).drew) hlt5 (unhide HXA)).2 (fun _ ht _ e => ht e), fun x hx => ⟨((unhide HALL2) x hx).1.chg (StRel.store (unhide HST3) (by first | exact Chg.refl _ _ | exact (Chg.refl _ _).drewN _ | exact (Chg.refl _ _).drew) hlt5 (unhide HXA)).2 (fun _ ht _ e => ht e), ((unhide HALL2) x hx).2⟩⟩
                      case measure => simp [intOf]; omega
                  · simp only [Option.isSome_some] at q0
                    have hl1 : s2.tries.length ≤ 1000000 := by
                      have h1 := ((unhide HRS2).inv.wf t s2 (unhide HO2)).tl
                      have h2 := cnt_le al2
                      rw [(unhide HRS2).inv.len] at h2
                      omega
                    have HSR := hide (fun d os => rq (refSame_any s2 s' (.slice tA2 s2.tries.length tc2) (.slice tvA s'.tries.length tvc) true true (fun t => t ≠ b) (fun t => t ≠ b) (Go.Sort.grow (redrawn wy d) os) ((unhide HTR2).chg (chg_regrown wy d os) (fun _ _ _ => id)) ((unhide HXA).1.chg (chg_regrown wy d os) (fun _ _ _ => id)) hl1 hl2))
                    have HF := hide (And.intro r0 (And.intro r1 (And.intro r2 (And.intro r3 (And.intro r4 (And.intro r5 (And.intro q0 (And.intro q1 (And.intro q2 (And.intro q3 q4))))))))))
                    have hrl := hat_lt r0
                    clear f0 f1 f2 f3 f4
                    cases hsm : s2.same s'
                    · rw [hsm] at HSR
                      have HSM := hide hsm
                      clear hsm
                      go_upto_region 18 with fail
                      have R0S := hide True.intro
                      have t0 := fun d os => cell_regrown r0 d os
                      have t1 := fun d os => cell_regrown r1 d os
                      have t2 := fun d os => cell_regrown r2 d os
                      have t3 := fun d os => cell_regrown r3 d os
                      have t4 := fun d os => cell_regrown r4 d os
                      have t5 := fun d os => cell_regrown r5 d os
                      have u0 := fun d os => cell_regrown q0 d os
                      have u1 := fun d os => cell_regrown q1 d os
                      have u2 := fun d os => cell_regrown q2 d os
                      have u3 := fun d os => cell_regrown q3 d os
                      have u4 := fun d os => cell_regrown q4 d os
                      refine wp_region_quiet_below (by kernel_rfl) (by kernel_rfl) ?_
                      repeat (any_goals (first | go_big_quiet_step ((exact Calls.regrown_of (unhide HSR _ _))) | quiet_step ((exact Calls.regrown_of (unhide HSR _ _)))))
                      refine wpQuiet_nil ?_
                      intro _ hw'
                      obtain ⟨⟨dq, osq⟩, hw''⟩ := hw'
                      subst hw''
                      have HQ := hide (chg_regrown wy dq osq)
                      clear t0 t1 t2 t3 t4 t5 u0 u1 u2 u3 u4 R0S HSR
                      try dsimp only
                      go_wp2_with fail
                      go_ret2
                      exact .inl ⟨(unhide HRS2).bad (unhide HOK3) (List.mem_of_getElem? (unhide HMM)) (unhide HO2) (unhide HSM), rfl, (unhide HCH2).trans' (unhide HQ)⟩
                    · rw [hsm] at HSR
                      have HSM := hide hsm
                      clear hsm
                      go_upto_region 18 with fail
                      have R0S := hide True.intro
                      have t0 := fun d os => cell_regrown r0 d os
                      have t1 := fun d os => cell_regrown r1 d os
                      have t2 := fun d os => cell_regrown r2 d os
                      have t3 := fun d os => cell_regrown r3 d os
                      have t4 := fun d os => cell_regrown r4 d os
                      have t5 := fun d os => cell_regrown r5 d os
                      have u0 := fun d os => cell_regrown q0 d os
                      have u1 := fun d os => cell_regrown q1 d os
                      have u2 := fun d os => cell_regrown q2 d os
                      have u3 := fun d os => cell_regrown q3 d os
                      have u4 := fun d os => cell_regrown q4 d os
                      refine wp_region_quiet_below (by kernel_rfl) (by kernel_rfl) ?_
                      repeat (any_goals (first | go_big_quiet_step ((exact Calls.regrown_of (unhide HSR _ _))) | quiet_step ((exact Calls.regrown_of (unhide HSR _ _)))))
                      refine wpQuiet_nil ?_
                      intro _ hw'
                      obtain ⟨⟨dq, osq⟩, hw''⟩ := hw'
                      subst hw''
                      have hq := chg_regrown wy dq osq
                      generalize Go.Sort.grow (redrawn wy dq) osq = w2 at *
                      clear t0 t1 t2 t3 t4 t5 u0 u1 u2 u3 u4 R0S HSR r0 r1 r2 r3 r4 r5 q0 q1 q2 q3 q4
                      obtain ⟨r0, r1, r2, r3, r4, r5, q0, q1, q2, q3, q4⟩ := unhide HF
                      replace r0 := (hq.cell (p := ⟨rb, ro + j * 6, none⟩) hrl id).trans r0
                      replace r1 := (hq.cell (p := ⟨rb, ro + j * 6 + 1, none⟩) hrl id).trans r1
                      replace r2 := (hq.cell (p := ⟨rb, ro + j * 6 + 2, none⟩) hrl id).trans r2
                      replace r3 := (hq.cell (p := ⟨rb, ro + j * 6 + 3, none⟩) hrl id).trans r3
                      replace r4 := (hq.cell (p := ⟨rb, ro + j * 6 + 4, none⟩) hrl id).trans r4
                      replace r5 := (hq.cell (p := ⟨rb, ro + j * 6 + 5, none⟩) hrl id).trans r5
                      replace q0 := (hq.cell (p := ⟨b, t * 5, none⟩) hbl2 id).trans q0
                      replace q1 := (hq.cell (p := ⟨b, t * 5 + 1, none⟩) hbl2 id).trans q1
                      replace q2 := (hq.cell (p := ⟨b, t * 5 + 2, none⟩) hbl2 id).trans q2
                      replace q3 := (hq.cell (p := ⟨b, t * 5 + 3, none⟩) hbl2 id).trans q3
                      replace q4 := (hq.cell (p := ⟨b, t * 5 + 4, none⟩) hbl2 id).trans q4
                      have hal3 := (unhide HAL3).chg hq id (fun _ _ _ => id)
                      have f0 := hal3.blk.frozen (t * 5)
                      have f1 := hal3.blk.frozen (t * 5 + 1)
                      have f2 := hal3.blk.frozen (t * 5 + 2)
                      have f3 := hal3.blk.frozen (t * 5 + 3)
                      have f4 := hal3.blk.frozen (t * 5 + 4)
                      have HST4 := hide ((unhide HST3).chg hq)
                      have HRD4 := hide ((unhide HRD2).chg hq (fun _ _ _ => id))
                      have HALL4 := hide (fun x hx => (⟨((unhide HALL2) x hx).1.chg hq (fun _ _ _ => id), ((unhide HALL2) x hx).2⟩ : RdI (fun t => t ≠ b) w2 x.2.2 x.2.1.tries ∧ CapOk x.2.2))
                      have HXA4 := hide (⟨(unhide HXA).1.chg hq (fun _ _ _ => id), (unhide HXA).2⟩ : RdI (fun t => t ≠ b) w2 (.slice tvA s'.tries.length tvc) s'.tries ∧ CapOk (.slice tvA s'.tries.length tvc))
                      have HNW := hide (show RStep conB m c0 (al2.set t (some s')) new2 k s (j + 1) from by
                        have h := (unhide HRS2).same (unhide HMM) (unhide HO2) (unhide HSM)
                        rw [h.1]
                        exact h.2)
                      clear hq hal3 HST3 HRD2 HALL2 HXA HF hrl
                      try dsimp only
                      cases new2
                      all_goals
                        go_upto_region 21 with fail
                        refine st_reg21 _ _ _ _ _ _ _ _ _ _ _ _ _ _ _ _ _ _ _ _ _ _ _ _ _ _ _ _ _ _ _ _ _ _ _ _ _ _ _ _ _ _ _ _ _ _ _ _ _ _ _ _ _ _ _ _ _ _ _ _ _ _ _ _ _ _ _ _ _ _ _ _ _ _ _ _ _ _ _ _ _ _ _ _ _ _ _ _ _ _ _ _ _ _ _ _ _ _ _ _ _ _ b rb ro j t _ _ _ _ s'.of s'.has s'.height s2.of s2.has s2.height tvA tA2 s'.tries.length tvc s2.tries.length tc2 true (by omega) hji hti hcn (by exact r0) (by exact r1) (by exact r2) (by exact r3) (by exact r4) (by exact r5) (by exact q0) (by exact q1) (by exact q2) (by exact q3) (by exact q4) (by exact f0) (by exact f1) (by exact f2) (by exact f3) (by exact f4) _ ?_
                        intro y91 y92 y93 y94 y95 y96 y97 y98 y99 y100 y101 y102
                        go_wp2_with fail
                        go_roundw
                        case rel => exact ⟨_, al2.set t (some s'), j + 1, rfl, by go_num, by omega, (StRel.store (unhide HST4) (by first | exact Chg.refl _ _ | exact (Chg.refl _ _).drewN _ | exact (Chg.refl _ _).drew) hlt5 (unhide HXA4)).1, unhide HNW, (unhide HRD4).chg (StRel.store (unhide HST4) (by first | exact Chg.refl _ _ | exact (Chg.refl _ _).drewN _ | exact (Chg.refl _ _).drew) hlt5 (unhide HXA4)).2 (fun _ ht _ e => ht e), fun x hx => ⟨((unhide HALL4) x hx).1.chg (StRel.store (unhide HST4) (by first | exact Chg.refl _ _ | exact (Chg.refl _ _).drewN _ | exact (Chg.refl _ _).drew) hlt5 (unhide HXA4)).2 (fun _ ht _ e => ht e), ((unhide HALL4) x hx).2⟩⟩
                        case measure => simp [intOf]; omega
                · obtain rfl : j = Lt.length := by omega
                  have hji : ¬ (Lt.length : Int) < (Lt.length : Int) := by omega
                  have HST3 := hide hst
                  have HPN := hide (show RPass conB m c0 al2 new2 (k + 1) from by rw [hlen] at hrs; exact hrs.end_ (unhide HOK3))
                  clear hst hrs hrd hall hlen HMP HRD HALL HRS HSTZ
                  go_wp2_with fail
                  go_roundw
                  case rel => exact ⟨new2, al2, k + 1, rfl, by go_num, by omega, unhide HST3, unhide HPN⟩
                  case measure => simp [intOf]; omega
            · have hok2 : nextOk conB m k s = false := by simpa using hok
              have HB := hide ((unhide HPS2).bad (unhide HO) hok2)
              have HN2 := hide (show ∀ (W : World), Chg (fun _ => False) wq W → Calls Tryd.prog 24 #[.agg #[.slice pA m.pool.length pc, .slice cA m.code.length cc], .int .i64 (k : Int), .agg #[.bool true, .int .i64 s.of, .int .i64 s.has, .int .i64 s.height, .slice tA s.tries.length tc]] W fun e w' => e = .returned (.tuple #[.slice none 0 0, .bool false]) ∧ Chg (fun _ => False) W w' from fun W hW => (unhide HNX W hW).mono (by
                rintro e w' (⟨h, _⟩ | ⟨_, h1, h2⟩)
                · exact absurd h hok
                · exact ⟨h1, h2⟩))
              clear hok hok2 HNX
              refine wp_region_noPanic ?_
              go_region_held3 (fun W' => W'.cell? ⟨bx, 0, none⟩ = some (.slice pA m.pool.length pc) ∧ W'.cell? ⟨bx, 1, none⟩ = some (.slice cA m.code.length cc) ∧ W'.cell? ⟨b, k * 5, none⟩ = some (.bool true) ∧ W'.cell? ⟨b, k * 5 + 1, none⟩ = some (.int .i64 s.of) ∧ W'.cell? ⟨b, k * 5 + 2, none⟩ = some (.int .i64 s.has) ∧ W'.cell? ⟨b, k * 5 + 3, none⟩ = some (.int .i64 s.height) ∧ W'.cell? ⟨b, k * 5 + 4, none⟩ = some (.slice tA s.tries.length tc)) (first | exact unhide HKK | go_keep) (first | (go_at_call 24; (with_reducible refine (unhide HN2 _ (unhide HCW)).mono ?_); rintro e wz ⟨rfl, hch⟩; have HN_ := hide ((unhide HCW).trans' hch); clear HCW; have HCW := HN_; clear HN_; have HKK := hide (unhide KSW _ (unhide HCW)); clear hch))
              refine NoPanic.normal ?_
              try dsimp only
              go_wp2_with fail
              go_ret2
              exact .inl ⟨unhide HB, rfl, (unhide HCH).trans' (unhide HCW)⟩
        · obtain rfl : k = m.code.length := by omega
          have hki : ¬ (m.code.length : Int) < (m.code.length : Int) := by omega
          have HST2 := hide hst
          have HPS2 := hide hps
          have hcl := cnt_le al
          rw [hps.inv.len] at hcl
          clear hst hps
          have HCL := hide hcl
          clear hcl
          go_wp2_with fail
          have hms := unhide HMS
          have hcl := unhide HCL
          have hmo := (unhide HPS2).mono
          cases new with
          | true =>
            have hup := (unhide HPS2).up rfl
            go_roundg (m.code.length + 1 - cnt al)
            case measure => omega
            case rel => exact ⟨true, al, rfl, unhide HST2, .inl ⟨rfl, (unhide HPS2).inv, Nat.le_refl _⟩⟩
          | false =>
            go_roundg 0
            case measure => omega
            case rel => exact ⟨false, al, rfl, unhide HST2, .inr ⟨rfl, c0, unhide HPS2⟩⟩
    · have HG := hide hpass.end_
      obtain ⟨hb1, ⟨cs, hal⟩, hch, hbw, hbl, hxb⟩ := hst
      have HAL := hide hal
      have HCH := hide hch
      have HLN := hide hpass.inv.len
      clear hpass hb1 hal hch HREL HIN
      go_wp2_with fail
      go_ret2
      exact .inr ⟨(unhide HG).1, b, cs, all, rfl, (unhide HAL).mono (fun _ _ => trivial), unhide HLN, (unhide HG).2, unhide HCH⟩
end Go.Proofs.YtejkaalhjocmgaaDoor

namespace Go.Proofs.YtejkaalhjocmgaaDoor
open Go.RowKit
set_option maxHeartbeats 2000000
set_option maxRecDepth 1000000
theorem states_any (m : Im) (pA cA : Option Addr) (pc cc : Nat) (T0 T1 : Nat → Prop) (w : World) (hp : Rd T0 w pA (m.pool.flatMap cstv)) (hc : Rd T1 w cA (m.code.flatMap insv)) (hpn : m.pool.length ≤ 100000) (hcn : m.code.length ≤ 900) (px : ∀ x ∈ m.pool, x.text.size ≤ 9223372036854775807) (ok : CodeOk m) :
    Calls Tryd.prog 14 #[.agg #[.slice pA m.pool.length pc, .slice cA m.code.length cc]] w fun e w' => StOut m w e w' := by
  by_cases hn : m.code.length = 0
  · exact states_none m pA cA pc cc w hn
  · exact states_some m pA cA pc cc T0 T1 w hp hc hpn hcn px ok (by omega)
theorem StOut.yes {m : Im} {w w' : World} {e : Ending} (h : StOut m w e w') (hg : Good conB m) : ∃ (b : Nat) (cs : Array Value) (all : List (Option RSt)), e = .returned (.tuple #[.slice (some ⟨b, 0, none⟩) m.code.length m.code.length, .bool true]) ∧ AllRep (fun _ => True) w' b cs all ∧ all.length = m.code.length ∧ (∀ (k : Nat) (s : RSt), all[k]? = some (some s) ↔ Reach conB m k s) ∧ Chg (fun _ => False) w w' := by
  rcases h with ⟨h, _⟩ | ⟨_, h⟩
  · exact absurd hg h
  · exact h
theorem StOut.no {m : Im} {w w' : World} {e : Ending} (h : StOut m w e w') (hg : ¬ Good conB m) : e = .returned (.tuple #[.slice none 0 0, .bool false]) ∧ Chg (fun _ => False) w w' := by
  rcases h with ⟨_, h⟩ | ⟨h, _⟩
  · exact h
  · exact absurd h hg
theorem refVerify_any (m : Im) (pA cA : Option Addr) (pc cc : Nat) (T T2 : Nat → Prop) (w : World) (hp : Rd T w pA (m.pool.flatMap cstv)) (hc : Rd T2 w cA (m.code.flatMap insv)) (hn : m.code.length ≤ 900) (pn : m.pool.length ≤ 100000) (px : ∀ x ∈ m.pool, x.text.size ≤ 9223372036854775807) :
    Calls Tryd.prog 9 #[.agg #[.slice pA m.pool.length pc, .slice cA m.code.length cc]] w fun e w' => e = .returned (.int .i64 (verE m)) ∧ Chg (fun _ => False) w w' := by
  have b1 := Blk.new w 25 #[.slice pA m.pool.length pc, .slice cA m.code.length cc]
  have c1 := (Chg.refl (fun _ => False) w).alloc (.cells #[.slice pA m.pool.length pc, .slice cA m.code.length cc] 25)
  have HI := hide (fun W (hW : Chg (fun _ => False) w W) => refImg_any m pc cc pA cA T T2 W (hp.chg hW (fun _ _ _ => id)) (hc.chg hW (fun _ _ _ => id)) (by omega) (by omega) px)
  have HE := hide (show verE m = if imgE m = 0 then (if goodB m then 0 else 190) else imgE m from rfl)
  generalize verE m = E at *
  have HB := hide b1
  have HC1 := hide c1
  have x0 := b1.cell 0
  have x1 := b1.cell 1
  simp only [List.getElem?_toArray, List.getElem?_cons_zero, List.getElem?_cons_succ] at x0 x1
  clear b1 c1
  by_cases hi : imgE m = 0
  · rw [hi] at HI HE
    have hK := fun W (hW : Chg (fun _ => False) w W) => states_any m pA cA pc cc T T2 W (hp.chg hW (fun _ _ _ => id)) (hc.chg hW (fun _ _ _ => id)) pn hn px (codeOk_of (imgE_code hi))
    cases hg : goodB m with
    | true =>
      have HY := hide (fun W (hW : Chg (fun _ => False) w W) => (hK W hW).mono (fun e w' h => h.yes (goodB_iff.1 hg)))
      have HE2 := hide (show E = 0 by rw [unhide HE, hg]; rfl)
      clear hK hg hi hp hc px
      go_enter Tryd.func9, Tryd.ntmps9
      go_wp2_with (first
        | (go_at_call 18; (with_reducible refine (unhide HI _ (unhide HC1)).mono ?_); rintro e w2 ⟨rfl, hch⟩; have hc2 := (unhide HC1).trans' hch; have hb2 := (unhide HB).chg hch id; have y0 := hb2.cell 0; have y1 := hb2.cell 1; simp only [List.getElem?_toArray, List.getElem?_cons_zero, List.getElem?_cons_succ] at y0 y1; have HC2 := hide hc2; clear hch hc2 hb2)
        | (go_at_call 14; (with_reducible refine (unhide HY _ (unhide HC2)).mono ?_); rintro e w3 ⟨b, cs, all, rfl, _, _, _, hch⟩; have HC3 := hide hch; clear hch))
      go_ret
      exact ⟨retv (intv (unhide HE2).symm), (unhide HC2).trans' (unhide HC3)⟩
    | false =>
      have HY := hide (fun W (hW : Chg (fun _ => False) w W) => (hK W hW).mono (fun e w' h => h.no (fun hh => by rw [goodB_iff.2 hh] at hg; cases hg)))
      have HE2 := hide (show E = 190 by rw [unhide HE, hg]; rfl)
      clear hK hg hi hp hc px
      go_enter Tryd.func9, Tryd.ntmps9
      go_wp2_with (first
        | (go_at_call 18; (with_reducible refine (unhide HI _ (unhide HC1)).mono ?_); rintro e w2 ⟨rfl, hch⟩; have hc2 := (unhide HC1).trans' hch; have hb2 := (unhide HB).chg hch id; have y0 := hb2.cell 0; have y1 := hb2.cell 1; simp only [List.getElem?_toArray, List.getElem?_cons_zero, List.getElem?_cons_succ] at y0 y1; have HC2 := hide hc2; clear hch hc2 hb2)
        | (go_at_call 14; (with_reducible refine (unhide HY _ (unhide HC2)).mono ?_); rintro e w3 ⟨rfl, hch⟩; have HC3 := hide hch; clear hch))
      go_ret
      exact ⟨retv (intv (unhide HE2).symm), (unhide HC2).trans' (unhide HC3)⟩
  · have HE2 := hide (show E = imgE m by rw [unhide HE, if_neg hi])
    have hne : (imgE m != 0) = true := by rw [bne_iff_ne]; exact hi
    clear hi hp hc px
    generalize imgE m = F at *
    go_enter Tryd.func9, Tryd.ntmps9
    go_wp2_with (first
      | (go_at_call 18; (with_reducible refine (unhide HI _ (unhide HC1)).mono ?_); rintro e w2 ⟨rfl, hch⟩; have HC2 := hide ((unhide HC1).trans' hch); clear hch))
    go_ret
    exact ⟨retv (intv (unhide HE2).symm), unhide HC2⟩
end Go.Proofs.YtejkaalhjocmgaaDoor

namespace Go.Proofs.YtejkaalhjocmgaaDoor
open Go.RowKit
set_option maxHeartbeats 2000000
set_option maxRecDepth 1000000
/-- Copies, in whatever later world. -/
def CpyRuns (m : Im) (pA cA : Option Addr) (pc cc : Nat) (w : World) : Prop := ∀ W, Chg (fun _ => False) w W → Calls Tryd.prog 11 #[.agg #[.slice pA m.pool.length pc, .slice cA m.code.length cc]] W fun e w' => ∃ A' c' B' d', e = .returned (.agg #[.slice A' m.pool.length c', .slice B' m.code.length d']) ∧ CpyOk m w' A' B' c' d' ∧ Chg (fun _ => False) W w'
theorem CpyRuns.later {m : Im} {pA cA : Option Addr} {pc cc : Nat} {w w2 : World} (h : CpyRuns m pA cA pc cc w) (hc : Chg (fun _ => False) w w2) : CpyRuns m pA cA pc cc w2 := fun W hW => h W (hc.trans' hW)
def StRuns (m : Im) (pA cA : Option Addr) (pc cc : Nat) (w : World) : Prop := ∀ W, Chg (fun _ => False) w W → Calls Tryd.prog 14 #[.agg #[.slice pA m.pool.length pc, .slice cA m.code.length cc]] W fun e w' => StOut m W e w'
theorem StRuns.later {m : Im} {pA cA : Option Addr} {pc cc : Nat} {w w2 : World} (h : StRuns m pA cA pc cc w) (hc : Chg (fun _ => False) w w2) : StRuns m pA cA pc cc w2 := fun W hW => h W (hc.trans' hW)
noncomputable def telC : Code := (Tryd.f3.body.bind (findAfter 4)).getD .skip
theorem tells_rest_no (x0 x2 x6 x7 x8 x9 x10 x11 x12 x13 x14 x15 x16 x17 x18 x19 x20 x21 x22 x23 x24 x25 x26 x27 x28 x29 x30 x31 x32 x33 x34 x35 x36 x37 x38 x39 x40 x41 x42 x43 x44 x45 x46 x47 x48 x49 x50 x51 x52 x53 x54 x55 x56 x57 x58 x59 x60 x61 x62 x63 x64 x65 x66 x67 x68 x69 x70 x71 x72 x73 x74 x75 x76 x77 x78 x79 x80 x81 x82 x83 x84 x85 x86 x87 x88 x89 x90 x91 x92 x93 x94 x95 x96 x97 x98 x99 x100 x101 x102 x103 x104 x105 : Value) (m : Im) (pA cA : Option Addr) (pc cc bx cd co : Nat) (Ad Ao : Option Addr) (E : Int) (w0 w : World) (h0 : Chg (fun _ => False) w0 w) (hbx : Blk w bx 25 #[.slice pA m.pool.length pc, .slice cA m.code.length cc]) (hcp : CpyRuns m pA cA pc cc w) (hv : verE m = E) (he : (E != 0) = true) :
    Code.wp Tryd.prog telC (bodyPost Tryd.prog Tryd.f3 fun e w' => e = .returned (.bool true) ∧ Chg (fun _ => False) w0 w') ⟨#[x0, .pointer (some ⟨bx, 0, none⟩), x2, .int .i64 E, .slice Ad 0 cd, .slice Ao 0 co, x6, x7, x8, x9, x10, x11, x12, x13, x14, x15, x16, x17, x18, x19, x20, x21, x22, x23, x24, x25, x26, x27, x28, x29, x30, x31, x32, x33, x34, x35, x36, x37, x38, x39, x40, x41, x42, x43, x44, x45, x46, x47, x48, x49, x50, x51, x52, x53, x54, x55, x56, x57, x58, x59, x60, x61, x62, x63, x64, x65, x66, x67, x68, x69, x70, x71, x72, x73, x74, x75, x76, x77, x78, x79, x80, x81, x82, x83, x84, x85, x86, x87, x88, x89, x90, x91, x92, x93, x94, x95, x96, x97, x98, x99, x100, x101, x102, x103, x104, x105], []⟩ w := by
  have x0 := hbx.cell 0
  have x1 := hbx.cell 1
  simp only [List.getElem?_toArray, List.getElem?_cons_zero, List.getElem?_cons_succ] at x0 x1
  have H0 := hide h0
  have HBX := hide hbx
  have HCP := hide (fun W (hW : Chg (fun _ => False) w W) => hcp W hW)
  have HVE := hide hv
  have HC0 := hide (Chg.refl (fun _ => False) w)
  clear h0 hbx hcp hv
  conv => arg 2; whnf
  go_wp2_with (first
    | (go_at_call 11; (with_reducible refine (unhide HCP _ (unhide HC0)).mono ?_); rintro e wa ⟨A', c', B', d', rfl, hcp, hch⟩; have HV := hide hcp.ver; have HC1 := hide ((unhide HC0).trans' hch); clear hch hcp)
    | (go_at_call 13; (with_reducible refine (unhide HV).mono ?_); rintro e wb ⟨rfl, hch⟩; have HC2 := hide ((unhide HC1).trans' hch); try rw [unhide HVE]; have hk := (unhide HBX).chg (unhide HC2) id; have y0 := hk.cell 0; have y1 := hk.cell 1; simp only [List.getElem?_toArray, List.getElem?_cons_zero, List.getElem?_cons_succ] at y0 y1; clear hk hch))
  go_ret
  exact ⟨rfl, (unhide H0).trans' (unhide HC2)⟩
theorem tells_rest_yes (x0 x2 x6 x7 x8 x9 x10 x11 x12 x13 x14 x15 x16 x17 x18 x19 x20 x21 x22 x23 x24 x25 x26 x27 x28 x29 x30 x31 x32 x33 x34 x35 x36 x37 x38 x39 x40 x41 x42 x43 x44 x45 x46 x47 x48 x49 x50 x51 x52 x53 x54 x55 x56 x57 x58 x59 x60 x61 x62 x63 x64 x65 x66 x67 x68 x69 x70 x71 x72 x73 x74 x75 x76 x77 x78 x79 x80 x81 x82 x83 x84 x85 x86 x87 x88 x89 x90 x91 x92 x93 x94 x95 x96 x97 x98 x99 x100 x101 x102 x103 x104 x105 : Value) (m : Im) (pA cA : Option Addr) (pc cc bx cd co : Nat) (Ad Ao : Option Addr) (w0 w : World) (h0 : Chg (fun _ => False) w0 w) (hbx : Blk w bx 25 #[.slice pA m.pool.length pc, .slice cA m.code.length cc]) (hcp : CpyRuns m pA cA pc cc w) (hst : StRuns m pA cA pc cc w) (hv : verE m = 0) (hg : Good conB m) (hd : RdI (fun _ => True) w (.slice Ad m.code.length cd) ((List.range m.code.length).map (depAt m))) (ho : RdI (fun _ => True) w (.slice Ao m.code.length co) ((List.range m.code.length).map (ownAt m))) (hn : m.code.length ≤ 120) :
    Code.wp Tryd.prog telC (bodyPost Tryd.prog Tryd.f3 fun e w' => e = .returned (.bool true) ∧ Chg (fun _ => False) w0 w') ⟨#[x0, .pointer (some ⟨bx, 0, none⟩), x2, .int .i64 0, .slice Ad m.code.length cd, .slice Ao m.code.length co, x6, x7, x8, x9, x10, x11, x12, x13, x14, x15, x16, x17, x18, x19, x20, x21, x22, x23, x24, x25, x26, x27, x28, x29, x30, x31, x32, x33, x34, x35, x36, x37, x38, x39, x40, x41, x42, x43, x44, x45, x46, x47, x48, x49, x50, x51, x52, x53, x54, x55, x56, x57, x58, x59, x60, x61, x62, x63, x64, x65, x66, x67, x68, x69, x70, x71, x72, x73, x74, x75, x76, x77, x78, x79, x80, x81, x82, x83, x84, x85, x86, x87, x88, x89, x90, x91, x92, x93, x94, x95, x96, x97, x98, x99, x100, x101, x102, x103, x104, x105], []⟩ w := by
  have hpos := hg.pos
  have hne : (List.range m.code.length).map (depAt m) ≠ [] := fun e => by have := congrArg List.length e; rw [List.length_map, List.length_range, List.length_nil] at this; omega
  have hne2 : (List.range m.code.length).map (ownAt m) ≠ [] := fun e => by have := congrArg List.length e; rw [List.length_map, List.length_range, List.length_nil] at this; omega
  obtain ⟨bd, od, hAd, hcd⟩ := tell_cells hd hne
  obtain ⟨bo, oo, hAo, hco⟩ := tell_cells ho hne2
  subst hAd hAo
  have x0 := hbx.cell 0
  have x1 := hbx.cell 1
  simp only [List.getElem?_toArray, List.getElem?_cons_zero, List.getElem?_cons_succ] at x0 x1
  have H0 := hide h0
  have HBX := hide hbx
  have HCP := hide (fun W (hW : Chg (fun _ => False) w W) => hcp W hW)
  have HST := hide (fun W (hW : Chg (fun _ => False) w W) => (hst W hW).mono (fun e w' h => h.yes hg))
  have HVE := hide hv
  have HG := hide hg
  have HCD := hide hcd
  have HCO := hide hco
  have HC0 := hide (Chg.refl (fun _ => False) w)
  clear h0 hbx hcp hst hv hg hd ho hne hne2 hcd hco
  conv => arg 2; whnf
  go_upto_block 0 with (first
    | (go_at_call 11; (with_reducible refine (unhide HCP _ (unhide HC0)).mono ?_); rintro e wa ⟨A', c', B', d', rfl, hcp, hch⟩; have HV := hide hcp.ver; have HC1 := hide ((unhide HC0).trans' hch); clear hch hcp)
    | (go_at_call 13; (with_reducible refine (unhide HV).mono ?_); rintro e wb ⟨rfl, hch⟩; have HC2 := hide ((unhide HC1).trans' hch); try rw [unhide HVE]; have hk := (unhide HBX).chg (unhide HC2) id; have y0 := hk.cell 0; have y1 := hk.cell 1; simp only [List.getElem?_toArray, List.getElem?_cons_zero, List.getElem?_cons_succ] at y0 y1; clear hk hch)
    | (go_at_call 14; (with_reducible refine (unhide HST _ (unhide HC2)).mono ?_); rintro e wc ⟨bs, cs, all, rfl, hal, hln, hrc, hch⟩; have HC3 := hide ((unhide HC2).trans' hch); have HAL := hide hal; have HLN := hide hln; have HRC := hide hrc; clear hch hal hln hrc))
  clear x0 x1 y0 y1
  have hcd3 := fun k (hk : k < m.code.length) => ((unhide HC3).cell (hat_lt ((unhide HCD) k hk)) id).trans ((unhide HCD) k hk)
  have hco3 := fun k (hk : k < m.code.length) => ((unhide HC3).cell (hat_lt ((unhide HCO) k hk)) id).trans ((unhide HCO) k hk)
  have HD3 := hide hcd3
  have HO3 := hide hco3
  clear hcd3 hco3
  generalize hnn : m.code.length = n at *
  have HNN := hide hnn
  clear hnn
  go_wp2_with fail
  go_loopw [8] (fun i wr => ∃ k : Nat, i = .int .i64 k ∧ k ≤ n ∧ Chg (fun _ => False) wc wr) (fun i _ => n - (intOf i).toNat)
  case atStart => exact ⟨0, rfl, Nat.zero_le _, Chg.refl _ _⟩
  case round =>
    obtain ⟨wq, rfl⟩ : ∃ wq : World, wq = wr := ⟨_, rfl⟩
    obtain ⟨k, rfl, hk, hch⟩ := hrel
    by_cases hlt : k < n
    · have hki : (k : Int) < (n : Int) := by omega
      have hkd : decide ((n : Int) ≤ (k : Int)) = false := decide_eq_false (by omega)
      have d0 := (unhide HD3) k hlt
      have o0 := (unhide HO3) k hlt
      have d0 := (hch.cell (hat_lt d0) id).trans d0
      have o0 := (hch.cell (hat_lt o0) id).trans o0
      have hal := (unhide HAL).chg hch id (fun _ _ _ => id)
      obtain ⟨o, s, tA, tc, hos, ho, a0, a1, a2, a3, a4, _, _⟩ := hal.any (k := k) (by rw [unhide HLN]; exact hlt)
      have q0 := hal.blk.cell' a0
      have q1 := hal.blk.cell' a1
      have q3 := hal.blk.cell' a3
      have HCH := hide hch
      clear hch hal a0 a1 a2 a3 a4
      rcases ho with rfl | rfl
      · have hm1 : depAt m k = -1 := depAt_none (by rintro ⟨s', hr⟩; have := ((unhide HRC) k s').2 hr; rw [hos] at this; injection this with this; cases this)
        have hm2 : ownAt m k = -1 := ownAt_none (by rintro ⟨s', hr⟩; have := ((unhide HRC) k s').2 hr; rw [hos] at this; injection this with this; cases this)
        rw [hm1] at d0
        rw [hm2] at o0
        simp only [Option.isSome_none] at q0
        clear hm1 hm2 hos
        go_wp2_with fail
        go_roundw
        case rel => exact ⟨k + 1, by go_num, by omega, unhide HCH⟩
        case measure => simp [intOf]; omega
      · have hm1 : depAt m k = s.height := depAt_some (unhide HG) (((unhide HRC) k s).1 hos)
        have hm2 : ownAt m k = s.of := ownAt_some (unhide HG) (((unhide HRC) k s).1 hos)
        rw [hm1] at d0
        rw [hm2] at o0
        simp only [Option.isSome_some] at q0
        clear hm1 hm2 hos
        go_wp2_with fail
        go_quiet (fail)
        go_wp2_with fail
        go_roundw
        case rel => exact ⟨k + 1, by go_num, by omega, (unhide HCH).drewN _⟩
        case measure => simp [intOf]; omega
    · obtain rfl : k = n := by omega
      have hki : ¬ (k : Int) < (k : Int) := by omega
      have HCH := hide hch
      clear hch
      go_wp2_with fail
      go_ret
      exact ⟨rfl, (unhide H0).trans' ((unhide HC3).trans' (unhide HCH))⟩
end Go.Proofs.YtejkaalhjocmgaaDoor

namespace Go.Proofs.YtejkaalhjocmgaaDoor
open Go.RowKit
set_option maxHeartbeats 2000000
set_option maxRecDepth 1000000
theorem tells_few (m : Im) (pA cA : Option Addr) (pc cc : Nat) (T T2 : Nat → Prop) (w : World) (hp : Rd T w pA (m.pool.flatMap cstv)) (_hc : Rd T2 w cA (m.code.flatMap insv)) (hpn : m.pool.length ≤ 9223372036854775807) (hcn : m.code.length ≤ 9223372036854775807) (px : ∀ x ∈ m.pool, x.text.size ≤ 9223372036854775807) (lay : Lay w) (hf : fewB m = false) :
    Calls Tryd.prog 3 #[.agg #[.slice pA m.pool.length pc, .slice cA m.code.length cc]] w fun e w' => e = .returned (.bool true) ∧ Chg (fun _ => False) w w' := by
  have b1 := Blk.new w 25 #[.slice pA m.pool.length pc, .slice cA m.code.length cc]
  have c1 := (Chg.refl (fun _ => False) w).alloc (.cells #[.slice pA m.pool.length pc, .slice cA m.code.length cc] 25)
  have HA := hide (fun W (hW : Chg (fun _ => False) w W) => awake_any W (lay.chg hW (fun _ _ => id)))
  have HF := hide (fun W (hW : Chg (fun _ => False) w W) => few_any m pc cc pA cA T W (hp.chg hW (fun _ _ _ => id)) hpn hcn px)
  have HB := hide b1
  have HC1 := hide c1
  have x0 := b1.cell 0
  have x1 := b1.cell 1
  simp only [List.getElem?_toArray, List.getElem?_cons_zero, List.getElem?_cons_succ] at x0 x1
  have HD1 := hide (Chg.refl (fun _ => False) (w.alloc (.cells #[.slice pA m.pool.length pc, .slice cA m.code.length cc] 25)))
  clear b1 c1
  rw [hf] at HF
  clear hp _hc px lay hf
  go_enter Tryd.func3, Tryd.ntmps3
  go_wp2_with (first
    | (go_at_call 7; (with_reducible refine (unhide HA _ (unhide HC1)).mono ?_); rintro e w2 ⟨rfl, hch⟩; have HC2 := hide ((unhide HC1).trans' hch); have HD2 := hide ((unhide HD1).trans' hch); have hk := (unhide HB).chg (unhide HD2) id; have y0 := hk.cell 0; have y1 := hk.cell 1; simp only [List.getElem?_toArray, List.getElem?_cons_zero, List.getElem?_cons_succ] at y0 y1; clear hk; clear hch)
    | (go_at_call 8; (with_reducible refine (unhide HF _ (unhide HC2)).mono ?_); rintro e w3 ⟨rfl, hch⟩; have HC3 := hide ((unhide HC2).trans' hch); have HD3 := hide ((unhide HD2).trans' hch); have hk := (unhide HB).chg (unhide HD3) id; have z0 := hk.cell 0; have z1 := hk.cell 1; simp only [List.getElem?_toArray, List.getElem?_cons_zero, List.getElem?_cons_succ] at z0 z1; clear hk; clear hch)
    | (go_at_call 7; (with_reducible refine (unhide HA _ (unhide HC3)).mono ?_); rintro e w4 ⟨rfl, hch⟩; have HC4 := hide ((unhide HC3).trans' hch); have HD4 := hide ((unhide HD3).trans' hch); have hk := (unhide HB).chg (unhide HD4) id; have u0 := hk.cell 0; have u1 := hk.cell 1; simp only [List.getElem?_toArray, List.getElem?_cons_zero, List.getElem?_cons_succ] at u0 u1; clear hk; clear hch))
  go_ret
  exact ⟨rfl, unhide HC4⟩
theorem tells_not (m : Im) (pA cA : Option Addr) (pc cc : Nat) (T T2 : Nat → Prop) (w : World) (hp : Rd T w pA (m.pool.flatMap cstv)) (hc : Rd T2 w cA (m.code.flatMap insv)) (hpn : m.pool.length ≤ 9223372036854775807) (hcn : m.code.length ≤ 9223372036854775807) (px : ∀ x ∈ m.pool, x.text.size ≤ 9223372036854775807) (lay : Lay w) (hf : fewB m = true) (hv : (verE m != 0) = true) :
    Calls Tryd.prog 3 #[.agg #[.slice pA m.pool.length pc, .slice cA m.code.length cc]] w fun e w' => e = .returned (.bool true) ∧ Chg (fun _ => False) w w' := by
  have b1 := Blk.new w 25 #[.slice pA m.pool.length pc, .slice cA m.code.length cc]
  have c1 := (Chg.refl (fun _ => False) w).alloc (.cells #[.slice pA m.pool.length pc, .slice cA m.code.length cc] 25)
  have HA := hide (fun W (hW : Chg (fun _ => False) w W) => awake_any W (lay.chg hW (fun _ _ => id)))
  have HF := hide (fun W (hW : Chg (fun _ => False) w W) => few_any m pc cc pA cA T W (hp.chg hW (fun _ _ _ => id)) hpn hcn px)
  have HB := hide b1
  have HC1 := hide c1
  have x0 := b1.cell 0
  have x1 := b1.cell 1
  simp only [List.getElem?_toArray, List.getElem?_cons_zero, List.getElem?_cons_succ] at x0 x1
  have HD1 := hide (Chg.refl (fun _ => False) (w.alloc (.cells #[.slice pA m.pool.length pc, .slice cA m.code.length cc] 25)))
  clear b1 c1
  have hl := few_lens hf
  have HCP := hide (fun W (hW : Chg (fun _ => False) w W) => copy_any m pA cA pc cc T T2 W (hp.chg hW (fun _ _ _ => id)) (hc.chg hW (fun _ _ _ => id)) (by omega) (by omega) px (lay.chg hW (fun _ _ => id)))
  have HRV := hide (fun W (hW : Chg (fun _ => False) w W) => refVerify_any m pA cA pc cc T T2 W (hp.chg hW (fun _ _ _ => id)) (hc.chg hW (fun _ _ _ => id)) (by omega) (by omega) px)
  have HCR := hide (show CpyRuns m pA cA pc cc w from fun W hW => ((unhide HCP) W hW).mono (by rintro e w' ⟨A', c', B', d', h1, h2, _, _, h3⟩; exact ⟨A', c', B', d', h1, h2, h3⟩))
  rw [hf] at HF
  have HVE := hide hv
  clear hp hc px lay hf hv
  go_enter Tryd.func3, Tryd.ntmps3
  go_upto_region 4 with (first
    | (go_at_call 7; (with_reducible refine (unhide HA _ (unhide HC1)).mono ?_); rintro e w2 ⟨rfl, hch⟩; have HC2 := hide ((unhide HC1).trans' hch); have HD2 := hide ((unhide HD1).trans' hch); have hk := (unhide HB).chg (unhide HD2) id; have y0 := hk.cell 0; have y1 := hk.cell 1; simp only [List.getElem?_toArray, List.getElem?_cons_zero, List.getElem?_cons_succ] at y0 y1; clear hk; clear hch)
    | (go_at_call 8; (with_reducible refine (unhide HF _ (unhide HC2)).mono ?_); rintro e w3 ⟨rfl, hch⟩; have HC3 := hide ((unhide HC2).trans' hch); have HD3 := hide ((unhide HD2).trans' hch); have hk := (unhide HB).chg (unhide HD3) id; have z0 := hk.cell 0; have z1 := hk.cell 1; simp only [List.getElem?_toArray, List.getElem?_cons_zero, List.getElem?_cons_succ] at z0 z1; clear hk; clear hch)
    | (go_at_call 9; (with_reducible refine (unhide HRV _ (unhide HC3)).mono ?_); rintro e w6 ⟨rfl, hch⟩; have HC6 := hide ((unhide HC3).trans' hch); have HD6 := hide ((unhide HD3).trans' hch); have hk := (unhide HB).chg (unhide HD6) id; have s0 := hk.cell 0; have s1 := hk.cell 1; simp only [List.getElem?_toArray, List.getElem?_cons_zero, List.getElem?_cons_succ] at s0 s1; clear hk; clear hch))
  rename_i K hK
  have HK := hide hK
  clear hK
  have HCH := hide ((unhide HC6).drew)
  have HDH := hide ((unhide HD6).drew)
  have tok1 : True := trivial
  have HDN := hide (show (depL m).length = 0 by unfold depL; rw [if_neg (bne_iff_ne.1 (unhide HVE))]; rfl)
  have HON := hide (show (ownL m).length = 0 by unfold ownL; rw [if_neg (bne_iff_ne.1 (unhide HVE))]; rfl)
  refine wp_region_noPanic ?_
  go_region_held3 (fun W' => W'.cell? ⟨w.heap.size, 0, none⟩ = some (.slice pA m.pool.length pc) ∧ W'.cell? ⟨w.heap.size, 1, none⟩ = some (.slice cA m.code.length cc)) (first | exact unhide HKK | go_keep) (first
    | (go_at_call 11; have _t := tok1; (with_reducible refine (unhide HCP _ (unhide HCH)).mono ?_); rintro e wa ⟨A1, c1, B1, d1, rfl, hcp, _, _, hch⟩; (first | (have HN_ := hide ((unhide HX1).later hch); clear HX1; have HX1 := HN_; clear HN_) | skip); (first | (have HN_ := hide ((unhide HX2).later hch); clear HX2; have HX2 := HN_; clear HN_) | skip); (first | (have HN_ := hide ((unhide HDV).chg hch (fun _ _ _ => id)); clear HDV; have HDV := HN_; clear HN_) | skip); (first | (have HN_ := hide ((unhide HOV).chg hch (fun _ _ _ => id)); clear HOV; have HOV := HN_; clear HN_) | skip); have HX1 := hide hcp; have HN_ := hide ((unhide HCH).trans' hch); clear HCH; have HCH := HN_; clear HN_; have HN_ := hide ((unhide HDH).trans' hch); clear HDH; have HDH := HN_; clear HN_; have HKK := hide (show wa.cell? ⟨w.heap.size, 0, none⟩ = some (.slice pA m.pool.length pc) ∧ wa.cell? ⟨w.heap.size, 1, none⟩ = some (.slice cA m.code.length cc) from ⟨((unhide HB).chg (unhide HDH) id).cell 0, ((unhide HB).chg (unhide HDH) id).cell 1⟩); clear tok1 _t hch hcp)
    | (go_at_call 11; (with_reducible refine (unhide HCP _ (unhide HCH)).mono ?_); rintro e wb ⟨A2, c2, B2, d2, rfl, hcp, _, _, hch⟩; (first | (have HN_ := hide ((unhide HX1).later hch); clear HX1; have HX1 := HN_; clear HN_) | skip); (first | (have HN_ := hide ((unhide HX2).later hch); clear HX2; have HX2 := HN_; clear HN_) | skip); (first | (have HN_ := hide ((unhide HDV).chg hch (fun _ _ _ => id)); clear HDV; have HDV := HN_; clear HN_) | skip); (first | (have HN_ := hide ((unhide HOV).chg hch (fun _ _ _ => id)); clear HOV; have HOV := HN_; clear HN_) | skip); have HX2 := hide hcp; have HN_ := hide ((unhide HCH).trans' hch); clear HCH; have HCH := HN_; clear HN_; have HN_ := hide ((unhide HDH).trans' hch); clear HDH; have HDH := HN_; clear HN_; have HKK := hide (show wb.cell? ⟨w.heap.size, 0, none⟩ = some (.slice pA m.pool.length pc) ∧ wb.cell? ⟨w.heap.size, 1, none⟩ = some (.slice cA m.code.length cc) from ⟨((unhide HB).chg (unhide HDH) id).cell 0, ((unhide HB).chg (unhide HDH) id).cell 1⟩); clear hch hcp)
    | (go_at_call 10; (first | (with_reducible refine (unhide HX1).dep.mono ?_) | (with_reducible refine (unhide HX2).dep.mono ?_)); rintro e wd ⟨vd, rfl, hdv, hch⟩; (first | (have HN_ := hide ((unhide HX1).later hch); clear HX1; have HX1 := HN_; clear HN_) | skip); (first | (have HN_ := hide ((unhide HX2).later hch); clear HX2; have HX2 := HN_; clear HN_) | skip); (first | (have HN_ := hide ((unhide HDV).chg hch (fun _ _ _ => id)); clear HDV; have HDV := HN_; clear HN_) | skip); (first | (have HN_ := hide ((unhide HOV).chg hch (fun _ _ _ => id)); clear HOV; have HOV := HN_; clear HN_) | skip); have HDV := hide (hdv.mono (fun _ _ => trivial) : RdI (fun _ => True) _ vd _); have HN_ := hide ((unhide HCH).trans' hch); clear HCH; have HCH := HN_; clear HN_; have HN_ := hide ((unhide HDH).trans' hch); clear HDH; have HDH := HN_; clear HN_; have HKK := hide (show wd.cell? ⟨w.heap.size, 0, none⟩ = some (.slice pA m.pool.length pc) ∧ wd.cell? ⟨w.heap.size, 1, none⟩ = some (.slice cA m.code.length cc) from ⟨((unhide HB).chg (unhide HDH) id).cell 0, ((unhide HB).chg (unhide HDH) id).cell 1⟩); obtain ⟨Ad, cd, rfl⟩ := (show ∃ A c, vd = .slice A 0 c from by obtain ⟨A, c, h⟩ := hdv.val; exact ⟨A, c, by rw [h, unhide HDN]⟩); clear hch hdv)
    | (go_at_call 12; (first | (with_reducible refine (unhide HX1).own.mono ?_) | (with_reducible refine (unhide HX2).own.mono ?_)); rintro e wo ⟨vo, rfl, hov, hch⟩; (first | (have HN_ := hide ((unhide HX1).later hch); clear HX1; have HX1 := HN_; clear HN_) | skip); (first | (have HN_ := hide ((unhide HX2).later hch); clear HX2; have HX2 := HN_; clear HN_) | skip); (first | (have HN_ := hide ((unhide HDV).chg hch (fun _ _ _ => id)); clear HDV; have HDV := HN_; clear HN_) | skip); (first | (have HN_ := hide ((unhide HOV).chg hch (fun _ _ _ => id)); clear HOV; have HOV := HN_; clear HN_) | skip); have HOV := hide (hov.mono (fun _ _ => trivial) : RdI (fun _ => True) _ vo _); have HN_ := hide ((unhide HCH).trans' hch); clear HCH; have HCH := HN_; clear HN_; have HN_ := hide ((unhide HDH).trans' hch); clear HDH; have HDH := HN_; clear HN_; have HKK := hide (show wo.cell? ⟨w.heap.size, 0, none⟩ = some (.slice pA m.pool.length pc) ∧ wo.cell? ⟨w.heap.size, 1, none⟩ = some (.slice cA m.code.length cc) from ⟨((unhide HB).chg (unhide HDH) id).cell 0, ((unhide HB).chg (unhide HDH) id).cell 1⟩); obtain ⟨Ao, co, rfl⟩ := (show ∃ A c, vo = .slice A 0 c from by obtain ⟨A, c, h⟩ := hov.val; exact ⟨A, c, by rw [h, unhide HON]⟩); clear hch hov))
  all_goals
    refine NoPanic.normal ?_
    refine unhide HK _ _ ?_
    exact tells_rest_no _ _ _ _ _ _ _ _ _ _ _ _ _ _ _ _ _ _ _ _ _ _ _ _ _ _ _ _ _ _ _ _ _ _ _ _ _ _ _ _ _ _ _ _ _ _ _ _ _ _ _ _ _ _ _ _ _ _ _ _ _ _ _ _ _ _ _ _ _ _ _ _ _ _ _ _ _ _ _ _ _ _ _ _ _ _ _ _ _ _ _ _ _ _ _ _ _ _ _ _ _ _ m pA cA pc cc _ cd co Ad Ao _ w _ (unhide HCH) ((unhide HB).chg (unhide HDH) id) ((unhide HCR).later (unhide HCH)) rfl (unhide HVE)
theorem tells_yes (m : Im) (pA cA : Option Addr) (pc cc : Nat) (T T2 : Nat → Prop) (w : World) (hp : Rd T w pA (m.pool.flatMap cstv)) (hc : Rd T2 w cA (m.code.flatMap insv)) (hpn : m.pool.length ≤ 9223372036854775807) (hcn : m.code.length ≤ 9223372036854775807) (px : ∀ x ∈ m.pool, x.text.size ≤ 9223372036854775807) (lay : Lay w) (hf : fewB m = true) (hv : verE m = 0) :
    Calls Tryd.prog 3 #[.agg #[.slice pA m.pool.length pc, .slice cA m.code.length cc]] w fun e w' => e = .returned (.bool true) ∧ Chg (fun _ => False) w w' := by
  have b1 := Blk.new w 25 #[.slice pA m.pool.length pc, .slice cA m.code.length cc]
  have c1 := (Chg.refl (fun _ => False) w).alloc (.cells #[.slice pA m.pool.length pc, .slice cA m.code.length cc] 25)
  have HA := hide (fun W (hW : Chg (fun _ => False) w W) => awake_any W (lay.chg hW (fun _ _ => id)))
  have HF := hide (fun W (hW : Chg (fun _ => False) w W) => few_any m pc cc pA cA T W (hp.chg hW (fun _ _ _ => id)) hpn hcn px)
  have HB := hide b1
  have HC1 := hide c1
  have x0 := b1.cell 0
  have x1 := b1.cell 1
  simp only [List.getElem?_toArray, List.getElem?_cons_zero, List.getElem?_cons_succ] at x0 x1
  have HD1 := hide (Chg.refl (fun _ => False) (w.alloc (.cells #[.slice pA m.pool.length pc, .slice cA m.code.length cc] 25)))
  clear b1 c1
  have hl := few_lens hf
  have HCP := hide (fun W (hW : Chg (fun _ => False) w W) => copy_any m pA cA pc cc T T2 W (hp.chg hW (fun _ _ _ => id)) (hc.chg hW (fun _ _ _ => id)) (by omega) (by omega) px (lay.chg hW (fun _ _ => id)))
  have HRV := hide (fun W (hW : Chg (fun _ => False) w W) => refVerify_any m pA cA pc cc T T2 W (hp.chg hW (fun _ _ _ => id)) (hc.chg hW (fun _ _ _ => id)) (by omega) (by omega) px)
  have HCR := hide (show CpyRuns m pA cA pc cc w from fun W hW => ((unhide HCP) W hW).mono (by rintro e w' ⟨A', c', B', d', h1, h2, _, _, h3⟩; exact ⟨A', c', B', d', h1, h2, h3⟩))
  rw [hf] at HF
  have HG := hide (ver_ok hv)
  have HSR := hide (show StRuns m pA cA pc cc w from fun W hW => states_any m pA cA pc cc T T2 W (hp.chg hW (fun _ _ _ => id)) (hc.chg hW (fun _ _ _ => id)) (by omega) (by omega) px (codeOk_of (imgE_code (unhide HG).1)))
  have HVE := hide hv
  clear hp hc px lay hf hv
  go_enter Tryd.func3, Tryd.ntmps3
  go_upto_region 4 with (first
    | (go_at_call 7; (with_reducible refine (unhide HA _ (unhide HC1)).mono ?_); rintro e w2 ⟨rfl, hch⟩; have HC2 := hide ((unhide HC1).trans' hch); have HD2 := hide ((unhide HD1).trans' hch); have hk := (unhide HB).chg (unhide HD2) id; have y0 := hk.cell 0; have y1 := hk.cell 1; simp only [List.getElem?_toArray, List.getElem?_cons_zero, List.getElem?_cons_succ] at y0 y1; clear hk; clear hch)
    | (go_at_call 8; (with_reducible refine (unhide HF _ (unhide HC2)).mono ?_); rintro e w3 ⟨rfl, hch⟩; have HC3 := hide ((unhide HC2).trans' hch); have HD3 := hide ((unhide HD2).trans' hch); have hk := (unhide HB).chg (unhide HD3) id; have z0 := hk.cell 0; have z1 := hk.cell 1; simp only [List.getElem?_toArray, List.getElem?_cons_zero, List.getElem?_cons_succ] at z0 z1; clear hk; clear hch)
    | (go_at_call 9; (with_reducible refine (unhide HRV _ (unhide HC3)).mono ?_); rintro e w6 ⟨rfl, hch⟩; have HC6 := hide ((unhide HC3).trans' hch); have HD6 := hide ((unhide HD3).trans' hch); have hk := (unhide HB).chg (unhide HD6) id; have s0 := hk.cell 0; have s1 := hk.cell 1; simp only [List.getElem?_toArray, List.getElem?_cons_zero, List.getElem?_cons_succ] at s0 s1; clear hk; rw [unhide HVE]; clear hch))
  rename_i K hK
  have HK := hide hK
  clear hK
  have HCH := hide ((unhide HC6).drew)
  have HDH := hide ((unhide HD6).drew)
  have tok1 : True := trivial
  have HDN := hide (dep_len (unhide HVE))
  have HON := hide (own_len (unhide HVE))
  refine wp_region_noPanic ?_
  go_region_held3 (fun W' => W'.cell? ⟨w.heap.size, 0, none⟩ = some (.slice pA m.pool.length pc) ∧ W'.cell? ⟨w.heap.size, 1, none⟩ = some (.slice cA m.code.length cc)) (first | exact unhide HKK | go_keep) (first
    | (go_at_call 11; have _t := tok1; (with_reducible refine (unhide HCP _ (unhide HCH)).mono ?_); rintro e wa ⟨A1, c1, B1, d1, rfl, hcp, _, _, hch⟩; (first | (have HN_ := hide ((unhide HX1).later hch); clear HX1; have HX1 := HN_; clear HN_) | skip); (first | (have HN_ := hide ((unhide HX2).later hch); clear HX2; have HX2 := HN_; clear HN_) | skip); (first | (have HN_ := hide ((unhide HDV).chg hch (fun _ _ _ => id)); clear HDV; have HDV := HN_; clear HN_) | skip); (first | (have HN_ := hide ((unhide HOV).chg hch (fun _ _ _ => id)); clear HOV; have HOV := HN_; clear HN_) | skip); have HX1 := hide hcp; have HN_ := hide ((unhide HCH).trans' hch); clear HCH; have HCH := HN_; clear HN_; have HN_ := hide ((unhide HDH).trans' hch); clear HDH; have HDH := HN_; clear HN_; have HKK := hide (show wa.cell? ⟨w.heap.size, 0, none⟩ = some (.slice pA m.pool.length pc) ∧ wa.cell? ⟨w.heap.size, 1, none⟩ = some (.slice cA m.code.length cc) from ⟨((unhide HB).chg (unhide HDH) id).cell 0, ((unhide HB).chg (unhide HDH) id).cell 1⟩); clear tok1 _t hch hcp)
    | (go_at_call 11; (with_reducible refine (unhide HCP _ (unhide HCH)).mono ?_); rintro e wb ⟨A2, c2, B2, d2, rfl, hcp, _, _, hch⟩; (first | (have HN_ := hide ((unhide HX1).later hch); clear HX1; have HX1 := HN_; clear HN_) | skip); (first | (have HN_ := hide ((unhide HX2).later hch); clear HX2; have HX2 := HN_; clear HN_) | skip); (first | (have HN_ := hide ((unhide HDV).chg hch (fun _ _ _ => id)); clear HDV; have HDV := HN_; clear HN_) | skip); (first | (have HN_ := hide ((unhide HOV).chg hch (fun _ _ _ => id)); clear HOV; have HOV := HN_; clear HN_) | skip); have HX2 := hide hcp; have HN_ := hide ((unhide HCH).trans' hch); clear HCH; have HCH := HN_; clear HN_; have HN_ := hide ((unhide HDH).trans' hch); clear HDH; have HDH := HN_; clear HN_; have HKK := hide (show wb.cell? ⟨w.heap.size, 0, none⟩ = some (.slice pA m.pool.length pc) ∧ wb.cell? ⟨w.heap.size, 1, none⟩ = some (.slice cA m.code.length cc) from ⟨((unhide HB).chg (unhide HDH) id).cell 0, ((unhide HB).chg (unhide HDH) id).cell 1⟩); clear hch hcp)
    | (go_at_call 10; (first | (with_reducible refine (unhide HX1).dep.mono ?_) | (with_reducible refine (unhide HX2).dep.mono ?_)); rintro e wd ⟨vd, rfl, hdv, hch⟩; (first | (have HN_ := hide ((unhide HX1).later hch); clear HX1; have HX1 := HN_; clear HN_) | skip); (first | (have HN_ := hide ((unhide HX2).later hch); clear HX2; have HX2 := HN_; clear HN_) | skip); (first | (have HN_ := hide ((unhide HDV).chg hch (fun _ _ _ => id)); clear HDV; have HDV := HN_; clear HN_) | skip); (first | (have HN_ := hide ((unhide HOV).chg hch (fun _ _ _ => id)); clear HOV; have HOV := HN_; clear HN_) | skip); have HDV := hide (hdv.mono (fun _ _ => trivial) : RdI (fun _ => True) _ vd _); have HN_ := hide ((unhide HCH).trans' hch); clear HCH; have HCH := HN_; clear HN_; have HN_ := hide ((unhide HDH).trans' hch); clear HDH; have HDH := HN_; clear HN_; have HKK := hide (show wd.cell? ⟨w.heap.size, 0, none⟩ = some (.slice pA m.pool.length pc) ∧ wd.cell? ⟨w.heap.size, 1, none⟩ = some (.slice cA m.code.length cc) from ⟨((unhide HB).chg (unhide HDH) id).cell 0, ((unhide HB).chg (unhide HDH) id).cell 1⟩); obtain ⟨Ad, cd, rfl⟩ := (show ∃ A c, vd = .slice A m.code.length c from by obtain ⟨A, c, h⟩ := hdv.val; exact ⟨A, c, by rw [h, unhide HDN]⟩); clear hch hdv)
    | (go_at_call 12; (first | (with_reducible refine (unhide HX1).own.mono ?_) | (with_reducible refine (unhide HX2).own.mono ?_)); rintro e wo ⟨vo, rfl, hov, hch⟩; (first | (have HN_ := hide ((unhide HX1).later hch); clear HX1; have HX1 := HN_; clear HN_) | skip); (first | (have HN_ := hide ((unhide HX2).later hch); clear HX2; have HX2 := HN_; clear HN_) | skip); (first | (have HN_ := hide ((unhide HDV).chg hch (fun _ _ _ => id)); clear HDV; have HDV := HN_; clear HN_) | skip); (first | (have HN_ := hide ((unhide HOV).chg hch (fun _ _ _ => id)); clear HOV; have HOV := HN_; clear HN_) | skip); have HOV := hide (hov.mono (fun _ _ => trivial) : RdI (fun _ => True) _ vo _); have HN_ := hide ((unhide HCH).trans' hch); clear HCH; have HCH := HN_; clear HN_; have HN_ := hide ((unhide HDH).trans' hch); clear HDH; have HDH := HN_; clear HN_; have HKK := hide (show wo.cell? ⟨w.heap.size, 0, none⟩ = some (.slice pA m.pool.length pc) ∧ wo.cell? ⟨w.heap.size, 1, none⟩ = some (.slice cA m.code.length cc) from ⟨((unhide HB).chg (unhide HDH) id).cell 0, ((unhide HB).chg (unhide HDH) id).cell 1⟩); obtain ⟨Ao, co, rfl⟩ := (show ∃ A c, vo = .slice A m.code.length c from by obtain ⟨A, c, h⟩ := hov.val; exact ⟨A, c, by rw [h, unhide HON]⟩); clear hch hov))
  all_goals
    refine NoPanic.normal ?_
    refine unhide HK _ _ ?_
    have hd := unhide HDV
    have ho := unhide HOV
    rw [dep_list (unhide HVE)] at hd
    rw [own_list (unhide HVE)] at ho
    exact tells_rest_yes _ _ _ _ _ _ _ _ _ _ _ _ _ _ _ _ _ _ _ _ _ _ _ _ _ _ _ _ _ _ _ _ _ _ _ _ _ _ _ _ _ _ _ _ _ _ _ _ _ _ _ _ _ _ _ _ _ _ _ _ _ _ _ _ _ _ _ _ _ _ _ _ _ _ _ _ _ _ _ _ _ _ _ _ _ _ _ _ _ _ _ _ _ _ _ _ _ _ _ _ _ _ m pA cA pc cc _ cd co Ad Ao w _ (unhide HCH) ((unhide HB).chg (unhide HDH) id) ((unhide HCR).later (unhide HCH)) ((unhide HSR).later (unhide HCH)) (unhide HVE) (unhide HG).2 hd ho hl.2
end Go.Proofs.YtejkaalhjocmgaaDoor
