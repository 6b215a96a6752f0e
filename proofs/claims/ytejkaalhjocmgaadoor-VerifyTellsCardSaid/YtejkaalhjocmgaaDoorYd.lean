/-
  Layer 19: how things stand everywhere: the walk.
-/
import Derived.Test.YtejkaalhjocmgaaDoorYc
import Derived.Deep.LoopGhost
namespace Go.Proofs.YtejkaalhjocmgaaDoor
open Go.RowKit
set_option maxHeartbeats 1000000
set_option maxRecDepth 100000
/-- What comes of it, at the end. -/
def CheckOutP (m : Im) (w : World) (b : Nat) (C : PC) (w' : World) : Prop := ∃ cs, Chg (fun _ => False) w w' ∧ w.heap.size ≤ b ∧
  ((C.bad = true ∧ ¬ Good conB m) ∨ (C.bad = false ∧ Good conB m ∧ AtRep (fun _ => True) w' b cs C.at_ ∧ C.at_.length = m.code.length ∧ (∀ (k : Nat) (p : PSt), C.at_[k]? = some (some p) → 0 ≤ p.height ∧ p.height ≤ 1000 ∧ -1 ≤ p.of ∧ p.of ≤ 100000000) ∧ ∀ (k : Nat) (s : RSt), Reach conB m k s ↔ ∃ p, C.at_[k]? = some (some p) ∧ lift C.has p = s))
theorem CheckOutP.out {m : Im} {w w' : World} {b n : Nat} {C : PC} {x : Bool} (h : CheckOutP m w b C w') (hn : m.code.length = n) (hx : C.bad = x) (k : Nat) : CheckOut m w (.returned (.tuple #[.slice (some ⟨b, 0, none⟩) n n, .bool (!x)])) (w'.drewN k) := by
  subst hn hx
  obtain ⟨cs, h1, h2, h3⟩ := h
  exact ⟨b, cs, C, rfl, h2, h1.drewN k, h3.imp id (fun ⟨a1, a2, a3, a4⟩ => ⟨a1, a2, a3.chg ((Chg.refl (fun _ => False) _).drewN k) id (fun _ _ _ => id) (fun _ _ _ => trivial), a4⟩)⟩
theorem chk_bd {m : Im} {C : PC} (h : PInv conB m C (fun _ => False)) (hn : m.code.length ≤ 1000) (k : Nat) (p : PSt) (hk : C.at_[k]? = some (some p)) : 0 ≤ p.height ∧ p.height ≤ 1000 ∧ -1 ≤ p.of ∧ p.of ≤ 100000000 := by
  have hw := h.wf k p hk
  have h1 := cnt_le C.at_
  have h2 := h.len
  have h3 := hw.lo
  have h4 := hw.hi
  refine ⟨h3, by omega, ?_⟩
  rcases (h.reach _ _ hk).2 with e | e
  · omega
  · obtain ⟨e1, e2⟩ := h.hasA _ e
    have := lt_of_some e2
    omega
theorem check_any (m : Im) (pA cA : Option Addr) (pc cc : Nat) (T T2 : Nat → Prop) (w : World) (hp : Rd T w pA (m.pool.flatMap cstv)) (hc : Rd T2 w cA (m.code.flatMap insv)) (ok : CodeOk m) (hn : m.code.length ≤ 900) (pn : m.pool.length ≤ 100000) (px : ∀ x ∈ m.pool, x.text.size ≤ 9223372036854775807) (lay : Lay w) :
    Calls Tryd.prog 23 #[.agg #[.slice pA m.pool.length pc, .slice cA m.code.length cc]] w fun e w' => CheckOut m w e w' := by
  generalize hnn : m.code.length = n at *
  have b1 := Blk.new w 25 #[.slice pA m.pool.length pc, .slice cA n cc]
  have x0 := b1.cell 0
  have x1 := b1.cell 1
  simp only [List.getElem?_toArray, List.getElem?_cons_zero, List.getElem?_cons_succ] at x0 x1
  have HN := hide hnn
  have hz : (w.alloc (.cells #[.slice pA m.pool.length pc, .slice cA n cc] 25)).heap.size = w.heap.size + 1 := by simp
  have HZ := hide hz
  have c1 := (Chg.refl (fun _ => False) w).alloc (.cells #[.slice pA m.pool.length pc, .slice cA n cc] 25)
  have HC1 := hide c1
  clear hnn hz c1 b1
  have HP := hide hp
  have HC := hide hc
  have HO := hide ok
  have HX := hide px
  have HL := hide lay
  clear hp hc ok px lay
  obtain ⟨i49, hi49, hz49, hs49, hb49⟩ := info_parts info49
  have hmk : ∀ W, (Instr.makeSlice 51 (.int .i64 (n : Int)) (.int .i64 (n : Int))).run Tryd.prog W = .ok (.slice (some ⟨W.heap.size, 0, none⟩) n n) (W.alloc (.cells (madeCells #[.int .i64 0, .int .i64 0, .slice none 0 0, .bool false] (n * 4)) 49)) := fun W => by
    have := run_make (P := Tryd.prog) W 51 49 i49 _ Tryd.underlying51 hi49 hz49 .i64 .i64 n n (by omega) (Int.le_refl _) (by rw [hb49]; omega) (by omega)
    simp only [Int.toNat_natCast, hs49] at this
    exact this
  have HZC := hide (fun k j => made49_at n k j)
  have HZS := hide (size_madeCells #[.int .i64 0, .int .i64 0, .slice none 0 0, .bool false] (n * 4))
  generalize hzc : madeCells #[.int .i64 0, .int .i64 0, .slice none 0 0, .bool false] (n * 4) = zc at *
  have hmm := @run_makeMap Tryd.prog
  clear hzc hi49 hz49 hs49 hb49
  go_enter Tryd.func23, Tryd.ntmps23
  go_upto_region 1 with fail
  generalize w.alloc (.cells #[.slice pA m.pool.length pc, .slice cA n cc] 25) = W1 at *
  have hlt : w.heap.size < W1.heap.size := by have := unhide HZ; omega
  have hlt1 : w.heap.size < W1.heap.size + 1 := Nat.lt_succ_of_lt hlt
  have hlt2 : w.heap.size < W1.heap.size + 2 := Nat.lt_succ_of_lt hlt1
  have hlt3 : w.heap.size < W1.heap.size + 1 + 1 := hlt2
  have kk0 : ∀ o1 o2 o3, (((W1.alloc o1).alloc o2).alloc o3).drew.cell? ⟨w.heap.size, 0, none⟩ = some (.slice pA m.pool.length pc) := fun o1 o2 o3 => (Chg.cell (S := fun _ => False) (p := ⟨w.heap.size, 0, none⟩) ((((Chg.refl _ W1).alloc _).alloc _).alloc _).drew hlt id).trans x0
  have kk1 : ∀ o1 o2 o3, (((W1.alloc o1).alloc o2).alloc o3).drew.cell? ⟨w.heap.size, 1, none⟩ = some (.slice cA n cc) := fun o1 o2 o3 => (Chg.cell (S := fun _ => False) (p := ⟨w.heap.size, 1, none⟩) ((((Chg.refl _ W1).alloc _).alloc _).alloc _).drew hlt id).trans x1
  refine wp_region_noPanic ?_
  go_region_held3 (fun W' => W'.cell? ⟨w.heap.size, 0, none⟩ = some (.slice pA m.pool.length pc) ∧ W'.cell? ⟨w.heap.size, 1, none⟩ = some (.slice cA n cc)) (first | go_keep | exact ⟨kk0 _ _ _, kk1 _ _ _⟩) (fail)
  skip
  refine NoPanic.normal ?_
  try dsimp only
  have kb : Blk (((W1.alloc (.cells zc 49)).alloc (.map #[] 0)).alloc (.cells #[.slice pA m.pool.length pc, .slice cA n cc, .slice (some ⟨W1.heap.size, 0, none⟩) n n, .map (some (W1.heap.size + 1)), .slice none 0 0, .bool false] 67)).drew (W1.heap.size) 49 zc := ((Blk.new W1 49 zc).alloc _).alloc _
  have kc : Blk (((W1.alloc (.cells zc 49)).alloc (.map #[] 0)).alloc (.cells #[.slice pA m.pool.length pc, .slice cA n cc, .slice (some ⟨W1.heap.size, 0, none⟩) n n, .map (some (W1.heap.size + 1)), .slice none 0 0, .bool false] 67)).drew (W1.heap.size + 1 + 1) 67 #[.slice pA m.pool.length pc, .slice cA n cc, .slice (some ⟨W1.heap.size, 0, none⟩) n n, .map (some (W1.heap.size + 1)), .slice none 0 0, .bool false] := Blk.drew (Blk.new_at _ _ _ _ (by simp))
  have km : MapK Tryd.prog 3 3 .i64 ikey (((W1.alloc (.cells zc 49)).alloc (.map #[] 0)).alloc (.cells #[.slice pA m.pool.length pc, .slice cA n cc, .slice (some ⟨W1.heap.size, 0, none⟩) n n, .map (some (W1.heap.size + 1)), .slice none 0 0, .bool false] 67)).drew (W1.heap.size + 1) 0 (fun _ => none) := MapK.drew (MapK.alloc (MapK.made _ Tryd.prog 3 3 .i64 ikey _ (by simp)) _)
  have hc2 : Chg (fun _ => False) w (((W1.alloc (.cells zc 49)).alloc (.map #[] 0)).alloc (.cells #[.slice pA m.pool.length pc, .slice cA n cc, .slice (some ⟨W1.heap.size, 0, none⟩) n n, .map (some (W1.heap.size + 1)), .slice none 0 0, .bool false] 67)).drew := ((((unhide HC1).alloc _).alloc _).alloc _).drew
  have hbs : w.heap.size ≤ W1.heap.size + 1 + 1 ∧ w.heap.size ≤ W1.heap.size ∧ w.heap.size ≤ W1.heap.size + 1 ∧ w.heap.size ≤ ((((W1.alloc (.cells zc 49)).alloc (.map #[] 0)).alloc (.cells #[.slice pA m.pool.length pc, .slice cA n cc, .slice (some ⟨W1.heap.size, 0, none⟩) n n, .map (some (W1.heap.size + 1)), .slice none 0 0, .bool false] 67)).drew).heap.size := ⟨by omega, by omega, by omega, hc2.size⟩
  generalize (((W1.alloc (.cells zc 49)).alloc (.map #[] 0)).alloc (.cells #[.slice pA m.pool.length pc, .slice cA n cc, .slice (some ⟨W1.heap.size, 0, none⟩) n n, .map (some (W1.heap.size + 1)), .slice none 0 0, .bool false] 67)).drew = W2 at *
  generalize W1.heap.size + 1 + 1 = c at *
  generalize hmp : (W1.heap.size + 1 : Nat) = mp at *
  generalize hbb : (W1.heap.size : Nat) = b at *
  clear hbb hmp
  rotate_left 1
  refine NoPanic.normal ?_
  try dsimp only
  have kb : Blk (((W1.alloc (.map #[] 0)).alloc (.cells zc 49)).alloc (.cells #[.slice pA m.pool.length pc, .slice cA n cc, .slice (some ⟨W1.heap.size + 1, 0, none⟩) n n, .map (some W1.heap.size), .slice none 0 0, .bool false] 67)).drew (W1.heap.size + 1) 49 zc := Blk.drew ((Blk.new_at _ (W1.heap.size + 1) 49 zc (by simp)).alloc _)
  have kc : Blk (((W1.alloc (.map #[] 0)).alloc (.cells zc 49)).alloc (.cells #[.slice pA m.pool.length pc, .slice cA n cc, .slice (some ⟨W1.heap.size + 1, 0, none⟩) n n, .map (some W1.heap.size), .slice none 0 0, .bool false] 67)).drew (W1.heap.size + 1 + 1) 67 #[.slice pA m.pool.length pc, .slice cA n cc, .slice (some ⟨W1.heap.size + 1, 0, none⟩) n n, .map (some (W1.heap.size)), .slice none 0 0, .bool false] := Blk.drew (Blk.new_at _ _ _ _ (by simp))
  have km : MapK Tryd.prog 3 3 .i64 ikey (((W1.alloc (.map #[] 0)).alloc (.cells zc 49)).alloc (.cells #[.slice pA m.pool.length pc, .slice cA n cc, .slice (some ⟨W1.heap.size + 1, 0, none⟩) n n, .map (some W1.heap.size), .slice none 0 0, .bool false] 67)).drew (W1.heap.size) 0 (fun _ => none) := MapK.drew (MapK.alloc (MapK.alloc (MapK.made W1 Tryd.prog 3 3 .i64 ikey W1.heap.size rfl) _) _)
  have hc2 : Chg (fun _ => False) w (((W1.alloc (.map #[] 0)).alloc (.cells zc 49)).alloc (.cells #[.slice pA m.pool.length pc, .slice cA n cc, .slice (some ⟨W1.heap.size + 1, 0, none⟩) n n, .map (some W1.heap.size), .slice none 0 0, .bool false] 67)).drew := ((((unhide HC1).alloc _).alloc _).alloc _).drew
  have hbs : w.heap.size ≤ W1.heap.size + 1 + 1 ∧ w.heap.size ≤ W1.heap.size + 1 ∧ w.heap.size ≤ W1.heap.size ∧ w.heap.size ≤ ((((W1.alloc (.map #[] 0)).alloc (.cells zc 49)).alloc (.cells #[.slice pA m.pool.length pc, .slice cA n cc, .slice (some ⟨W1.heap.size + 1, 0, none⟩) n n, .map (some W1.heap.size), .slice none 0 0, .bool false] 67)).drew).heap.size := ⟨by omega, by omega, by omega, hc2.size⟩
  generalize (((W1.alloc (.map #[] 0)).alloc (.cells zc 49)).alloc (.cells #[.slice pA m.pool.length pc, .slice cA n cc, .slice (some ⟨W1.heap.size + 1, 0, none⟩) n n, .map (some W1.heap.size), .slice none 0 0, .bool false] 67)).drew = W2 at *
  generalize W1.heap.size + 1 + 1 = c at *
  generalize hbb : (W1.heap.size + 1 : Nat) = b at *
  generalize hmp : (W1.heap.size : Nat) = mp at *
  clear hbb hmp
  all_goals
    have HBG := hide (show Calls Tryd.prog 32 #[.pointer (some ⟨c, 0, none⟩), .int .i64 0, .agg #[.int .i64 (-1), .int .i64 0, .slice none 0 0, .bool false]] W2 fun e w' => e = .returned (.tuple #[]) ∧ Chk m w pA cA pc cc c b mp (2 * n) w' from by
      have hn' := unhide HN
      subst hn'
      exact chk_begin (CMem.zero kb (unhide HZS) (unhide HZC) kc km hbs) hc2 (by omega))
    clear kb kc km hc2 hmk hmm kk0 kk1 x0 x1
    go_wp2_with (go_at_call 32; refine (unhide HBG).mono ?_; rintro e w3 ⟨rfl, hck⟩; have HCK := hide hck; clear hck)
    go_loopg [5] (2 * n) (fun k _ wr => Chk m w pA cA pc cc c b mp k wr)
    case atStart => exact unhide HCK
    case round =>
      obtain ⟨wq, rfl⟩ : ∃ wq : World, wq = wr := ⟨_, rfl⟩
      obtain ⟨C, L, A5, c5, f, cs, hm, hch, hat, hmu, hL, hP⟩ := hrel
      have x2 := hm.ck.cell 2
      have x4 := hm.ck.cell 4
      have x5 := hm.ck.cell 5
      have g4 := hm.ck.frozen 4
      simp only [List.getElem?_toArray, List.getElem?_cons_zero, List.getElem?_cons_succ] at x2 x4 x5
      rw [unhide HN] at x2
      by_cases hw : C.work = []
      · have hd0 : decide ((0 : Int) < (C.work.length : Int)) = false := by rw [hw]; rfl
        have hd1 : decide (0 < C.work.length) = false := by rw [hw]; rfl
        have hout : CheckOutP m w b C wq := by
          refine ⟨cs, hch.mono (fun i hi e => absurd e (by omega)), hm.base_.2.1, ?_⟩
          rcases hP with ⟨h1, h2⟩ | h1
          · exact .inl ⟨h1, h2⟩
          · exact .inr ⟨h1.good, (h1.end_ hw).1, hm.ats.chg (Chg.refl (fun _ => False) _) id (fun _ _ _ => id) (fun _ _ _ => trivial), hat, chk_bd h1 (by have := unhide HN; omega), (h1.end_ hw).2⟩
        have HOUT := hide hout
        cases hb : C.bad
        all_goals
          rw [hb] at x5
          have HB := hide hb
          clear hb hP hm hch hat hmu hL hout hw g4
          go_wp2_with fail
          go_quiet (fail)
          go_wp2_with fail
          go_ret2
          exact (unhide HOUT).out (unhide HN) (unhide HB) _
      · have hlp := List.length_pos_iff.2 hw
        have hd0 : decide ((0 : Int) < (C.work.length : Int)) = true := decide_eq_true (by omega)
        have hd1 : decide (0 < C.work.length) = true := decide_eq_true hlp
        have hwl : C.work.length ≤ 2 * n := by
          have : C.work.length ≤ mu m.code.length C := Nat.le_add_left _ _
          have := unhide HN
          omega
        rcases hP with ⟨hbad, hng⟩ | hP
        · have HOUT := hide (show CheckOutP m w b C wq from ⟨cs, hch.mono (fun i hi e => absurd e (by omega)), hm.base_.2.1, .inl ⟨hbad, hng⟩⟩)
          rw [hbad] at x5
          have HB := hide hbad
          clear hbad hng hm hch hat hmu hL hw g4
          go_wp2_with fail
          go_quiet (fail)
          go_wp2_with fail
          go_ret2
          exact (unhide HOUT).out (unhide HN) (unhide HB) _
        · rw [hP.good] at x5
          obtain ⟨at_, hk⟩ : ∃ at_, C.work.getLast? = some at_ := ⟨_, List.getLast?_eq_some_getLast hw⟩
          obtain ⟨g, rfl⟩ : ∃ g, A5 = some ⟨g, 0, none⟩ := by
            obtain ⟨_, hv | ⟨g, cap, cur, hv, _⟩⟩ := hm.wk
            · omega
            · injection hv with h1 _ _
              exact ⟨g, h1⟩
          have hcap : C.work.length ≤ c5 := by
            obtain ⟨_, hv | ⟨g', cap, cur, hv, _, _, h5, _⟩⟩ := hm.wk
            · omega
            · injection hv with _ _ h3
              omega
          have hc5 : c5 ≤ 9223372036854775807 := by
            obtain ⟨_, hv | ⟨g', cap, cur, hv, _, _, _, h5, _⟩⟩ := hm.wk
            · omega
            · injection hv with _ _ h3
              simp only [maxLen] at h5
              omega
          have q0 := hm.wk.cells (g := g) rfl (C.work.length - 1) (intl (at_ : Int)) (by rw [List.getElem?_map, ← List.getLast?_eq_getElem?, hk]; rfl)
          rw [add_flat, Nat.zero_add] at q0
          unfold intl at q0
          have HDO := hide (fun a => show Calls Tryd.prog 33 #[.pointer (some ⟨c, 0, none⟩), .int .i64 (at_ : Int)] ((wq.drewN a).setCell ⟨c, 4, none⟩ (.slice (some ⟨g, 0, none⟩) (C.work.length - 1) c5)) fun e w' => e = .returned (.tuple #[]) ∧ ∃ k, k < mu m.code.length C ∧ Chk m w pA cA pc cc c b mp k w' from by
            have hn' := unhide HN
            exact chk_do hm hch hat hL hP hk (W := wq.drewN a) ((Chg.refl _ wq).drewN a) (unhide HP) (by rw [hn'] at *; exact unhide HC) (unhide HO) (by omega) pn (unhide HX) (unhide HL))
          have HMU := hide hmu
          have hcl := hm.ck.lt
          have gne := Ne.symm (show g ≠ c from fun e => hm.noc (by rw [e]; rfl))
          clear hP hm hch hat hmu hL hk hw x2
          go_wp2_with fail
          go_quiet (fail)
          go_wp2_with fail
          refine wp_region_noPanic ?_
          go_region
          all_goals
            refine NoPanic.normal ?_
            try dsimp only
            go_wp2_with (go_at_call 33; refine (unhide HDO _).mono ?_; rintro e w4 ⟨rfl, hh⟩; have HH := hide hh; clear hh)
            obtain ⟨k2, hk2, hck⟩ := unhide HH
            go_roundg k2
            case measure => have := unhide HMU; omega
            case rel => exact hck
end Go.Proofs.YtejkaalhjocmgaaDoor
