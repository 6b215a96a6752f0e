/-
  Layer 23: what reads bytes: openings, fixities, rows.
-/
import Derived.Test.YtinekmjengckdaaGreatDoorA31
import Derived.Test.YtinekmjengckdaaGreatDoorA14
import Derived.Test.YtinekmjengckdaaGreatDoorA26
namespace Go.Proofs.YtinekmjengckdaaGreatDoor
open Go.RowKit
set_option maxHeartbeats 4000000
set_option maxRecDepth 100000
theorem infoOpn : (Tryz.prog.info? 51).map (fun i => (i.zero, i.size, i.bytes)) = some (some (.agg #[.string ⟨#[]⟩, .int .u32 0]), 2, 24) := by kernel_rfl
def RE_open : (Nat → Prop) → World → Value → Opn → Prop := fun _ _ _ o => o.name.size ≤ 9223372036854775807 ∧ 0 ≤ o.digest ∧ o.digest < 4294967296
theorem RE_open_ok : REok RE_open := ⟨fun h _ _ => h, fun h _ => h, fun h => h⟩
theorem rrow_open (st : Option (List UInt8)) (g : Nat) (w : World) (h : StAt w g st) :
    Calls Tryz.prog 58 #[.pointer (some ⟨g, 0, none⟩), .func (.func 59) #[.pointer (some ⟨g, 0, none⟩)] #[]] w (Got (pRow pOpn) (fun l => (rowP opnP l).length) (6 + 2) (fun l => l.length ≤ 4000 ∧ ∀ x ∈ l, OpnFit x) (fun base _ W v l => RowIn (fun o _ => [.string o.name, .int .u32 o.digest]) RE_open 51 2 base W v l) g st w) := by
  obtain ⟨i_, hi, hz, hs, hb⟩ := info_parts infoOpn
  have HN := hH (rnum2_any st g w h)
  have hglt := h.lt
  clear h
  go_enter Tryz.func58, Tryz.ntmps58
  go_upto_region 2 with (go_at_call 123; refine (uH HN).mono ?_; rintro e w2 ⟨v, n, st1, rfl, rfl, hok, hst, hch, hnx, hln⟩; have HST := hH hst; have HCH := hH hch; have HNX := hH hnx; have HLN := hH hln; have HOK := hH hok; clear hst hch hnx hln hok)
  obtain ⟨stB, HB⟩ : ∃ stB : Option (List UInt8), Hid (stB = if 4000 < n then none else st1) := ⟨_, rfl⟩
  by_cases h4 : 4000 < n
  · have h4' : (4000 : Int) < (n : Int) := by omega
    have hsB : stB = none := by rw [uH HB, if_pos h4]
    obtain ⟨s, hs8, hbk⟩ := uH HST
    have hbb : ∃ b : Bool, Blk w2 g 92 #[.string s, .bool b] := by
      cases st1 with
      | none => exact ⟨true, hbk⟩
      | some r => exact ⟨false, hbk.2⟩
    obtain ⟨bb, hbb⟩ := hbb
    have q1 := hbb.cell 1
    have f1 := hbb.frozen 1
    simp only [List.getElem?_toArray, List.getElem?_cons_zero, List.getElem?_cons_succ] at q1
    have HSTB := hH (show StAt (w2.setCell ⟨g, 1, none⟩ (.bool true)) g stB from by
      rw [hsB]
      exact ⟨s, hs8, by have := hbb.set_ 1 (.bool true); simpa using this⟩)
    have HCHB := hH ((uH HCH).setCell (p := ⟨g, 1, none⟩) (fun _ => rfl) (.bool true))
    have HMA := hH (show ManyAt pOpn n st1 0 [] stB from by rw [hsB]; exact ManyAt.great h4)
    have HLB := hH (show 0 + lenS stB ≤ lenS st1 + 6 from by rw [hsB]; exact Nat.zero_le _)
    clear hbk hbb hs8 hsB
    clear HST
    go_wp2_with fail
    go_loopw [6, 7] (fun vo t wr => ∃ (k : Nat) (l : List _) (stk : Option (List UInt8)), t = .int .i64 (k : Int) ∧ k ≤ n ∧ (4000 < n → stk = none) ∧ RowIn (fun o _ => [.string o.name, .int .u32 o.digest]) RE_open 51 2 w.heap.size wr vo l ∧ StAt wr g stk ∧ Chg (· = g) w wr ∧ l.length = k ∧ (k = 0 ∨ n ≤ 4000) ∧ (∀ x ∈ l, OpnFit x) ∧ ManyAt pOpn n st1 k l stk ∧ (l.flatMap opnP).length + lenS stk ≤ lenS st1 + 6 ∧ (∀ r, stk = some r → (l.flatMap opnP).length + lenS stk ≤ lenS st1)) (fun _ t _ => n - (intOf t).toNat)
    case atStart => exact ⟨0, [], stB, rfl, Nat.zero_le _, fun h => by rw [uH HB, if_pos h], RowIn.nil _, uH HSTB, uH HCHB, rfl, .inl rfl, fun x h => (by cases h), uH HMA, uH HLB, fun r hr => by
      have := uH HB
      by_cases h7 : 4000 < n
      · rw [if_pos h7, hr] at this
        cases this
      · rw [if_neg h7] at this
        rw [this]
        simp⟩
    case round =>
      clear HSTB HCHB HMA HLB HB stB
      obtain ⟨wq, rfl⟩ : ∃ wq : World, wq = wr := ⟨_, rfl⟩
      obtain ⟨k, l, stk, rfl, hk, hgt, hrow, hst, hch, hll, hk0, hokl, hma, hml, hml2⟩ := hrel
      by_cases hex : k < n ∧ ∃ r, stk = some r
      · obtain ⟨hkn, r, rfl⟩ := hex
        have hki : (k : Int) < (n : Int) := by omega
        have hn4 : n ≤ 4000 := by
          rcases Nat.lt_or_ge 4000 n with h7 | h7
          · cases hgt h7
          · exact h7
        omega
      · have hend : stk = none ∨ n ≤ k := by
          cases stk with
          | none => exact .inl rfl
          | some r => exact .inr (Nat.le_of_not_lt fun h7 => hex ⟨h7, r, rfl⟩)
        obtain ⟨s, hs8, hbk⟩ := hst
        have hbb : ∃ b : Bool, Blk wq g 92 #[.string s, .bool b] ∧ ((k : Int) < (n : Int) → b = true) := by
          cases stk with
          | none => exact ⟨true, hbk, fun _ => rfl⟩
          | some r => exact ⟨false, hbk.2, fun h7 => absurd ⟨by omega, r, rfl⟩ hex⟩
        obtain ⟨bb, hbb, hbt⟩ := hbb
        have q1 := hbb.cell 1
        simp only [List.getElem?_toArray, List.getElem?_cons_zero, List.getElem?_cons_succ] at q1
        have HFIN := hH (hma.fin hend)
        have HSTQ := hH (show StAt wq g stk from ⟨s, hs8, hbk⟩)
        have HROW := hH hrow
        have HCQ := hH hch
        have HREST := hH (And.intro hll (And.intro hokl (And.intro hml hk0)))
        clear hbk hbb hma hrow hch hll hokl hml hml2 hex hend hk0 hgt
        have fin : ∀ W : World, W = wq → bodyPost Tryz.prog Tryz.f0 (fun _ _ => True) .ret ⟨#[], []⟩ W → True := fun _ _ _ => trivial
        by_cases hkn : (k : Int) < (n : Int)
        · have hbt2 := hbt hkn
          subst hbt2
          go_wp2_with fail
          go_ret
          obtain ⟨hll, hokl, hml, hk0⟩ := uH HREST
          have h1 := uH HLN
          refine ⟨_, l, stk, rfl, uH HROW, ⟨by rcases hk0 with h7 | h7 <;> omega, hokl⟩, uH HSTQ, uH HCQ, NextSt.seq (uH HNX) (uH HFIN), ?_⟩
          (try dsimp only at h1 ⊢)
          unfold rowP
          rw [List.length_append, low_len]
          omega
        · clear hbt
          go_wp2_with fail
          go_ret
          obtain ⟨hll, hokl, hml, hk0⟩ := uH HREST
          have h1 := uH HLN
          refine ⟨_, l, stk, rfl, uH HROW, ⟨by rcases hk0 with h7 | h7 <;> omega, hokl⟩, uH HSTQ, uH HCQ, NextSt.seq (uH HNX) (uH HFIN), ?_⟩
          (try dsimp only at h1 ⊢)
          unfold rowP
          rw [List.length_append, low_len]
          omega
  · have h4' : ¬ (4000 : Int) < (n : Int) := by omega
    have hsB : stB = st1 := by rw [uH HB, if_neg h4]
    have HSTB := hH (show StAt w2 g stB from by rw [hsB]; exact uH HST)
    have HCHB := HCH
    have HMA := hH (show ManyAt pOpn n st1 0 [] stB from by rw [hsB]; exact ManyAt.start (by omega))
    have HLB := hH (show 0 + lenS stB ≤ lenS st1 + 6 from by rw [hsB]; omega)
    clear hsB
    clear HST
    go_wp2_with fail
    go_loopw [6, 7] (fun vo t wr => ∃ (k : Nat) (l : List _) (stk : Option (List UInt8)), t = .int .i64 (k : Int) ∧ k ≤ n ∧ (4000 < n → stk = none) ∧ RowIn (fun o _ => [.string o.name, .int .u32 o.digest]) RE_open 51 2 w.heap.size wr vo l ∧ StAt wr g stk ∧ Chg (· = g) w wr ∧ l.length = k ∧ (k = 0 ∨ n ≤ 4000) ∧ (∀ x ∈ l, OpnFit x) ∧ ManyAt pOpn n st1 k l stk ∧ (l.flatMap opnP).length + lenS stk ≤ lenS st1 + 6 ∧ (∀ r, stk = some r → (l.flatMap opnP).length + lenS stk ≤ lenS st1)) (fun _ t _ => n - (intOf t).toNat)
    case atStart => exact ⟨0, [], stB, rfl, Nat.zero_le _, fun h => by rw [uH HB, if_pos h], RowIn.nil _, uH HSTB, uH HCHB, rfl, .inl rfl, fun x h => (by cases h), uH HMA, uH HLB, fun r hr => by
      have := uH HB
      by_cases h7 : 4000 < n
      · rw [if_pos h7, hr] at this
        cases this
      · rw [if_neg h7] at this
        rw [this]
        simp⟩
    case round =>
      clear HSTB HCHB HMA HLB HB stB
      obtain ⟨wq, rfl⟩ : ∃ wq : World, wq = wr := ⟨_, rfl⟩
      obtain ⟨k, l, stk, rfl, hk, hgt, hrow, hst, hch, hll, hk0, hokl, hma, hml, hml2⟩ := hrel
      by_cases hex : k < n ∧ ∃ r, stk = some r
      · obtain ⟨hkn, r, rfl⟩ := hex
        have hki : (k : Int) < (n : Int) := by omega
        have hn4 : n ≤ 4000 := by
          rcases Nat.lt_or_ge 4000 n with h7 | h7
          · cases hgt h7
          · exact h7
        have HE := hH (open_get (some r) g wq hst)
        obtain ⟨s, hs8, hsr, hbk⟩ := hst
        have q1 := hbk.cell 1
        simp only [List.getElem?_toArray, List.getElem?_cons_zero, List.getElem?_cons_succ] at q1
        have HROW := hH hrow
        have HCQ := hH hch
        have HREST := hH (And.intro hll (And.intro hokl (And.intro hma (hml2 r rfl))))
        clear hrow hbk hch hll hokl hma hml hml2 hk0 hgt
        go_wp2_with (first
          | (go_at_call 59
             refine (uH HE).mono ?_
             rintro e w3 ⟨v, x, st3, rfl, hR, hokx, hst3, hch3, hnx3, hln3⟩
             obtain rfl := hR
             obtain ⟨ps, hp1, hp2, hp3⟩ := (uH HROW).stay RE_open_ok hglt hch3
             have hown1 : ∀ j, u6.ownBlock = some j → j < wq.heap.size := by
               obtain ⟨_, _, h9, _⟩ := uH HROW
               exact fun j hj => (h9.lt j hj).2
             obtain ⟨OA, oc, hu6⟩ := own_val hp2
             have hpl : ps.length = k := by rw [← (uH HREST).1, ← hp1, List.length_map]
             have hbw : w.heap.size ≤ (w3.alloc (.cells #[.string x.name, .int .u32 x.digest] 51)).heap.size := by rw [size_alloc]; have := (uH HCQ).size; have := hch3.size; omega
             have HSTEP := hH (fun W3 v3 O (ho : W3.ownsRow w.heap.size 51 2 v3 (k + 1) ((ps.flatMap fun p => ((fun o _ => [.string o.name, .int .u32 o.digest])) p.1 p.2) ++ [.string x.name, .int .u32 x.digest])) => RowIn.step (f := (fun o _ => [.string o.name, .int .u32 o.digest])) (T := 51) (sz := 2) (W3 := W3) (v3 := v3) (O := O) RE_open_ok hp2 hp3 hown1 (uH HCQ).size hch3.size (u := .slice none 0 0) ⟨by have := hokx.1; omega, hokx.2⟩ (by rw [hpl]; exact ho))
             rw [hpl] at hp2 hu6
             have HOW := hH (hp2.alloc (.cells #[.string x.name, .int .u32 x.digest] 51))
             have HRN := hH ((rd_new w3 w3.heap.size 51 [.string x.name, .int .u32 x.digest] rfl).mono (T' := fun _ => True) (fun _ _ => trivial))
             have HST3 := hH hst3
             have HCH3 := hH ((uH HCQ).trans' hch3)
             have HN3 := hH (And.intro hokx (And.intro hnx3 hln3))
             have HP1 := hH hp1
             have HOWN := hH (fun j hj => (hp2.lt j hj).1)
             subst hu6
             clear hp1 hp2 hp3 hst3 hch3 hnx3 hln3 hokx hown1 hpl)
          | (at_builtin
             refine wpList_append_rd _ rfl (.tmp 27) (.tmp 30) 22 rfl w.heap.size 51 i_ (.agg #[.string ⟨#[]⟩, .int .u32 0]) 2 24 Tryz.underlying22 hi hz hs hb rfl (by decide) _ k _ rfl (uH HOW) (fun _ => True) (some ⟨w3.heap.size, 0, none⟩) 1 1 [.string x.name, .int .u32 x.digest] rfl rfl (uH HRN) (by intro u hu; simp at hu; rcases hu with rfl | rfl <;> rfl) (by simp only [maxLen]; omega) (by omega) hbw ?_
             intro v5 w5 ho5 hc5 hat
             have HR5 := hH (uH HSTEP w5 v5 _ ho5 hc5 hat)
             have HST5 := hH (((uH HST3).chg ((Chg.refl (fun _ => False) w3).alloc (.cells #[.string x.name, .int .u32 x.digest] 51)) id).chg hc5 (fun e => by have := uH HOWN _ e; omega))
             have HCH5 := hH (((uH HCH3).alloc (.cells #[.string x.name, .int .u32 x.digest] 51)).trans hc5 (fun i hi e => by have := uH HOWN _ e; omega))
             clear ho5 hc5 hat))
        go_roundw
        case rel =>
          obtain ⟨hll, hokl, hma, hml2⟩ := uH HREST
          obtain ⟨hokx, hnx3, hln3⟩ := uH HN3
          refine ⟨k + 1, l ++ [x], st3, by go_num, by omega, fun h7 => by omega, ?_, uH HST5, uH HCH5, by rw [List.length_append, hll]; rfl, .inr hn4, fun y hy => ?_, hma.step hkn hnx3, ?_, fun r3 hr3 => ?_⟩
          · rw [← uH HP1]
            exact uH HR5
          · rcases List.mem_append.1 hy with hy | hy
            · exact hokl y hy
            · obtain rfl := List.mem_singleton.1 hy
              exact hokx
          · have e : (l ++ [x]).flatMap opnP = l.flatMap opnP ++ opnP x := by simp
            rw [e, List.length_append]
            (try dsimp only at hln3)
            omega
          · have e : (l ++ [x]).flatMap opnP = l.flatMap opnP ++ opnP x := by simp
            rw [e, List.length_append]
            have hl9 : r.length = (opnP x).length + r3.length := opn_len r x r3 (by
              subst hr3
              unfold NextSt at hnx3
              rw [Option.bind_some] at hnx3
              cases e9 : (pOpn) r with
              | none => rw [e9] at hnx3; cases hnx3
              | some y9 =>
                rw [e9] at hnx3
                obtain ⟨h91, h92⟩ := hnx3
                injection h92 with h92
                rw [h91, h92])
            subst hr3
            show (l.flatMap opnP).length + (opnP x).length + r3.length ≤ lenS st1
            have hml3 : (l.flatMap opnP).length + r.length ≤ lenS st1 := hml2
            omega
        case measure => simp [intOf]; omega
      · have hend : stk = none ∨ n ≤ k := by
          cases stk with
          | none => exact .inl rfl
          | some r => exact .inr (Nat.le_of_not_lt fun h7 => hex ⟨h7, r, rfl⟩)
        obtain ⟨s, hs8, hbk⟩ := hst
        have hbb : ∃ b : Bool, Blk wq g 92 #[.string s, .bool b] ∧ ((k : Int) < (n : Int) → b = true) := by
          cases stk with
          | none => exact ⟨true, hbk, fun _ => rfl⟩
          | some r => exact ⟨false, hbk.2, fun h7 => absurd ⟨by omega, r, rfl⟩ hex⟩
        obtain ⟨bb, hbb, hbt⟩ := hbb
        have q1 := hbb.cell 1
        simp only [List.getElem?_toArray, List.getElem?_cons_zero, List.getElem?_cons_succ] at q1
        have HFIN := hH (hma.fin hend)
        have HSTQ := hH (show StAt wq g stk from ⟨s, hs8, hbk⟩)
        have HROW := hH hrow
        have HCQ := hH hch
        have HREST := hH (And.intro hll (And.intro hokl (And.intro hml hk0)))
        clear hbk hbb hma hrow hch hll hokl hml hml2 hex hend hk0 hgt
        have fin : ∀ W : World, W = wq → bodyPost Tryz.prog Tryz.f0 (fun _ _ => True) .ret ⟨#[], []⟩ W → True := fun _ _ _ => trivial
        by_cases hkn : (k : Int) < (n : Int)
        · have hbt2 := hbt hkn
          subst hbt2
          go_wp2_with fail
          go_ret
          obtain ⟨hll, hokl, hml, hk0⟩ := uH HREST
          have h1 := uH HLN
          refine ⟨_, l, stk, rfl, uH HROW, ⟨by rcases hk0 with h7 | h7 <;> omega, hokl⟩, uH HSTQ, uH HCQ, NextSt.seq (uH HNX) (uH HFIN), ?_⟩
          (try dsimp only at h1 ⊢)
          unfold rowP
          rw [List.length_append, low_len]
          omega
        · clear hbt
          go_wp2_with fail
          go_ret
          obtain ⟨hll, hokl, hml, hk0⟩ := uH HREST
          have h1 := uH HLN
          refine ⟨_, l, stk, rfl, uH HROW, ⟨by rcases hk0 with h7 | h7 <;> omega, hokl⟩, uH HSTQ, uH HCQ, NextSt.seq (uH HNX) (uH HFIN), ?_⟩
          (try dsimp only at h1 ⊢)
          unfold rowP
          rw [List.length_append, low_len]
          omega
theorem rrows_open (st : Option (List UInt8)) (g : Nat) (w : World) (h : StAt w g st) :
    Calls Tryz.prog 58 #[.pointer (some ⟨g, 0, none⟩), .func (.func 59) #[.pointer (some ⟨g, 0, none⟩)] #[]] w (Got (pRow pOpn) (fun l => (rowP opnP l).length) (6 + 2) (fun l => l.length ≤ 4000 ∧ ∀ x ∈ l, OpnFit x) (fun base _ W v l => RdO (fun b => base ≤ b) W v l ∧ capOk v) g st w) :=
  (rrow_open st g w h).mono fun e w' hh => hh.mono fun v x hok hr => hr.rd RE_open_ok (by decide) hok.1
theorem fix_get (st : Option (List UInt8)) (g : Nat) (w : World) (h : StAt w g st) :
    Calls Tryz.prog 63 #[.pointer (some ⟨g, 0, none⟩)] w (Got pFx (fun x => (fxP x).length) 4 FxFit (fun _base _ _W v x => v = .agg #[.string x.op, .int .i64 x.level, .int .i64 x.side]) g st w) := by
  have HN := hH (rtext_any st g (w.alloc (.cells #[.string ⟨#[]⟩, .int .i64 0, .int .i64 0] 53)) (h.chg ((Chg.refl (fun _ => False) w).alloc _) id))
  have hglt := h.lt
  have HBX := hH (Blk.new w 53 #[.string ⟨#[]⟩, .int .i64 0, .int .i64 0])
  have HC0 := hH ((Chg.refl (· = g) w).alloc (.cells #[.string ⟨#[]⟩, .int .i64 0, .int .i64 0] 53))
  have hgne : ¬ w.heap.size = g := by omega
  clear h
  go_enter Tryz.func63, Tryz.ntmps63
  go_upto_region 1 with fail
  go_wp2_with (first
    | (go_at_call 57; refine (uH HN).mono ?_; rintro e w2 ⟨v, x, st1, rfl, rfl, hok, hst, hch, hnx, hln⟩; have hal := (Chg.refl (fun _ => False) w2).alloc (.cells #[.string x, .int .i64 0, .int .i64 0] 53); have HB2 := hH (((uH HBX).chg hch hgne).chg hal id); have HN2 := hH (rnum1_any st1 g (w2.alloc (.cells #[.string x, .int .i64 0, .int .i64 0] 53)) (hst.chg hal id)); have HA2 := hH (Blk.new w2 53 #[.string x, .int .i64 0, .int .i64 0]); have hz1 := hch.size; have hz2 := ((uH HBX).chg hch hgne).lt; have hne1 : ¬ w2.heap.size = g := (by omega); have hne2 : ¬ w2.heap.size = w.heap.size := (by omega); have hne3 : ¬ w.heap.size = w2.heap.size := (by omega); have HCH2 := hH (((uH HC0).trans' hch).alloc (.cells #[.string x, .int .i64 0, .int .i64 0] 53)); have HS2 := hH (show w2.heap.size + 1 ≤ (w2.alloc (.cells #[.string x, .int .i64 0, .int .i64 0] 53)).heap.size from (by rw [size_alloc]; exact Nat.le_refl _)); have HX2 := hH (And.intro hok (And.intro hnx hln)); clear hst hch hnx hln hok hal hz1 HN HBX HC0)
    | (go_at_call 123; refine (uH HN2).mono ?_; rintro e w3 ⟨v, y, st2, rfl, rfl, hok, hst, hch, hnx, hln⟩; have hb := (uH HB2).chg hch hgne; have ha := (uH HA2).chg hch hne1; have fa1 := ha.frozen 1; have pa1 := ha.cell 1; simp only [List.getElem?_toArray, List.getElem?_cons_zero, List.getElem?_cons_succ] at pa1; have HB3 := hH (hb.chg ((Chg.refl (· = w2.heap.size) w3).setCell (p := ⟨w2.heap.size, 1, none⟩) (fun _ => rfl) (.int .i64 y)) hne3); have HA3 := hH (show Blk (w3.setCell ⟨w2.heap.size, 1, none⟩ (.int .i64 y)) w2.heap.size 53 #[.string x, .int .i64 y, .int .i64 0] from (by have := ha.set_ 1 (.int .i64 y); simpa using this)); have HN3 := hH (rnum1_any st2 g (w3.setCell ⟨w2.heap.size, 1, none⟩ (.int .i64 y)) (hst.chg ((Chg.refl (· = w2.heap.size) w3).setCell (p := ⟨w2.heap.size, 1, none⟩) (fun _ => rfl) (.int .i64 y)) (fun e => hne1 e.symm))); have hs := hch.size; have hs2 := uH HS2; have HS3 := hH (show w2.heap.size + 1 ≤ (w3.setCell ⟨w2.heap.size, 1, none⟩ (.int .i64 y)).heap.size from (by simp only [World.setCell, Array.size_modify]; omega)); have HCH3 := hH (((uH HCH2).trans' hch).setCell (p := ⟨w2.heap.size, 1, none⟩) (fun h => (by dsimp only at h; omega)) (.int .i64 y)); have HX3 := hH (And.intro hok (And.intro hnx hln)); clear hst hch hnx hln hok hb ha hs hs2)
    | (go_at_call 123; refine (uH HN3).mono ?_; rintro e w4 ⟨v, z, st3, rfl, rfl, hok, hst, hch, hnx, hln⟩; have hws : wrap64 ((z : Int) - 1) = (z : Int) - 1 := w64 _ (by omega); have hb := (uH HB3).chg hch hgne; have ha := (uH HA3).chg hch hne1; have q0 := hb.cell 0; have f0 := hb.frozen 0; have p0 := ha.cell 0; have q1 := hb.cell 1; have f1 := hb.frozen 1; have p1 := ha.cell 1; have q2 := hb.cell 2; have f2 := hb.frozen 2; have p2 := ha.cell 2; have e2 := ha.frozen 2; simp only [List.getElem?_toArray, List.getElem?_cons_zero, List.getElem?_cons_succ] at q0 p0 q1 p1 q2 p2; have HCHE := hH ((uH HCH3).trans' hch); have HSTE := hH hst; have hs := hch.size; have hs2 := uH HS3; have HS4 := hH (show w2.heap.size + 1 ≤ w4.heap.size from (by omega)); have HX4 := hH (And.intro hok (And.intro hnx hln)); clear hst hch hnx hln hok hb ha hs hs2))
  obtain ⟨hok2, hnx2, hln2⟩ := uH HX2
  obtain ⟨hok3, hnx3, hln3⟩ := uH HX3
  obtain ⟨hok4, hnx4, hln4⟩ := uH HX4
  refine bodyPost_ret (v := .agg #[.string x, .int .i64 y, .int .i64 ((z : Int) - 1)]) (by simp [results, Tryz.results63, go_sem, q0, q1, q2]) rfl ⟨_, ⟨x, (y : Int), (z : Int) - 1⟩, st3, rfl, ?_, ⟨hok2, ⟨Int.natCast_nonneg _, by show (y : Int) < 256; omega⟩, by show -1 ≤ (z : Int) - 1; omega, by show (z : Int) - 1 < 255; omega⟩, ?_, ?_, NextSt.seq (q := fun t => seqT (pNum 1) fun (n : Nat) => mapT (fun (y : Nat) => (⟨t, (n : Int), (y : Int) - 1⟩ : Fx)) (pNum 1)) hnx2 (NextSt.seq (q := fun (n : Nat) => mapT (fun (y : Nat) => (⟨x, (n : Int), (y : Int) - 1⟩ : Fx)) (pNum 1)) hnx3 (hnx4.map (fun (z : Nat) => (⟨x, (y : Int), (z : Int) - 1⟩ : Fx)))), ?_⟩
  · rfl
  · refine StAt.chg (S := (· ≠ g)) (W := w4) (uH HSTE) ?_ (fun h => h rfl)
    repeat (refine Chg.setCell ?_ (fun _ => (by first | exact hgne | exact hne1)) _)
    exact Chg.refl _ _
  · repeat (refine Chg.setCell ?_ (fun h => (by dsimp only at h; omega)) _)
    exact uH HCHE
  · have e : (fxP ⟨x, (y : Int), (z : Int) - 1⟩).length = 4 + x.size := by
      unfold fxP
      rw [List.length_append, List.length_append, low_len, low_len, text_plen]
      (try dsimp only)
      omega
    (try dsimp only at hln2 hln3 hln4 ⊢)
    omega
theorem infoFx : (Tryz.prog.info? 53).map (fun i => (i.zero, i.size, i.bytes)) = some (some (.agg #[.string ⟨#[]⟩, .int .i64 0, .int .i64 0]), 3, 32) := by kernel_rfl
def RE_fix : (Nat → Prop) → World → Value → Fx → Prop := fun _ _ _ f => f.op.size ≤ 9223372036854775807
theorem RE_fix_ok : REok RE_fix := ⟨fun h _ _ => h, fun h _ => h, fun h => h⟩
theorem rrow_fix (st : Option (List UInt8)) (g : Nat) (w : World) (h : StAt w g st) :
    Calls Tryz.prog 62 #[.pointer (some ⟨g, 0, none⟩), .func (.func 63) #[.pointer (some ⟨g, 0, none⟩)] #[]] w (Got (pRow pFx) (fun l => (rowP fxP l).length) (4 + 2) (fun l => l.length ≤ 4000 ∧ ∀ x ∈ l, FxFit x) (fun base _ W v l => RowIn (fun f _ => [.string f.op, .int .i64 f.level, .int .i64 f.side]) RE_fix 53 3 base W v l) g st w) := by
  obtain ⟨i_, hi, hz, hs, hb⟩ := info_parts infoFx
  have HN := hH (rnum2_any st g w h)
  have hglt := h.lt
  clear h
  go_enter Tryz.func62, Tryz.ntmps62
  go_upto_region 2 with (go_at_call 123; refine (uH HN).mono ?_; rintro e w2 ⟨v, n, st1, rfl, rfl, hok, hst, hch, hnx, hln⟩; have HST := hH hst; have HCH := hH hch; have HNX := hH hnx; have HLN := hH hln; have HOK := hH hok; clear hst hch hnx hln hok)
  obtain ⟨stB, HB⟩ : ∃ stB : Option (List UInt8), Hid (stB = if 4000 < n then none else st1) := ⟨_, rfl⟩
  by_cases h4 : 4000 < n
  · have h4' : (4000 : Int) < (n : Int) := by omega
    have hsB : stB = none := by rw [uH HB, if_pos h4]
    obtain ⟨s, hs8, hbk⟩ := uH HST
    have hbb : ∃ b : Bool, Blk w2 g 92 #[.string s, .bool b] := by
      cases st1 with
      | none => exact ⟨true, hbk⟩
      | some r => exact ⟨false, hbk.2⟩
    obtain ⟨bb, hbb⟩ := hbb
    have q1 := hbb.cell 1
    have f1 := hbb.frozen 1
    simp only [List.getElem?_toArray, List.getElem?_cons_zero, List.getElem?_cons_succ] at q1
    have HSTB := hH (show StAt (w2.setCell ⟨g, 1, none⟩ (.bool true)) g stB from by
      rw [hsB]
      exact ⟨s, hs8, by have := hbb.set_ 1 (.bool true); simpa using this⟩)
    have HCHB := hH ((uH HCH).setCell (p := ⟨g, 1, none⟩) (fun _ => rfl) (.bool true))
    have HMA := hH (show ManyAt pFx n st1 0 [] stB from by rw [hsB]; exact ManyAt.great h4)
    have HLB := hH (show 0 + lenS stB ≤ lenS st1 + 4 from by rw [hsB]; exact Nat.zero_le _)
    clear hbk hbb hs8 hsB
    clear HST
    go_wp2_with fail
    go_loopw [6, 7] (fun vo t wr => ∃ (k : Nat) (l : List _) (stk : Option (List UInt8)), t = .int .i64 (k : Int) ∧ k ≤ n ∧ (4000 < n → stk = none) ∧ RowIn (fun f _ => [.string f.op, .int .i64 f.level, .int .i64 f.side]) RE_fix 53 3 w.heap.size wr vo l ∧ StAt wr g stk ∧ Chg (· = g) w wr ∧ l.length = k ∧ (k = 0 ∨ n ≤ 4000) ∧ (∀ x ∈ l, FxFit x) ∧ ManyAt pFx n st1 k l stk ∧ (l.flatMap fxP).length + lenS stk ≤ lenS st1 + 4 ∧ (∀ r, stk = some r → (l.flatMap fxP).length + lenS stk ≤ lenS st1)) (fun _ t _ => n - (intOf t).toNat)
    case atStart => exact ⟨0, [], stB, rfl, Nat.zero_le _, fun h => by rw [uH HB, if_pos h], RowIn.nil _, uH HSTB, uH HCHB, rfl, .inl rfl, fun x h => (by cases h), uH HMA, uH HLB, fun r hr => by
      have := uH HB
      by_cases h7 : 4000 < n
      · rw [if_pos h7, hr] at this
        cases this
      · rw [if_neg h7] at this
        rw [this]
        simp⟩
    case round =>
      clear HSTB HCHB HMA HLB HB stB
      obtain ⟨wq, rfl⟩ : ∃ wq : World, wq = wr := ⟨_, rfl⟩
      obtain ⟨k, l, stk, rfl, hk, hgt, hrow, hst, hch, hll, hk0, hokl, hma, hml, hml2⟩ := hrel
      by_cases hex : k < n ∧ ∃ r, stk = some r
      · obtain ⟨hkn, r, rfl⟩ := hex
        have hki : (k : Int) < (n : Int) := by omega
        have hn4 : n ≤ 4000 := by
          rcases Nat.lt_or_ge 4000 n with h7 | h7
          · cases hgt h7
          · exact h7
        omega
      · have hend : stk = none ∨ n ≤ k := by
          cases stk with
          | none => exact .inl rfl
          | some r => exact .inr (Nat.le_of_not_lt fun h7 => hex ⟨h7, r, rfl⟩)
        obtain ⟨s, hs8, hbk⟩ := hst
        have hbb : ∃ b : Bool, Blk wq g 92 #[.string s, .bool b] ∧ ((k : Int) < (n : Int) → b = true) := by
          cases stk with
          | none => exact ⟨true, hbk, fun _ => rfl⟩
          | some r => exact ⟨false, hbk.2, fun h7 => absurd ⟨by omega, r, rfl⟩ hex⟩
        obtain ⟨bb, hbb, hbt⟩ := hbb
        have q1 := hbb.cell 1
        simp only [List.getElem?_toArray, List.getElem?_cons_zero, List.getElem?_cons_succ] at q1
        have HFIN := hH (hma.fin hend)
        have HSTQ := hH (show StAt wq g stk from ⟨s, hs8, hbk⟩)
        have HROW := hH hrow
        have HCQ := hH hch
        have HREST := hH (And.intro hll (And.intro hokl (And.intro hml hk0)))
        clear hbk hbb hma hrow hch hll hokl hml hml2 hex hend hk0 hgt
        have fin : ∀ W : World, W = wq → bodyPost Tryz.prog Tryz.f0 (fun _ _ => True) .ret ⟨#[], []⟩ W → True := fun _ _ _ => trivial
        by_cases hkn : (k : Int) < (n : Int)
        · have hbt2 := hbt hkn
          subst hbt2
          go_wp2_with fail
          go_ret
          obtain ⟨hll, hokl, hml, hk0⟩ := uH HREST
          have h1 := uH HLN
          refine ⟨_, l, stk, rfl, uH HROW, ⟨by rcases hk0 with h7 | h7 <;> omega, hokl⟩, uH HSTQ, uH HCQ, NextSt.seq (uH HNX) (uH HFIN), ?_⟩
          (try dsimp only at h1 ⊢)
          unfold rowP
          rw [List.length_append, low_len]
          omega
        · clear hbt
          go_wp2_with fail
          go_ret
          obtain ⟨hll, hokl, hml, hk0⟩ := uH HREST
          have h1 := uH HLN
          refine ⟨_, l, stk, rfl, uH HROW, ⟨by rcases hk0 with h7 | h7 <;> omega, hokl⟩, uH HSTQ, uH HCQ, NextSt.seq (uH HNX) (uH HFIN), ?_⟩
          (try dsimp only at h1 ⊢)
          unfold rowP
          rw [List.length_append, low_len]
          omega
  · have h4' : ¬ (4000 : Int) < (n : Int) := by omega
    have hsB : stB = st1 := by rw [uH HB, if_neg h4]
    have HSTB := hH (show StAt w2 g stB from by rw [hsB]; exact uH HST)
    have HCHB := HCH
    have HMA := hH (show ManyAt pFx n st1 0 [] stB from by rw [hsB]; exact ManyAt.start (by omega))
    have HLB := hH (show 0 + lenS stB ≤ lenS st1 + 4 from by rw [hsB]; omega)
    clear hsB
    clear HST
    go_wp2_with fail
    go_loopw [6, 7] (fun vo t wr => ∃ (k : Nat) (l : List _) (stk : Option (List UInt8)), t = .int .i64 (k : Int) ∧ k ≤ n ∧ (4000 < n → stk = none) ∧ RowIn (fun f _ => [.string f.op, .int .i64 f.level, .int .i64 f.side]) RE_fix 53 3 w.heap.size wr vo l ∧ StAt wr g stk ∧ Chg (· = g) w wr ∧ l.length = k ∧ (k = 0 ∨ n ≤ 4000) ∧ (∀ x ∈ l, FxFit x) ∧ ManyAt pFx n st1 k l stk ∧ (l.flatMap fxP).length + lenS stk ≤ lenS st1 + 4 ∧ (∀ r, stk = some r → (l.flatMap fxP).length + lenS stk ≤ lenS st1)) (fun _ t _ => n - (intOf t).toNat)
    case atStart => exact ⟨0, [], stB, rfl, Nat.zero_le _, fun h => by rw [uH HB, if_pos h], RowIn.nil _, uH HSTB, uH HCHB, rfl, .inl rfl, fun x h => (by cases h), uH HMA, uH HLB, fun r hr => by
      have := uH HB
      by_cases h7 : 4000 < n
      · rw [if_pos h7, hr] at this
        cases this
      · rw [if_neg h7] at this
        rw [this]
        simp⟩
    case round =>
      clear HSTB HCHB HMA HLB HB stB
      obtain ⟨wq, rfl⟩ : ∃ wq : World, wq = wr := ⟨_, rfl⟩
      obtain ⟨k, l, stk, rfl, hk, hgt, hrow, hst, hch, hll, hk0, hokl, hma, hml, hml2⟩ := hrel
      by_cases hex : k < n ∧ ∃ r, stk = some r
      · obtain ⟨hkn, r, rfl⟩ := hex
        have hki : (k : Int) < (n : Int) := by omega
        have hn4 : n ≤ 4000 := by
          rcases Nat.lt_or_ge 4000 n with h7 | h7
          · cases hgt h7
          · exact h7
        have HE := hH (fix_get (some r) g wq hst)
        obtain ⟨s, hs8, hsr, hbk⟩ := hst
        have q1 := hbk.cell 1
        simp only [List.getElem?_toArray, List.getElem?_cons_zero, List.getElem?_cons_succ] at q1
        have HROW := hH hrow
        have HCQ := hH hch
        have HREST := hH (And.intro hll (And.intro hokl (And.intro hma (hml2 r rfl))))
        clear hrow hbk hch hll hokl hma hml hml2 hk0 hgt
        go_wp2_with (first
          | (go_at_call 63
             refine (uH HE).mono ?_
             rintro e w3 ⟨v, x, st3, rfl, hR, hokx, hst3, hch3, hnx3, hln3⟩
             obtain rfl := hR
             obtain ⟨ps, hp1, hp2, hp3⟩ := (uH HROW).stay RE_fix_ok hglt hch3
             have hown1 : ∀ j, u6.ownBlock = some j → j < wq.heap.size := by
               obtain ⟨_, _, h9, _⟩ := uH HROW
               exact fun j hj => (h9.lt j hj).2
             obtain ⟨OA, oc, hu6⟩ := own_val hp2
             have hpl : ps.length = k := by rw [← (uH HREST).1, ← hp1, List.length_map]
             have hbw : w.heap.size ≤ (w3.alloc (.cells #[.string x.op, .int .i64 x.level, .int .i64 x.side] 53)).heap.size := by rw [size_alloc]; have := (uH HCQ).size; have := hch3.size; omega
             have HSTEP := hH (fun W3 v3 O (ho : W3.ownsRow w.heap.size 53 3 v3 (k + 1) ((ps.flatMap fun p => ((fun f _ => [.string f.op, .int .i64 f.level, .int .i64 f.side])) p.1 p.2) ++ [.string x.op, .int .i64 x.level, .int .i64 x.side])) => RowIn.step (f := (fun f _ => [.string f.op, .int .i64 f.level, .int .i64 f.side])) (T := 53) (sz := 3) (W3 := W3) (v3 := v3) (O := O) RE_fix_ok hp2 hp3 hown1 (uH HCQ).size hch3.size (u := .slice none 0 0) (by have := hokx.1; show x.op.size ≤ 9223372036854775807; omega) (by rw [hpl]; exact ho))
             rw [hpl] at hp2 hu6
             have HOW := hH (hp2.alloc (.cells #[.string x.op, .int .i64 x.level, .int .i64 x.side] 53))
             have HRN := hH ((rd_new w3 w3.heap.size 53 [.string x.op, .int .i64 x.level, .int .i64 x.side] rfl).mono (T' := fun _ => True) (fun _ _ => trivial))
             have HST3 := hH hst3
             have HCH3 := hH ((uH HCQ).trans' hch3)
             have HN3 := hH (And.intro hokx (And.intro hnx3 hln3))
             have HP1 := hH hp1
             have HOWN := hH (fun j hj => (hp2.lt j hj).1)
             subst hu6
             clear hp1 hp2 hp3 hst3 hch3 hnx3 hln3 hokx hown1 hpl)
          | (at_builtin
             refine wpList_append_rd _ rfl (.tmp 27) (.tmp 30) 24 rfl w.heap.size 53 i_ (.agg #[.string ⟨#[]⟩, .int .i64 0, .int .i64 0]) 3 32 Tryz.underlying24 hi hz hs hb rfl (by decide) _ k _ rfl (uH HOW) (fun _ => True) (some ⟨w3.heap.size, 0, none⟩) 1 1 [.string x.op, .int .i64 x.level, .int .i64 x.side] rfl rfl (uH HRN) (by intro u hu; simp at hu; rcases hu with rfl | rfl | rfl <;> rfl) (by simp only [maxLen]; omega) (by omega) hbw ?_
             intro v5 w5 ho5 hc5 hat
             have HR5 := hH (uH HSTEP w5 v5 _ ho5 hc5 hat)
             have HST5 := hH (((uH HST3).chg ((Chg.refl (fun _ => False) w3).alloc (.cells #[.string x.op, .int .i64 x.level, .int .i64 x.side] 53)) id).chg hc5 (fun e => by have := uH HOWN _ e; omega))
             have HCH5 := hH (((uH HCH3).alloc (.cells #[.string x.op, .int .i64 x.level, .int .i64 x.side] 53)).trans hc5 (fun i hi e => by have := uH HOWN _ e; omega))
             clear ho5 hc5 hat))
        go_roundw
        case rel =>
          obtain ⟨hll, hokl, hma, hml2⟩ := uH HREST
          obtain ⟨hokx, hnx3, hln3⟩ := uH HN3
          refine ⟨k + 1, l ++ [x], st3, by go_num, by omega, fun h7 => by omega, ?_, uH HST5, uH HCH5, by rw [List.length_append, hll]; rfl, .inr hn4, fun y hy => ?_, hma.step hkn hnx3, ?_, fun r3 hr3 => ?_⟩
          · rw [← uH HP1]
            exact uH HR5
          · rcases List.mem_append.1 hy with hy | hy
            · exact hokl y hy
            · obtain rfl := List.mem_singleton.1 hy
              exact hokx
          · have e : (l ++ [x]).flatMap fxP = l.flatMap fxP ++ fxP x := by simp
            rw [e, List.length_append]
            (try dsimp only at hln3)
            omega
          · have e : (l ++ [x]).flatMap fxP = l.flatMap fxP ++ fxP x := by simp
            rw [e, List.length_append]
            have hl9 : r.length = (fxP x).length + r3.length := fx_len r x r3 (by
              subst hr3
              unfold NextSt at hnx3
              rw [Option.bind_some] at hnx3
              cases e9 : (pFx) r with
              | none => rw [e9] at hnx3; cases hnx3
              | some y9 =>
                rw [e9] at hnx3
                obtain ⟨h91, h92⟩ := hnx3
                injection h92 with h92
                rw [h91, h92])
            subst hr3
            show (l.flatMap fxP).length + (fxP x).length + r3.length ≤ lenS st1
            have hml3 : (l.flatMap fxP).length + r.length ≤ lenS st1 := hml2
            omega
        case measure => simp [intOf]; omega
      · have hend : stk = none ∨ n ≤ k := by
          cases stk with
          | none => exact .inl rfl
          | some r => exact .inr (Nat.le_of_not_lt fun h7 => hex ⟨h7, r, rfl⟩)
        obtain ⟨s, hs8, hbk⟩ := hst
        have hbb : ∃ b : Bool, Blk wq g 92 #[.string s, .bool b] ∧ ((k : Int) < (n : Int) → b = true) := by
          cases stk with
          | none => exact ⟨true, hbk, fun _ => rfl⟩
          | some r => exact ⟨false, hbk.2, fun h7 => absurd ⟨by omega, r, rfl⟩ hex⟩
        obtain ⟨bb, hbb, hbt⟩ := hbb
        have q1 := hbb.cell 1
        simp only [List.getElem?_toArray, List.getElem?_cons_zero, List.getElem?_cons_succ] at q1
        have HFIN := hH (hma.fin hend)
        have HSTQ := hH (show StAt wq g stk from ⟨s, hs8, hbk⟩)
        have HROW := hH hrow
        have HCQ := hH hch
        have HREST := hH (And.intro hll (And.intro hokl (And.intro hml hk0)))
        clear hbk hbb hma hrow hch hll hokl hml hml2 hex hend hk0 hgt
        have fin : ∀ W : World, W = wq → bodyPost Tryz.prog Tryz.f0 (fun _ _ => True) .ret ⟨#[], []⟩ W → True := fun _ _ _ => trivial
        by_cases hkn : (k : Int) < (n : Int)
        · have hbt2 := hbt hkn
          subst hbt2
          go_wp2_with fail
          go_ret
          obtain ⟨hll, hokl, hml, hk0⟩ := uH HREST
          have h1 := uH HLN
          refine ⟨_, l, stk, rfl, uH HROW, ⟨by rcases hk0 with h7 | h7 <;> omega, hokl⟩, uH HSTQ, uH HCQ, NextSt.seq (uH HNX) (uH HFIN), ?_⟩
          (try dsimp only at h1 ⊢)
          unfold rowP
          rw [List.length_append, low_len]
          omega
        · clear hbt
          go_wp2_with fail
          go_ret
          obtain ⟨hll, hokl, hml, hk0⟩ := uH HREST
          have h1 := uH HLN
          refine ⟨_, l, stk, rfl, uH HROW, ⟨by rcases hk0 with h7 | h7 <;> omega, hokl⟩, uH HSTQ, uH HCQ, NextSt.seq (uH HNX) (uH HFIN), ?_⟩
          (try dsimp only at h1 ⊢)
          unfold rowP
          rw [List.length_append, low_len]
          omega
theorem rrows_fix (st : Option (List UInt8)) (g : Nat) (w : World) (h : StAt w g st) :
    Calls Tryz.prog 62 #[.pointer (some ⟨g, 0, none⟩), .func (.func 63) #[.pointer (some ⟨g, 0, none⟩)] #[]] w (Got (pRow pFx) (fun l => (rowP fxP l).length) (4 + 2) (fun l => l.length ≤ 4000 ∧ ∀ x ∈ l, FxFit x) (fun base _ W v l => RdF (fun b => base ≤ b) W v l ∧ capOk v) g st w) :=
  (rrow_fix st g w h).mono fun e w' hh => hh.mono fun v x hok hr => hr.rd RE_fix_ok (by decide) hok.1
theorem rrows_node (st : Option (List UInt8)) (g : Nat) (w : World) (h : StAt w g st) :
    Calls Tryz.prog 160 #[.pointer (some ⟨g, 0, none⟩), .func (.func 161) #[.pointer (some ⟨g, 0, none⟩)] #[]] w (Got (pRow pNode) (fun l => (rowP nodeP l).length) (5 + 2) (fun l => l.length ≤ 4000 ∧ ∀ x ∈ l, NdFit x) (fun base _ W v l => RdN (fun b => base ≤ b) W v l ∧ capOk v) g st w) :=
  (rrow_node st g w h).mono fun e w' hh => hh.mono fun v x hok hr => hr.rd RE_node_ok (by decide) hok.1
theorem nodes_get (st : Option (List UInt8)) (g : Nat) (w : World) (h : StAt w g st) :
    Calls Tryz.prog 126 #[.pointer (some ⟨g, 0, none⟩)] w (Got pTyp (fun x => (typP x).length) 7 TypFit (fun base _ w' v x => RdN (fun b => base ≤ b) w' v x ∧ capOk v) g st w) := by
  have HN := hH (rrows_node st g w h)
  clear h
  go_enter Tryz.func126, Tryz.ntmps126
  go_wp2_with (go_at_call 160; refine (uH HN).mono ?_; rintro e w2 ⟨v, x, st', rfl, hG⟩; have HG := hH hG; clear hG)
  go_ret
  exact ⟨_, x, st', rfl, uH HG⟩
end Go.Proofs.YtinekmjengckdaaGreatDoor
