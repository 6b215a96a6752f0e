/-
  Layer 23: what reads bytes: rows of rows, constructors, signatures.
-/
import Derived.Test.YtinekmjengckdaaGreatDoorA32
namespace Go.Proofs.YtinekmjengckdaaGreatDoor
open Go.RowKit
set_option maxHeartbeats 4000000
set_option maxRecDepth 100000
def RE_nodes : (Nat → Prop) → World → Value → List Nd → Prop := fun T w u t => RdN T w u t
theorem RE_nodes_ok : REok RE_nodes := ⟨fun h hc hT => h.chg hc hT, fun h hT => h.mono hT, fun h => h.low⟩
theorem rrow_nodes (st : Option (List UInt8)) (g : Nat) (w : World) (h : StAt w g st) :
    Calls Tryz.prog 159 #[.pointer (some ⟨g, 0, none⟩), .func (.func 126) #[.pointer (some ⟨g, 0, none⟩)] #[]] w (Got (pRow pTyp) (fun l => (rowP typP l).length) (7 + 2) (fun l => l.length ≤ 4000 ∧ ∀ x ∈ l, TypFit x) (fun base _ W v l => RowIn (fun _ u => [u]) RE_nodes 54 1 base W v l) g st w) := by
  obtain ⟨i_, hi, hz, hs, hb⟩ := info_parts infoRow
  have HN := hH (rnum2_any st g w h)
  have hglt := h.lt
  clear h
  go_enter Tryz.func159, Tryz.ntmps159
  go_upto_region 2 with (go_at_call 123; refine (uH HN).mono ?_; rintro e w2 ⟨v, n, st1, rfl, rfl, hok, hst, hch, hnx, hln⟩; have HST := hH hst; have HCH := hH hch; have HNX := hH hnx; have HLN := hH hln; have HOK := hH hok; clear hst hch hnx hln hok)
  obtain ⟨stB, HB⟩ : ∃ stB : Option (List UInt8), Hid (stB = if 4000 < n then none else st1) := ⟨_, rfl⟩
  by_cases h4 : 4000 < n
  · have h4' : (4000 : Int) < (n : Int) := by omega
    have hsB : stB = none := by rw [uH HB, if_pos h4]
    obtain ⟨s, hs8, hbk⟩ := uH HST
    have hbb : ∃ b : Bool, Blk w2 g 92 #[.string s, .bool b] := by
      cases st1 with
      | none => exact ⟨true, hbk⟩
      | some r => exact ⟨false, hbk.2⟩
    obtain ⟨bb, hbb⟩ := hbb
    have q1 := hbb.cell 1
    have f1 := hbb.frozen 1
    simp only [List.getElem?_toArray, List.getElem?_cons_zero, List.getElem?_cons_succ] at q1
    have HSTB := hH (show StAt (w2.setCell ⟨g, 1, none⟩ (.bool true)) g stB from by
      rw [hsB]
      exact ⟨s, hs8, by have := hbb.set_ 1 (.bool true); simpa using this⟩)
    have HCHB := hH ((uH HCH).setCell (p := ⟨g, 1, none⟩) (fun _ => rfl) (.bool true))
    have HMA := hH (show ManyAt pTyp n st1 0 [] stB from by rw [hsB]; exact ManyAt.great h4)
    have HLB := hH (show 0 + lenS stB ≤ lenS st1 + 7 from by rw [hsB]; exact Nat.zero_le _)
    clear hbk hbb hs8 hsB
    clear HST
    go_wp2_with fail
    go_loopw [6, 7] (fun vo t wr => ∃ (k : Nat) (l : List _) (stk : Option (List UInt8)), t = .int .i64 (k : Int) ∧ k ≤ n ∧ (4000 < n → stk = none) ∧ RowIn (fun _ u => [u]) RE_nodes 54 1 w.heap.size wr vo l ∧ StAt wr g stk ∧ Chg (· = g) w wr ∧ l.length = k ∧ (k = 0 ∨ n ≤ 4000) ∧ (∀ x ∈ l, TypFit x) ∧ ManyAt pTyp n st1 k l stk ∧ (l.flatMap typP).length + lenS stk ≤ lenS st1 + 7 ∧ (∀ r, stk = some r → (l.flatMap typP).length + lenS stk ≤ lenS st1)) (fun _ t _ => n - (intOf t).toNat)
    case atStart => exact ⟨0, [], stB, rfl, Nat.zero_le _, fun h => by rw [uH HB, if_pos h], RowIn.nil _, uH HSTB, uH HCHB, rfl, .inl rfl, fun x h => (by cases h), uH HMA, uH HLB, fun r hr => by
      have := uH HB
      by_cases h7 : 4000 < n
      · rw [if_pos h7, hr] at this
        cases this
      · rw [if_neg h7] at this
        rw [this]
        simp⟩
    case round =>
      clear HSTB HCHB HMA HLB HB stB
      obtain ⟨wq, rfl⟩ : ∃ wq : World, wq = wr := ⟨_, rfl⟩
      obtain ⟨k, l, stk, rfl, hk, hgt, hrow, hst, hch, hll, hk0, hokl, hma, hml, hml2⟩ := hrel
      by_cases hex : k < n ∧ ∃ r, stk = some r
      · obtain ⟨hkn, r, rfl⟩ := hex
        have hki : (k : Int) < (n : Int) := by omega
        have hn4 : n ≤ 4000 := by
          rcases Nat.lt_or_ge 4000 n with h7 | h7
          · cases hgt h7
          · exact h7
        omega
      · have hend : stk = none ∨ n ≤ k := by
          cases stk with
          | none => exact .inl rfl
          | some r => exact .inr (Nat.le_of_not_lt fun h7 => hex ⟨h7, r, rfl⟩)
        obtain ⟨s, hs8, hbk⟩ := hst
        have hbb : ∃ b : Bool, Blk wq g 92 #[.string s, .bool b] ∧ ((k : Int) < (n : Int) → b = true) := by
          cases stk with
          | none => exact ⟨true, hbk, fun _ => rfl⟩
          | some r => exact ⟨false, hbk.2, fun h7 => absurd ⟨by omega, r, rfl⟩ hex⟩
        obtain ⟨bb, hbb, hbt⟩ := hbb
        have q1 := hbb.cell 1
        simp only [List.getElem?_toArray, List.getElem?_cons_zero, List.getElem?_cons_succ] at q1
        have HFIN := hH (hma.fin hend)
        have HSTQ := hH (show StAt wq g stk from ⟨s, hs8, hbk⟩)
        have HROW := hH hrow
        have HCQ := hH hch
        have HREST := hH (And.intro hll (And.intro hokl (And.intro hml hk0)))
        clear hbk hbb hma hrow hch hll hokl hml hml2 hex hend hk0 hgt
        have fin : ∀ W : World, W = wq → bodyPost Tryz.prog Tryz.f0 (fun _ _ => True) .ret ⟨#[], []⟩ W → True := fun _ _ _ => trivial
        by_cases hkn : (k : Int) < (n : Int)
        · have hbt2 := hbt hkn
          subst hbt2
          go_wp2_with fail
          go_ret
          obtain ⟨hll, hokl, hml, hk0⟩ := uH HREST
          have h1 := uH HLN
          refine ⟨_, l, stk, rfl, uH HROW, ⟨by rcases hk0 with h7 | h7 <;> omega, hokl⟩, uH HSTQ, uH HCQ, NextSt.seq (uH HNX) (uH HFIN), ?_⟩
          (try dsimp only at h1 ⊢)
          unfold rowP
          rw [List.length_append, low_len]
          omega
        · clear hbt
          go_wp2_with fail
          go_ret
          obtain ⟨hll, hokl, hml, hk0⟩ := uH HREST
          have h1 := uH HLN
          refine ⟨_, l, stk, rfl, uH HROW, ⟨by rcases hk0 with h7 | h7 <;> omega, hokl⟩, uH HSTQ, uH HCQ, NextSt.seq (uH HNX) (uH HFIN), ?_⟩
          (try dsimp only at h1 ⊢)
          unfold rowP
          rw [List.length_append, low_len]
          omega
  · have h4' : ¬ (4000 : Int) < (n : Int) := by omega
    have hsB : stB = st1 := by rw [uH HB, if_neg h4]
    have HSTB := hH (show StAt w2 g stB from by rw [hsB]; exact uH HST)
    have HCHB := HCH
    have HMA := hH (show ManyAt pTyp n st1 0 [] stB from by rw [hsB]; exact ManyAt.start (by omega))
    have HLB := hH (show 0 + lenS stB ≤ lenS st1 + 7 from by rw [hsB]; omega)
    clear hsB
    clear HST
    go_wp2_with fail
    go_loopw [6, 7] (fun vo t wr => ∃ (k : Nat) (l : List _) (stk : Option (List UInt8)), t = .int .i64 (k : Int) ∧ k ≤ n ∧ (4000 < n → stk = none) ∧ RowIn (fun _ u => [u]) RE_nodes 54 1 w.heap.size wr vo l ∧ StAt wr g stk ∧ Chg (· = g) w wr ∧ l.length = k ∧ (k = 0 ∨ n ≤ 4000) ∧ (∀ x ∈ l, TypFit x) ∧ ManyAt pTyp n st1 k l stk ∧ (l.flatMap typP).length + lenS stk ≤ lenS st1 + 7 ∧ (∀ r, stk = some r → (l.flatMap typP).length + lenS stk ≤ lenS st1)) (fun _ t _ => n - (intOf t).toNat)
    case atStart => exact ⟨0, [], stB, rfl, Nat.zero_le _, fun h => by rw [uH HB, if_pos h], RowIn.nil _, uH HSTB, uH HCHB, rfl, .inl rfl, fun x h => (by cases h), uH HMA, uH HLB, fun r hr => by
      have := uH HB
      by_cases h7 : 4000 < n
      · rw [if_pos h7, hr] at this
        cases this
      · rw [if_neg h7] at this
        rw [this]
        simp⟩
    case round =>
      clear HSTB HCHB HMA HLB HB stB
      obtain ⟨wq, rfl⟩ : ∃ wq : World, wq = wr := ⟨_, rfl⟩
      obtain ⟨k, l, stk, rfl, hk, hgt, hrow, hst, hch, hll, hk0, hokl, hma, hml, hml2⟩ := hrel
      by_cases hex : k < n ∧ ∃ r, stk = some r
      · obtain ⟨hkn, r, rfl⟩ := hex
        have hki : (k : Int) < (n : Int) := by omega
        have hn4 : n ≤ 4000 := by
          rcases Nat.lt_or_ge 4000 n with h7 | h7
          · cases hgt h7
          · exact h7
        have HE := hH (nodes_get (some r) g wq hst)
        obtain ⟨s, hs8, hsr, hbk⟩ := hst
        have q1 := hbk.cell 1
        simp only [List.getElem?_toArray, List.getElem?_cons_zero, List.getElem?_cons_succ] at q1
        have HROW := hH hrow
        have HCQ := hH hch
        have HREST := hH (And.intro hll (And.intro hokl (And.intro hma (hml2 r rfl))))
        clear hrow hbk hch hll hokl hma hml hml2 hk0 hgt
        go_wp2_with (first
          | (go_at_call 126
             refine (uH HE).mono ?_
             rintro e w3 ⟨v, x, st3, rfl, hR, hokx, hst3, hch3, hnx3, hln3⟩
             obtain ⟨hRd, hRc⟩ := hR
             obtain ⟨A7, c7, rfl⟩ := hRd.val
             obtain ⟨ps, hp1, hp2, hp3⟩ := (uH HROW).stay RE_nodes_ok hglt hch3
             have hown1 : ∀ j, u6.ownBlock = some j → j < wq.heap.size := by
               obtain ⟨_, _, h9, _⟩ := uH HROW
               exact fun j hj => (h9.lt j hj).2
             obtain ⟨OA, oc, hu6⟩ := own_val hp2
             have hpl : ps.length = k := by rw [← (uH HREST).1, ← hp1, List.length_map]
             have hbw : w.heap.size ≤ (w3.alloc (.cells #[.slice A7 x.length c7] 54)).heap.size := by rw [size_alloc]; have := (uH HCQ).size; have := hch3.size; omega
             have HSTEP := hH (fun W3 v3 O (ho : W3.ownsRow w.heap.size 54 1 v3 (k + 1) ((ps.flatMap fun p => ((fun _ u => [u])) p.1 p.2) ++ [.slice A7 x.length c7])) => RowIn.step (f := (fun _ u => [u])) (T := 54) (sz := 1) (W3 := W3) (v3 := v3) (O := O) RE_nodes_ok hp2 hp3 hown1 (uH HCQ).size hch3.size (u := .slice A7 x.length c7) hRd (by rw [hpl]; exact ho))
             rw [hpl] at hp2 hu6
             have HOW := hH (hp2.alloc (.cells #[.slice A7 x.length c7] 54))
             have HRN := hH ((rd_new w3 w3.heap.size 54 [.slice A7 x.length c7] rfl).mono (T' := fun _ => True) (fun _ _ => trivial))
             have HST3 := hH hst3
             have HCH3 := hH ((uH HCQ).trans' hch3)
             have HN3 := hH (And.intro hokx (And.intro hnx3 hln3))
             have HP1 := hH hp1
             have HOWN := hH (fun j hj => (hp2.lt j hj).1)
             subst hu6
             clear hp1 hp2 hp3 hst3 hch3 hnx3 hln3 hokx hown1 hpl)
          | (at_builtin
             refine wpList_append_rd _ rfl (.tmp 27) (.tmp 30) 62 rfl w.heap.size 54 i_ (.slice none 0 0) 1 24 Tryz.underlying62 hi hz hs hb rfl (by decide) _ k _ rfl (uH HOW) (fun _ => True) (some ⟨w3.heap.size, 0, none⟩) 1 1 [.slice A7 x.length c7] rfl rfl (uH HRN) (by intro u hu; simp at hu; rcases hu with rfl <;> rfl) (by simp only [maxLen]; omega) (by omega) hbw ?_
             intro v5 w5 ho5 hc5 hat
             have HR5 := hH (uH HSTEP w5 v5 _ ho5 hc5 hat)
             have HST5 := hH (((uH HST3).chg ((Chg.refl (fun _ => False) w3).alloc (.cells #[.slice A7 x.length c7] 54)) id).chg hc5 (fun e => by have := uH HOWN _ e; omega))
             have HCH5 := hH (((uH HCH3).alloc (.cells #[.slice A7 x.length c7] 54)).trans hc5 (fun i hi e => by have := uH HOWN _ e; omega))
             clear ho5 hc5 hat))
        go_roundw
        case rel =>
          obtain ⟨hll, hokl, hma, hml2⟩ := uH HREST
          obtain ⟨hokx, hnx3, hln3⟩ := uH HN3
          refine ⟨k + 1, l ++ [x], st3, by go_num, by omega, fun h7 => by omega, ?_, uH HST5, uH HCH5, by rw [List.length_append, hll]; rfl, .inr hn4, fun y hy => ?_, hma.step hkn hnx3, ?_, fun r3 hr3 => ?_⟩
          · rw [← uH HP1]
            exact uH HR5
          · rcases List.mem_append.1 hy with hy | hy
            · exact hokl y hy
            · obtain rfl := List.mem_singleton.1 hy
              exact hokx
          · have e : (l ++ [x]).flatMap typP = l.flatMap typP ++ typP x := by simp
            rw [e, List.length_append]
            (try dsimp only at hln3)
            omega
          · have e : (l ++ [x]).flatMap typP = l.flatMap typP ++ typP x := by simp
            rw [e, List.length_append]
            have hl9 : r.length = (typP x).length + r3.length := typ_len r x r3 (by
              subst hr3
              unfold NextSt at hnx3
              rw [Option.bind_some] at hnx3
              cases e9 : (pTyp) r with
              | none => rw [e9] at hnx3; cases hnx3
              | some y9 =>
                rw [e9] at hnx3
                obtain ⟨h91, h92⟩ := hnx3
                injection h92 with h92
                rw [h91, h92])
            subst hr3
            show (l.flatMap typP).length + (typP x).length + r3.length ≤ lenS st1
            have hml3 : (l.flatMap typP).length + r.length ≤ lenS st1 := hml2
            omega
        case measure => simp [intOf]; omega
      · have hend : stk = none ∨ n ≤ k := by
          cases stk with
          | none => exact .inl rfl
          | some r => exact .inr (Nat.le_of_not_lt fun h7 => hex ⟨h7, r, rfl⟩)
        obtain ⟨s, hs8, hbk⟩ := hst
        have hbb : ∃ b : Bool, Blk wq g 92 #[.string s, .bool b] ∧ ((k : Int) < (n : Int) → b = true) := by
          cases stk with
          | none => exact ⟨true, hbk, fun _ => rfl⟩
          | some r => exact ⟨false, hbk.2, fun h7 => absurd ⟨by omega, r, rfl⟩ hex⟩
        obtain ⟨bb, hbb, hbt⟩ := hbb
        have q1 := hbb.cell 1
        simp only [List.getElem?_toArray, List.getElem?_cons_zero, List.getElem?_cons_succ] at q1
        have HFIN := hH (hma.fin hend)
        have HSTQ := hH (show StAt wq g stk from ⟨s, hs8, hbk⟩)
        have HROW := hH hrow
        have HCQ := hH hch
        have HREST := hH (And.intro hll (And.intro hokl (And.intro hml hk0)))
        clear hbk hbb hma hrow hch hll hokl hml hml2 hex hend hk0 hgt
        have fin : ∀ W : World, W = wq → bodyPost Tryz.prog Tryz.f0 (fun _ _ => True) .ret ⟨#[], []⟩ W → True := fun _ _ _ => trivial
        by_cases hkn : (k : Int) < (n : Int)
        · have hbt2 := hbt hkn
          subst hbt2
          go_wp2_with fail
          go_ret
          obtain ⟨hll, hokl, hml, hk0⟩ := uH HREST
          have h1 := uH HLN
          refine ⟨_, l, stk, rfl, uH HROW, ⟨by rcases hk0 with h7 | h7 <;> omega, hokl⟩, uH HSTQ, uH HCQ, NextSt.seq (uH HNX) (uH HFIN), ?_⟩
          (try dsimp only at h1 ⊢)
          unfold rowP
          rw [List.length_append, low_len]
          omega
        · clear hbt
          go_wp2_with fail
          go_ret
          obtain ⟨hll, hokl, hml, hk0⟩ := uH HREST
          have h1 := uH HLN
          refine ⟨_, l, stk, rfl, uH HROW, ⟨by rcases hk0 with h7 | h7 <;> omega, hokl⟩, uH HSTQ, uH HCQ, NextSt.seq (uH HNX) (uH HFIN), ?_⟩
          (try dsimp only at h1 ⊢)
          unfold rowP
          rw [List.length_append, low_len]
          omega
theorem rrows_nodes (st : Option (List UInt8)) (g : Nat) (w : World) (h : StAt w g st) :
    Calls Tryz.prog 159 #[.pointer (some ⟨g, 0, none⟩), .func (.func 126) #[.pointer (some ⟨g, 0, none⟩)] #[]] w (Got (pRow pTyp) (fun l => (rowP typP l).length) (7 + 2) (fun l => l.length ≤ 4000 ∧ ∀ x ∈ l, TypFit x) (fun base _ W v l => RdNs (fun b => base ≤ b) W v l ∧ capOk v) g st w) :=
  (rrow_nodes st g w h).mono fun e w' hh => hh.mono fun v x hok hr => hr.rd RE_nodes_ok (by decide) hok.1
theorem ctor_get (st : Option (List UInt8)) (g : Nat) (w : World) (h : StAt w g st) :
    Calls Tryz.prog 125 #[.pointer (some ⟨g, 0, none⟩)] w (Got pCt (fun x => (ctP x).length) 11 CtFit (fun base _ W v x => ∃ u, v = .agg #[.string x.name, u] ∧ (RdNs (fun b => base ≤ b) W u x.args ∧ x.name.size ≤ 9223372036854775807 ∧ capOk u)) g st w) := by
  have HN := hH (rtext_any st g (w.alloc (.cells #[.string ⟨#[]⟩, .slice none 0 0] 64)) (h.chg ((Chg.refl (fun _ => False) w).alloc _) id))
  have hglt := h.lt
  have HBX := hH (Blk.new w 64 #[.string ⟨#[]⟩, .slice none 0 0])
  have HC0 := hH ((Chg.refl (· = g) w).alloc (.cells #[.string ⟨#[]⟩, .slice none 0 0] 64))
  have hgne : ¬ w.heap.size = g := by omega
  clear h
  go_enter Tryz.func125, Tryz.ntmps125
  go_upto_region 1 with fail
  go_wp2_with (first
    | (go_at_call 57; refine (uH HN).mono ?_; rintro e w2 ⟨v, x, st1, rfl, rfl, hok, hst, hch, hnx, hln⟩; have hal := (Chg.refl (fun _ => False) w2).alloc (.cells #[.string x, .slice none 0 0] 64); have HB2 := hH (((uH HBX).chg hch hgne).chg hal id); have HN2 := hH (rrows_nodes st1 g (w2.alloc (.cells #[.string x, .slice none 0 0] 64)) (hst.chg hal id)); have HA2 := hH (Blk.new w2 64 #[.string x, .slice none 0 0]); have hz1 := hch.size; have hz2 := ((uH HBX).chg hch hgne).lt; have hne1 : ¬ w2.heap.size = g := (by omega); have hne2 : ¬ w2.heap.size = w.heap.size := (by omega); have hne3 : ¬ w.heap.size = w2.heap.size := (by omega); have HCH2 := hH (((uH HC0).trans' hch).alloc (.cells #[.string x, .slice none 0 0] 64)); have HS2 := hH (show w2.heap.size + 1 ≤ (w2.alloc (.cells #[.string x, .slice none 0 0] 64)).heap.size from (by rw [size_alloc]; exact Nat.le_refl _)); have HX2 := hH (And.intro hok (And.intro hnx hln)); clear hst hch hnx hln hok hal hz1 HN HBX HC0)
    | (go_at_call 159; refine (uH HN2).mono ?_; rintro e w3 ⟨v, y, st2, rfl, hR, hok, hst, hch, hnx, hln⟩; obtain ⟨A7, c7, rfl⟩ := hR.1.val; have hb := (uH HB2).chg hch hgne; have ha := (uH HA2).chg hch hne1; have q0 := hb.cell 0; have f0 := hb.frozen 0; have p0 := ha.cell 0; have q1 := hb.cell 1; have f1 := hb.frozen 1; have p1 := ha.cell 1; have e1 := ha.frozen 1; simp only [List.getElem?_toArray, List.getElem?_cons_zero, List.getElem?_cons_succ] at q0 p0 q1 p1; have HCHE := hH ((uH HCH2).trans' hch); have HSTE := hH hst; have hs := hch.size; have hs2 := uH HS2; have HS3 := hH (show w2.heap.size + 1 ≤ w3.heap.size from (by omega)); have HX3 := hH (And.intro hok (And.intro hnx hln)); have HR := hH hR; clear hR; clear hst hch hnx hln hok hb ha hs hs2))
  obtain ⟨hok2, hnx2, hln2⟩ := uH HX2
  obtain ⟨hok3, hnx3, hln3⟩ := uH HX3
  refine bodyPost_ret (v := .agg #[.string x, .slice A7 y.length c7]) (by simp [results, Tryz.results125, go_sem, q0, q1]) rfl ⟨_, ⟨x, y⟩, st2, rfl, ?_, ⟨hok2, hok3⟩, ?_, ?_, NextSt.seq (q := fun t => mapT (fun y => (⟨t, y⟩ : Ct)) (pRow pTyp)) hnx2 (hnx3.map (fun y => (⟨x, y⟩ : Ct))), ?_⟩
  · refine ⟨_, rfl, ?_, by show x.size ≤ 9223372036854775807; omega, (uH HR).2⟩
    have hz := uH HS2
    refine ((uH HR).1.chg (S := fun b => b ≤ w2.heap.size) ?_ (fun b hb _ e => by omega)).mono (fun b hb => by omega)
    repeat (refine Chg.setCell ?_ (fun _ => by dsimp only; omega) _)
    exact Chg.refl _ _
  · refine StAt.chg (S := (· ≠ g)) (W := w3) (uH HSTE) ?_ (fun h => h rfl)
    repeat (refine Chg.setCell ?_ (fun _ => (by first | exact hgne | exact hne1)) _)
    exact Chg.refl _ _
  · repeat (refine Chg.setCell ?_ (fun h => (by dsimp only at h; omega)) _)
    exact uH HCHE
  · have e : (ctP ⟨x, y⟩).length = 2 + x.size + (rowP typP y).length := by
      unfold ctP
      rw [List.length_append, text_plen]
    (try dsimp only at hln2 hln3 ⊢)
    omega
theorem sig_get (st : Option (List UInt8)) (g : Nat) (w : World) (h : StAt w g st) :
    Calls Tryz.prog 65 #[.pointer (some ⟨g, 0, none⟩)] w (Got pSg (fun x => (sgP x).length) 9 SgFit (fun base _ W v x => ∃ u, v = .agg #[.string x.name, u] ∧ (RdN (fun b => base ≤ b) W u x.type ∧ x.name.size ≤ 9223372036854775807 ∧ capOk u)) g st w) := by
  have HN := hH (rtext_any st g (w.alloc (.cells #[.string ⟨#[]⟩, .slice none 0 0] 56)) (h.chg ((Chg.refl (fun _ => False) w).alloc _) id))
  have hglt := h.lt
  have HBX := hH (Blk.new w 56 #[.string ⟨#[]⟩, .slice none 0 0])
  have HC0 := hH ((Chg.refl (· = g) w).alloc (.cells #[.string ⟨#[]⟩, .slice none 0 0] 56))
  have hgne : ¬ w.heap.size = g := by omega
  clear h
  go_enter Tryz.func65, Tryz.ntmps65
  go_upto_region 1 with fail
  go_wp2_with (first
    | (go_at_call 57; refine (uH HN).mono ?_; rintro e w2 ⟨v, x, st1, rfl, rfl, hok, hst, hch, hnx, hln⟩; have hal := (Chg.refl (fun _ => False) w2).alloc (.cells #[.string x, .slice none 0 0] 56); have HB2 := hH (((uH HBX).chg hch hgne).chg hal id); have HN2 := hH (nodes_get st1 g (w2.alloc (.cells #[.string x, .slice none 0 0] 56)) (hst.chg hal id)); have HA2 := hH (Blk.new w2 56 #[.string x, .slice none 0 0]); have hz1 := hch.size; have hz2 := ((uH HBX).chg hch hgne).lt; have hne1 : ¬ w2.heap.size = g := (by omega); have hne2 : ¬ w2.heap.size = w.heap.size := (by omega); have hne3 : ¬ w.heap.size = w2.heap.size := (by omega); have HCH2 := hH (((uH HC0).trans' hch).alloc (.cells #[.string x, .slice none 0 0] 56)); have HS2 := hH (show w2.heap.size + 1 ≤ (w2.alloc (.cells #[.string x, .slice none 0 0] 56)).heap.size from (by rw [size_alloc]; exact Nat.le_refl _)); have HX2 := hH (And.intro hok (And.intro hnx hln)); clear hst hch hnx hln hok hal hz1 HN HBX HC0)
    | (go_at_call 126; refine (uH HN2).mono ?_; rintro e w3 ⟨v, y, st2, rfl, hR, hok, hst, hch, hnx, hln⟩; obtain ⟨A7, c7, rfl⟩ := hR.1.val; have hb := (uH HB2).chg hch hgne; have ha := (uH HA2).chg hch hne1; have q0 := hb.cell 0; have f0 := hb.frozen 0; have p0 := ha.cell 0; have q1 := hb.cell 1; have f1 := hb.frozen 1; have p1 := ha.cell 1; have e1 := ha.frozen 1; simp only [List.getElem?_toArray, List.getElem?_cons_zero, List.getElem?_cons_succ] at q0 p0 q1 p1; have HCHE := hH ((uH HCH2).trans' hch); have HSTE := hH hst; have hs := hch.size; have hs2 := uH HS2; have HS3 := hH (show w2.heap.size + 1 ≤ w3.heap.size from (by omega)); have HX3 := hH (And.intro hok (And.intro hnx hln)); have HR := hH hR; clear hR; clear hst hch hnx hln hok hb ha hs hs2))
  obtain ⟨hok2, hnx2, hln2⟩ := uH HX2
  obtain ⟨hok3, hnx3, hln3⟩ := uH HX3
  refine bodyPost_ret (v := .agg #[.string x, .slice A7 y.length c7]) (by simp [results, Tryz.results65, go_sem, q0, q1]) rfl ⟨_, ⟨x, y⟩, st2, rfl, ?_, ⟨hok2, hok3⟩, ?_, ?_, NextSt.seq (q := fun t => mapT (fun y => (⟨t, y⟩ : Sg)) pTyp) hnx2 (hnx3.map (fun y => (⟨x, y⟩ : Sg))), ?_⟩
  · refine ⟨_, rfl, ?_, by show x.size ≤ 9223372036854775807; omega, (uH HR).2⟩
    have hz := uH HS2
    refine ((uH HR).1.chg (S := fun b => b ≤ w2.heap.size) ?_ (fun b hb _ e => by omega)).mono (fun b hb => by omega)
    repeat (refine Chg.setCell ?_ (fun _ => by dsimp only; omega) _)
    exact Chg.refl _ _
  · refine StAt.chg (S := (· ≠ g)) (W := w3) (uH HSTE) ?_ (fun h => h rfl)
    repeat (refine Chg.setCell ?_ (fun _ => (by first | exact hgne | exact hne1)) _)
    exact Chg.refl _ _
  · repeat (refine Chg.setCell ?_ (fun h => (by dsimp only at h; omega)) _)
    exact uH HCHE
  · have e : (sgP ⟨x, y⟩).length = 2 + x.size + (typP y).length := by
      unfold sgP
      rw [List.length_append, text_plen]
    (try dsimp only at hln2 hln3 ⊢)
    omega
end Go.Proofs.YtinekmjengckdaaGreatDoor
