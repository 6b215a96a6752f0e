/-
  Layer 23: what reads bytes: rows of nodes. Layer 23: what reads bytes: openings.
-/
import Derived.Test.YtinekmjengckdaaGreatDoorA30
namespace Go.Proofs.YtinekmjengckdaaGreatDoor
open Go.RowKit
set_option maxHeartbeats 4000000
set_option maxRecDepth 100000
theorem nd_ok {x : Nd} (h : NdFit x) : ndOk x := by
  rcases h with ⟨_, h, _⟩ | ⟨_, _, _, _, h⟩
  · unfold ndOk
    rw [h]
    exact Nat.zero_le _
  · unfold ndOk
    omega
def RE_node : (Nat → Prop) → World → Value → Nd → Prop := fun _ _ _ n => ndOk n
theorem RE_node_ok : REok RE_node := ⟨fun h _ _ => h, fun h _ => h, fun h => h⟩
theorem rrow_node (st : Option (List UInt8)) (g : Nat) (w : World) (h : StAt w g st) :
    Calls Tryz.prog 160 #[.pointer (some ⟨g, 0, none⟩), .func (.func 161) #[.pointer (some ⟨g, 0, none⟩)] #[]] w (Got (pRow pNode) (fun l => (rowP nodeP l).length) (5 + 2) (fun l => l.length ≤ 4000 ∧ ∀ x ∈ l, NdFit x) (fun base _ W v l => RowIn ndv RE_node 59 4 base W v l) g st w) := by
  obtain ⟨i_, hi, hz, hs, hb⟩ := info_parts infoNd
  have HN := hH (rnum2_any st g w h)
  have hglt := h.lt
  clear h
  go_enter Tryz.func160, Tryz.ntmps160
  go_upto_region 2 with (go_at_call 123; refine (uH HN).mono ?_; rintro e w2 ⟨v, n, st1, rfl, rfl, hok, hst, hch, hnx, hln⟩; have HST := hH hst; have HCH := hH hch; have HNX := hH hnx; have HLN := hH hln; have HOK := hH hok; clear hst hch hnx hln hok)
  obtain ⟨stB, HB⟩ : ∃ stB : Option (List UInt8), Hid (stB = if 4000 < n then none else st1) := ⟨_, rfl⟩
  by_cases h4 : 4000 < n
  · have h4' : (4000 : Int) < (n : Int) := by omega
    have hsB : stB = none := by rw [uH HB, if_pos h4]
    obtain ⟨s, hs8, hbk⟩ := uH HST
    have hbb : ∃ b : Bool, Blk w2 g 92 #[.string s, .bool b] := by
      cases st1 with
      | none => exact ⟨true, hbk⟩
      | some r => exact ⟨false, hbk.2⟩
    obtain ⟨bb, hbb⟩ := hbb
    have q1 := hbb.cell 1
    have f1 := hbb.frozen 1
    simp only [List.getElem?_toArray, List.getElem?_cons_zero, List.getElem?_cons_succ] at q1
    have HSTB := hH (show StAt (w2.setCell ⟨g, 1, none⟩ (.bool true)) g stB from by
      rw [hsB]
      exact ⟨s, hs8, by have := hbb.set_ 1 (.bool true); simpa using this⟩)
    have HCHB := hH ((uH HCH).setCell (p := ⟨g, 1, none⟩) (fun _ => rfl) (.bool true))
    have HMA := hH (show ManyAt pNode n st1 0 [] stB from by rw [hsB]; exact ManyAt.great h4)
    have HLB := hH (show 0 + lenS stB ≤ lenS st1 + 5 from by rw [hsB]; exact Nat.zero_le _)
    clear hbk hbb hs8 hsB
    clear HST
    go_wp2_with fail
    go_loopw [6, 7] (fun vo t wr => ∃ (k : Nat) (l : List _) (stk : Option (List UInt8)), t = .int .i64 (k : Int) ∧ k ≤ n ∧ (4000 < n → stk = none) ∧ RowIn ndv RE_node 59 4 w.heap.size wr vo l ∧ StAt wr g stk ∧ Chg (· = g) w wr ∧ l.length = k ∧ (k = 0 ∨ n ≤ 4000) ∧ (∀ x ∈ l, NdFit x) ∧ ManyAt pNode n st1 k l stk ∧ (l.flatMap nodeP).length + lenS stk ≤ lenS st1 + 5 ∧ (∀ r, stk = some r → (l.flatMap nodeP).length + lenS stk ≤ lenS st1)) (fun _ t _ => n - (intOf t).toNat)
    case atStart => exact ⟨0, [], stB, rfl, Nat.zero_le _, fun h => by rw [uH HB, if_pos h], RowIn.nil _, uH HSTB, uH HCHB, rfl, .inl rfl, fun x h => (by cases h), uH HMA, uH HLB, fun r hr => by
      have := uH HB
      by_cases h7 : 4000 < n
      · rw [if_pos h7, hr] at this
        cases this
      · rw [if_neg h7] at this
        rw [this]
        simp⟩
    case round =>
      clear HSTB HCHB HMA HLB HB stB
      obtain ⟨wq, rfl⟩ : ∃ wq : World, wq = wr := ⟨_, rfl⟩
      obtain ⟨k, l, stk, rfl, hk, hgt, hrow, hst, hch, hll, hk0, hokl, hma, hml, hml2⟩ := hrel
      by_cases hex : k < n ∧ ∃ r, stk = some r
      · obtain ⟨hkn, r, rfl⟩ := hex
        have hki : (k : Int) < (n : Int) := by omega
        have hn4 : n ≤ 4000 := by
          rcases Nat.lt_or_ge 4000 n with h7 | h7
          · cases hgt h7
          · exact h7
        omega
      · have hend : stk = none ∨ n ≤ k := by
          cases stk with
          | none => exact .inl rfl
          | some r => exact .inr (Nat.le_of_not_lt fun h7 => hex ⟨h7, r, rfl⟩)
        obtain ⟨s, hs8, hbk⟩ := hst
        have hbb : ∃ b : Bool, Blk wq g 92 #[.string s, .bool b] ∧ ((k : Int) < (n : Int) → b = true) := by
          cases stk with
          | none => exact ⟨true, hbk, fun _ => rfl⟩
          | some r => exact ⟨false, hbk.2, fun h7 => absurd ⟨by omega, r, rfl⟩ hex⟩
        obtain ⟨bb, hbb, hbt⟩ := hbb
        have q1 := hbb.cell 1
        simp only [List.getElem?_toArray, List.getElem?_cons_zero, List.getElem?_cons_succ] at q1
        have HFIN := hH (hma.fin hend)
        have HSTQ := hH (show StAt wq g stk from ⟨s, hs8, hbk⟩)
        have HROW := hH hrow
        have HCQ := hH hch
        have HREST := hH (And.intro hll (And.intro hokl (And.intro hml hk0)))
        clear hbk hbb hma hrow hch hll hokl hml hml2 hex hend hk0 hgt
        have fin : ∀ W : World, W = wq → bodyPost Tryz.prog Tryz.f0 (fun _ _ => True) .ret ⟨#[], []⟩ W → True := fun _ _ _ => trivial
        by_cases hkn : (k : Int) < (n : Int)
        · have hbt2 := hbt hkn
          subst hbt2
          go_wp2_with fail
          go_ret
          obtain ⟨hll, hokl, hml, hk0⟩ := uH HREST
          have h1 := uH HLN
          refine ⟨_, l, stk, rfl, uH HROW, ⟨by rcases hk0 with h7 | h7 <;> omega, hokl⟩, uH HSTQ, uH HCQ, NextSt.seq (uH HNX) (uH HFIN), ?_⟩
          (try dsimp only at h1 ⊢)
          unfold rowP
          rw [List.length_append, low_len]
          omega
        · clear hbt
          go_wp2_with fail
          go_ret
          obtain ⟨hll, hokl, hml, hk0⟩ := uH HREST
          have h1 := uH HLN
          refine ⟨_, l, stk, rfl, uH HROW, ⟨by rcases hk0 with h7 | h7 <;> omega, hokl⟩, uH HSTQ, uH HCQ, NextSt.seq (uH HNX) (uH HFIN), ?_⟩
          (try dsimp only at h1 ⊢)
          unfold rowP
          rw [List.length_append, low_len]
          omega
  · have h4' : ¬ (4000 : Int) < (n : Int) := by omega
    have hsB : stB = st1 := by rw [uH HB, if_neg h4]
    have HSTB := hH (show StAt w2 g stB from by rw [hsB]; exact uH HST)
    have HCHB := HCH
    have HMA := hH (show ManyAt pNode n st1 0 [] stB from by rw [hsB]; exact ManyAt.start (by omega))
    have HLB := hH (show 0 + lenS stB ≤ lenS st1 + 5 from by rw [hsB]; omega)
    clear hsB
    clear HST
    go_wp2_with fail
    go_loopw [6, 7] (fun vo t wr => ∃ (k : Nat) (l : List _) (stk : Option (List UInt8)), t = .int .i64 (k : Int) ∧ k ≤ n ∧ (4000 < n → stk = none) ∧ RowIn ndv RE_node 59 4 w.heap.size wr vo l ∧ StAt wr g stk ∧ Chg (· = g) w wr ∧ l.length = k ∧ (k = 0 ∨ n ≤ 4000) ∧ (∀ x ∈ l, NdFit x) ∧ ManyAt pNode n st1 k l stk ∧ (l.flatMap nodeP).length + lenS stk ≤ lenS st1 + 5 ∧ (∀ r, stk = some r → (l.flatMap nodeP).length + lenS stk ≤ lenS st1)) (fun _ t _ => n - (intOf t).toNat)
    case atStart => exact ⟨0, [], stB, rfl, Nat.zero_le _, fun h => by rw [uH HB, if_pos h], RowIn.nil _, uH HSTB, uH HCHB, rfl, .inl rfl, fun x h => (by cases h), uH HMA, uH HLB, fun r hr => by
      have := uH HB
      by_cases h7 : 4000 < n
      · rw [if_pos h7, hr] at this
        cases this
      · rw [if_neg h7] at this
        rw [this]
        simp⟩
    case round =>
      clear HSTB HCHB HMA HLB HB stB
      obtain ⟨wq, rfl⟩ : ∃ wq : World, wq = wr := ⟨_, rfl⟩
      obtain ⟨k, l, stk, rfl, hk, hgt, hrow, hst, hch, hll, hk0, hokl, hma, hml, hml2⟩ := hrel
      by_cases hex : k < n ∧ ∃ r, stk = some r
      · obtain ⟨hkn, r, rfl⟩ := hex
        have hki : (k : Int) < (n : Int) := by omega
        have hn4 : n ≤ 4000 := by
          rcases Nat.lt_or_ge 4000 n with h7 | h7
          · cases hgt h7
          · exact h7
        have HE := hH (node_get (some r) g wq hst)
        obtain ⟨s, hs8, hsr, hbk⟩ := hst
        have q1 := hbk.cell 1
        simp only [List.getElem?_toArray, List.getElem?_cons_zero, List.getElem?_cons_succ] at q1
        have HROW := hH hrow
        have HCQ := hH hch
        have HREST := hH (And.intro hll (And.intro hokl (And.intro hma (hml2 r rfl))))
        clear hrow hbk hch hll hokl hma hml hml2 hk0 hgt
        go_wp2_with (first
          | (go_at_call 161
             refine (uH HE).mono ?_
             rintro e w3 ⟨v, x, st3, rfl, hR, hokx, hst3, hch3, hnx3, hln3⟩
             obtain rfl := hR
             obtain ⟨ps, hp1, hp2, hp3⟩ := (uH HROW).stay RE_node_ok hglt hch3
             have hown1 : ∀ j, u6.ownBlock = some j → j < wq.heap.size := by
               obtain ⟨_, _, h9, _⟩ := uH HROW
               exact fun j hj => (h9.lt j hj).2
             obtain ⟨OA, oc, hu6⟩ := own_val hp2
             have hpl : ps.length = k := by rw [← (uH HREST).1, ← hp1, List.length_map]
             have hbw : w.heap.size ≤ (w3.alloc (.cells #[.int .i64 x.kind, .string x.text, .int .i64 x.num, .int .i64 x.kids] 59)).heap.size := by rw [size_alloc]; have := (uH HCQ).size; have := hch3.size; omega
             have HSTEP := hH (fun W3 v3 O (ho : W3.ownsRow w.heap.size 59 4 v3 (k + 1) ((ps.flatMap fun p => (ndv) p.1 p.2) ++ [.int .i64 x.kind, .string x.text, .int .i64 x.num, .int .i64 x.kids])) => RowIn.step (f := ndv) (T := 59) (sz := 4) (W3 := W3) (v3 := v3) (O := O) RE_node_ok hp2 hp3 hown1 (uH HCQ).size hch3.size (u := .slice none 0 0) (nd_ok hokx) (by rw [hpl]; exact ho))
             rw [hpl] at hp2 hu6
             have HOW := hH (hp2.alloc (.cells #[.int .i64 x.kind, .string x.text, .int .i64 x.num, .int .i64 x.kids] 59))
             have HRN := hH ((rd_new w3 w3.heap.size 59 [.int .i64 x.kind, .string x.text, .int .i64 x.num, .int .i64 x.kids] rfl).mono (T' := fun _ => True) (fun _ _ => trivial))
             have HST3 := hH hst3
             have HCH3 := hH ((uH HCQ).trans' hch3)
             have HN3 := hH (And.intro hokx (And.intro hnx3 hln3))
             have HP1 := hH hp1
             have HOWN := hH (fun j hj => (hp2.lt j hj).1)
             subst hu6
             clear hp1 hp2 hp3 hst3 hch3 hnx3 hln3 hokx hown1 hpl)
          | (at_builtin
             refine wpList_append_rd _ rfl (.tmp 27) (.tmp 30) 54 rfl w.heap.size 59 i_ (.agg #[.int .i64 0, .string ⟨#[]⟩, .int .i64 0, .int .i64 0]) 4 40 Tryz.underlying54 hi hz hs hb rfl (by decide) _ k _ rfl (uH HOW) (fun _ => True) (some ⟨w3.heap.size, 0, none⟩) 1 1 [.int .i64 x.kind, .string x.text, .int .i64 x.num, .int .i64 x.kids] rfl rfl (uH HRN) (by intro u hu; simp at hu; rcases hu with rfl | rfl | rfl | rfl <;> rfl) (by simp only [maxLen]; omega) (by omega) hbw ?_
             intro v5 w5 ho5 hc5 hat
             have HR5 := hH (uH HSTEP w5 v5 _ ho5 hc5 hat)
             have HST5 := hH (((uH HST3).chg ((Chg.refl (fun _ => False) w3).alloc (.cells #[.int .i64 x.kind, .string x.text, .int .i64 x.num, .int .i64 x.kids] 59)) id).chg hc5 (fun e => by have := uH HOWN _ e; omega))
             have HCH5 := hH (((uH HCH3).alloc (.cells #[.int .i64 x.kind, .string x.text, .int .i64 x.num, .int .i64 x.kids] 59)).trans hc5 (fun i hi e => by have := uH HOWN _ e; omega))
             clear ho5 hc5 hat))
        go_roundw
        case rel =>
          obtain ⟨hll, hokl, hma, hml2⟩ := uH HREST
          obtain ⟨hokx, hnx3, hln3⟩ := uH HN3
          refine ⟨k + 1, l ++ [x], st3, by go_num, by omega, fun h7 => by omega, ?_, uH HST5, uH HCH5, by rw [List.length_append, hll]; rfl, .inr hn4, fun y hy => ?_, hma.step hkn hnx3, ?_, fun r3 hr3 => ?_⟩
          · rw [← uH HP1]
            exact uH HR5
          · rcases List.mem_append.1 hy with hy | hy
            · exact hokl y hy
            · obtain rfl := List.mem_singleton.1 hy
              exact hokx
          · have e : (l ++ [x]).flatMap nodeP = l.flatMap nodeP ++ nodeP x := by simp
            rw [e, List.length_append]
            (try dsimp only at hln3)
            omega
          · have e : (l ++ [x]).flatMap nodeP = l.flatMap nodeP ++ nodeP x := by simp
            rw [e, List.length_append]
            have hl9 : r.length = (nodeP x).length + r3.length := node_len r x r3 (by
              subst hr3
              unfold NextSt at hnx3
              rw [Option.bind_some] at hnx3
              cases e9 : (pNode) r with
              | none => rw [e9] at hnx3; cases hnx3
              | some y9 =>
                rw [e9] at hnx3
                obtain ⟨h91, h92⟩ := hnx3
                injection h92 with h92
                rw [h91, h92])
            subst hr3
            show (l.flatMap nodeP).length + (nodeP x).length + r3.length ≤ lenS st1
            have hml3 : (l.flatMap nodeP).length + r.length ≤ lenS st1 := hml2
            omega
        case measure => simp [intOf]; omega
      · have hend : stk = none ∨ n ≤ k := by
          cases stk with
          | none => exact .inl rfl
          | some r => exact .inr (Nat.le_of_not_lt fun h7 => hex ⟨h7, r, rfl⟩)
        obtain ⟨s, hs8, hbk⟩ := hst
        have hbb : ∃ b : Bool, Blk wq g 92 #[.string s, .bool b] ∧ ((k : Int) < (n : Int) → b = true) := by
          cases stk with
          | none => exact ⟨true, hbk, fun _ => rfl⟩
          | some r => exact ⟨false, hbk.2, fun h7 => absurd ⟨by omega, r, rfl⟩ hex⟩
        obtain ⟨bb, hbb, hbt⟩ := hbb
        have q1 := hbb.cell 1
        simp only [List.getElem?_toArray, List.getElem?_cons_zero, List.getElem?_cons_succ] at q1
        have HFIN := hH (hma.fin hend)
        have HSTQ := hH (show StAt wq g stk from ⟨s, hs8, hbk⟩)
        have HROW := hH hrow
        have HCQ := hH hch
        have HREST := hH (And.intro hll (And.intro hokl (And.intro hml hk0)))
        clear hbk hbb hma hrow hch hll hokl hml hml2 hex hend hk0 hgt
        have fin : ∀ W : World, W = wq → bodyPost Tryz.prog Tryz.f0 (fun _ _ => True) .ret ⟨#[], []⟩ W → True := fun _ _ _ => trivial
        by_cases hkn : (k : Int) < (n : Int)
        · have hbt2 := hbt hkn
          subst hbt2
          go_wp2_with fail
          go_ret
          obtain ⟨hll, hokl, hml, hk0⟩ := uH HREST
          have h1 := uH HLN
          refine ⟨_, l, stk, rfl, uH HROW, ⟨by rcases hk0 with h7 | h7 <;> omega, hokl⟩, uH HSTQ, uH HCQ, NextSt.seq (uH HNX) (uH HFIN), ?_⟩
          (try dsimp only at h1 ⊢)
          unfold rowP
          rw [List.length_append, low_len]
          omega
        · clear hbt
          go_wp2_with fail
          go_ret
          obtain ⟨hll, hokl, hml, hk0⟩ := uH HREST
          have h1 := uH HLN
          refine ⟨_, l, stk, rfl, uH HROW, ⟨by rcases hk0 with h7 | h7 <;> omega, hokl⟩, uH HSTQ, uH HCQ, NextSt.seq (uH HNX) (uH HFIN), ?_⟩
          (try dsimp only at h1 ⊢)
          unfold rowP
          rw [List.length_append, low_len]
          omega
end Go.Proofs.YtinekmjengckdaaGreatDoor

namespace Go.Proofs.YtinekmjengckdaaGreatDoor
open Go.RowKit
set_option maxHeartbeats 4000000
set_option maxRecDepth 100000
theorem open_get (st : Option (List UInt8)) (g : Nat) (w : World) (h : StAt w g st) :
    Calls Tryz.prog 59 #[.pointer (some ⟨g, 0, none⟩)] w (Got pOpn (fun x => (opnP x).length) 6 OpnFit (fun _base _ _W v x => v = .agg #[.string x.name, .int .u32 x.digest]) g st w) := by
  have HN := hH (rtext_any st g (w.alloc (.cells #[.string ⟨#[]⟩, .int .u32 0] 51)) (h.chg ((Chg.refl (fun _ => False) w).alloc _) id))
  have hglt := h.lt
  have HBX := hH (Blk.new w 51 #[.string ⟨#[]⟩, .int .u32 0])
  have HC0 := hH ((Chg.refl (· = g) w).alloc (.cells #[.string ⟨#[]⟩, .int .u32 0] 51))
  have hgne : ¬ w.heap.size = g := by omega
  clear h
  go_enter Tryz.func59, Tryz.ntmps59
  go_upto_region 1 with fail
  go_wp2_with (first
    | (go_at_call 57; refine (uH HN).mono ?_; rintro e w2 ⟨v, x, st1, rfl, rfl, hok, hst, hch, hnx, hln⟩; have hal := (Chg.refl (fun _ => False) w2).alloc (.cells #[.string x, .int .u32 0] 51); have HB2 := hH (((uH HBX).chg hch hgne).chg hal id); have HN2 := hH (rnum4_any st1 g (w2.alloc (.cells #[.string x, .int .u32 0] 51)) (hst.chg hal id)); have HA2 := hH (Blk.new w2 51 #[.string x, .int .u32 0]); have hz1 := hch.size; have hz2 := ((uH HBX).chg hch hgne).lt; have hne1 : ¬ w2.heap.size = g := (by omega); have hne2 : ¬ w2.heap.size = w.heap.size := (by omega); have hne3 : ¬ w.heap.size = w2.heap.size := (by omega); have HCH2 := hH (((uH HC0).trans' hch).alloc (.cells #[.string x, .int .u32 0] 51)); have HS2 := hH (show w2.heap.size + 1 ≤ (w2.alloc (.cells #[.string x, .int .u32 0] 51)).heap.size from (by rw [size_alloc]; exact Nat.le_refl _)); have HX2 := hH (And.intro hok (And.intro hnx hln)); clear hst hch hnx hln hok hal hz1 HN HBX HC0)
    | (go_at_call 123; refine (uH HN2).mono ?_; rintro e w3 ⟨v, y, st2, rfl, rfl, hok, hst, hch, hnx, hln⟩; have hwu : IntKind.u32.wrap (y : Int) = (y : Int) := (by simp only [IntKind.wrap, IntKind.bits, IntKind.signed]; simp; omega); have hb := (uH HB2).chg hch hgne; have ha := (uH HA2).chg hch hne1; have q0 := hb.cell 0; have f0 := hb.frozen 0; have p0 := ha.cell 0; have q1 := hb.cell 1; have f1 := hb.frozen 1; have p1 := ha.cell 1; have e1 := ha.frozen 1; simp only [List.getElem?_toArray, List.getElem?_cons_zero, List.getElem?_cons_succ] at q0 p0 q1 p1; have HCHE := hH ((uH HCH2).trans' hch); have HSTE := hH hst; have hs := hch.size; have hs2 := uH HS2; have HS3 := hH (show w2.heap.size + 1 ≤ w3.heap.size from (by omega)); have HX3 := hH (And.intro hok (And.intro hnx hln)); clear hst hch hnx hln hok hb ha hs hs2))
  obtain ⟨hok2, hnx2, hln2⟩ := uH HX2
  obtain ⟨hok3, hnx3, hln3⟩ := uH HX3
  refine bodyPost_ret (v := .agg #[.string x, .int .u32 y]) (by simp [results, Tryz.results59, go_sem, q0, q1]) rfl ⟨_, ⟨x, (y : Int)⟩, st2, rfl, ?_, ⟨hok2, Int.natCast_nonneg _, by show (y : Int) < 4294967296; omega⟩, ?_, ?_, NextSt.seq (q := fun t => mapT (fun (y : Nat) => (⟨t, (y : Int)⟩ : Opn)) (pNum 4)) hnx2 (hnx3.map (fun (y : Nat) => (⟨x, (y : Int)⟩ : Opn))), ?_⟩
  · rfl
  · refine StAt.chg (S := (· ≠ g)) (W := w3) (uH HSTE) ?_ (fun h => h rfl)
    repeat (refine Chg.setCell ?_ (fun _ => (by first | exact hgne | exact hne1)) _)
    exact Chg.refl _ _
  · repeat (refine Chg.setCell ?_ (fun h => (by dsimp only at h; omega)) _)
    exact uH HCHE
  · have e : (opnP ⟨x, (y : Int)⟩).length = 6 + x.size := by
      unfold opnP
      rw [List.length_append, low_len, text_plen]
      (try dsimp only)
      omega
    (try dsimp only at hln2 hln3 ⊢)
    omega
end Go.Proofs.YtinekmjengckdaaGreatDoor
