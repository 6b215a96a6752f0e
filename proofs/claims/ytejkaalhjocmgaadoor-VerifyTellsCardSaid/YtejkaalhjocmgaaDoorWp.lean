/-
  Layer 19: one step: the walk of the closure.
-/
import Derived.Test.YtejkaalhjocmgaaDoorWo
namespace Go.Proofs.YtejkaalhjocmgaaDoor
open Go.RowKit
set_option maxHeartbeats 1000000
set_option maxRecDepth 100000
theorem come_work (n : Nat) (C : PC) (t : Nat) (s : PSt) : (C.come n t s).work.length ≤ C.work.length + 1 := by
  unfold PC.come
  split
  · exact Nat.le_succ _
  · split
    · split
      · exact Nat.le_succ _
      · exact Nat.le_succ _
    · simp
def comesP (n : Nat) (C : PC) (s : PSt) (l : List Nat) : PC := l.foldl (fun C t => C.come n t s) C
theorem comes_work (n : Nat) (s : PSt) : ∀ (l : List Nat) (C : PC), (comesP n C s l).work.length ≤ C.work.length + l.length := by
  intro l
  induction l with
  | nil => intro C; exact Nat.le_refl _
  | cons t l ih =>
    intro C
    have h1 := ih (C.come n t s)
    have h2 := come_work n C t s
    show (comesP n (C.come n t s) s l).work.length ≤ _
    rw [List.length_cons]
    omega
theorem comes_snoc (n : Nat) (C : PC) (s : PSt) (l : List Nat) (t : Nat) : comesP n C s (l ++ [t]) = (comesP n C s l).come n t s := by
  unfold comesP
  rw [List.foldl_append]
  rfl
theorem COut.tt {w w' : World} {base c b mp n L : Nat} {pv cv v5 v5' : Value} {f : I64 → Option Int} {cs : Array Value} {C' : PC} (_h : CMem w' base c b mp n L pv cv v5' f cs C') (hc : Chg (fun k => k = c ∨ k = b ∨ k = mp ∨ v5.ownBlock = some k) w w') (hv : v5'.ownBlock = v5.ownBlock ∨ ∃ k, v5'.ownBlock = some k ∧ w.heap.size ≤ k) {t : Nat} (ht : TT w c b mp v5 t) : TT w' c b mp v5' t := by
  refine ⟨by have := hc.size; have := ht.1; omega, ht.2.1, ht.2.2.1, ht.2.2.2.1, ?_⟩
  rcases hv with e | ⟨k, e, hk⟩
  · rw [e]; exact ht.2.2.2.2
  · rw [e]; intro e2; injection e2 with e2; have := ht.1; omega
theorem tt_not {w : World} {c b mp t : Nat} {v5 : Value} (h : TT w c b mp v5 t) : ¬ (t = c ∨ t = b ∨ t = mp ∨ v5.ownBlock = some t) := by
  rintro (e | e | e | e)
  · exact h.2.1 e
  · exact h.2.2.1 e
  · exact h.2.2.2.1 e
  · exact h.2.2.2.2 e
theorem TT.old {w w' : World} {c b mp t : Nat} {v5 : Value} (h : TT w c b mp v5 t) (hs : w.heap.size ≤ w'.heap.size) : TT w' c b mp v5 t := ⟨by have := h.1; omega, h.2⟩
theorem step_out_any {w : World} {base c b mp n L : Nat} {pv v5 : Value} {cA : Option Addr} {cc : Nat} {f : I64 → Option Int} {cs : Array Value} {C : PC} (h : CMem w base c b mp n L pv (.slice cA n cc) v5 f cs C) (s : PSt) (tv : Value) (x : Bool) (floor takes puts : Int) (holds : Bool) (tos : List Nat) (A : Option Addr) (cp sb fb cb : Nat)
    (hsb : Blk w sb 49 #[.int .i64 s.of, .int .i64 s.height, tv, .bool x]) (hfb : Blk w fb 3 #[.int .i64 floor]) (hcb : Blk w cb 64 #[.pointer (some ⟨c, 0, none⟩)]) (hb : -100000000 ≤ takes ∧ takes ≤ 100000000 ∧ -100000000 ≤ s.height ∧ s.height ≤ 100000000) (ho : holds = false ∨ s.height - takes < floor) :
    Calls Tryd.prog 45 #[.int .i64 takes, .int .i64 puts, .bool holds, .slice A tos.length cp, .pointer (some ⟨sb, 0, none⟩), .pointer (some ⟨fb, 0, none⟩), .pointer (some ⟨cb, 0, none⟩)] w fun e w' => e = .returned (.tuple #[]) ∧ COut w w' base c b mp n L pv (.slice cA n cc) v5 (C.step n s floor takes puts holds tos) := by
  have hE : C.step n s floor takes puts holds tos = C.badly := by
    unfold PC.step
    rw [if_pos]
    rcases ho with e | e
    · rw [e]; rfl
    · rw [decide_eq_true e, Bool.or_true]
  rw [hE]
  have s1 := hsb.cell 1
  have f0 := hfb.cell 0
  have c0 := hcb.cell 0
  have x5 := h.ck.cell 5
  have g5 := h.ck.frozen 5
  simp only [List.getElem?_toArray, List.getElem?_cons_zero, List.getElem?_cons_succ] at s1 f0 c0 x5
  have H := hide h
  clear h hE hsb hfb hcb
  have hcase : holds = false ∨ (holds = true ∧ decide (s.height - takes < floor) = true) := by
    cases holds
    · exact .inl rfl
    · exact .inr ⟨rfl, decide_eq_true (ho.resolve_left (by simp))⟩
  clear ho
  rcases hcase with rfl | ⟨rfl, hd⟩
  all_goals
    go_enter Tryd.func45, Tryd.ntmps45
    go_wp2_with fail
    exact bodyPost_ret (results_none (by kernel_rfl) _ _ _) rfl ⟨rfl, v5, f, cs, (unhide H).badly, (Chg.refl _ w).setCell (fun _ => .inl rfl) _, .inl rfl⟩
theorem step_in_any {w : World} {base c b mp n L : Nat} {pv v5 : Value} {cA : Option Addr} {cc : Nat} {f : I64 → Option Int} {cs : Array Value} {C : PC} (h : CMem w base c b mp n L pv (.slice cA n cc) v5 f cs C) (s : PSt) (tv : Value) (x : Bool) (floor takes puts : Int) (tos : List Nat) (A : Option Addr) (cp sb fb cb : Nat)
    (hsb : Blk w sb 49 #[.int .i64 s.of, .int .i64 s.height, tv, .bool x]) (hfb : Blk w fb 3 #[.int .i64 floor]) (hcb : Blk w cb 64 #[.pointer (some ⟨c, 0, none⟩)]) (hb : -100000000 ≤ takes ∧ takes ≤ 100000000 ∧ -100000000 ≤ s.height ∧ s.height ≤ 100000000 ∧ -100000000 ≤ puts ∧ puts ≤ 100000000) (ho : ¬ s.height - takes < floor)
    (hto : Rd (TT w c b mp v5) w A (tos.map (fun t : Nat => intl (t : Int)))) (htb : ∀ t ∈ tos, t ≤ 100000000) (_htl : tos.length ≤ 1000) (hT : TT w c b mp v5 cb) (hs : RdI (TT w c b mp v5) w tv s.tries) (hl : s.tries.length ≤ 1000) (hn : n ≤ 100000) (hw : C.work.length + tos.length ≤ 100000) :
    Calls Tryd.prog 45 #[.int .i64 takes, .int .i64 puts, .bool true, .slice A tos.length cp, .pointer (some ⟨sb, 0, none⟩), .pointer (some ⟨fb, 0, none⟩), .pointer (some ⟨cb, 0, none⟩)] w fun e w' => e = .returned (.tuple #[]) ∧ COut w w' base c b mp n L pv (.slice cA n cc) v5 (C.step n s floor takes puts true tos) := by
  have hE : C.step n s floor takes puts true tos = comesP n C ⟨s.of, s.height - takes + puts, s.tries⟩ tos := step_in ho
  rw [hE]
  have s0 := hsb.cell 0
  have s1 := hsb.cell 1
  have s2 := hsb.cell 2
  have f0 := hfb.cell 0
  simp only [List.getElem?_toArray, List.getElem?_cons_zero, List.getElem?_cons_succ] at s0 s1 s2 f0
  have hd : decide (s.height - takes < floor) = false := decide_eq_false ho
  obtain ⟨B, cp2, rfl⟩ := hs.val
  have ha := (Chg.refl (fun _ => False) w).alloc (.cells #[.int .i64 s.of, .int .i64 (s.height - takes + puts), .slice B s.tries.length cp2, .bool false] 49)
  have H1 := hide (h.old ha)
  have HNB := hide (Blk.new w 49 #[.int .i64 s.of, .int .i64 (s.height - takes + puts), .slice B s.tries.length cp2, .bool false])
  have HCB := hide (hcb.chg ha id)
  have HTO := hide ((hto.chg ha (fun _ _ _ => id)).mono (fun t ht => ht.old ha.size))
  have HTC := hide (hT.old ha.size)
  have HS := hide ((hs.chg ha (fun _ _ _ => id)).mono (fun t ht => ht.old ha.size))
  have HTN := hide (show TT (w.alloc (.cells #[.int .i64 s.of, .int .i64 (s.height - takes + puts), .slice B s.tries.length cp2, .bool false] 49)) c b mp v5 w.heap.size from ⟨by rw [size_alloc]; omega, fun e => by have := h.ck.lt; omega, fun e => by have := h.ats.blk.lt; omega, fun e => by obtain ⟨N, _, hm⟩ := h.mp_; have := hm.lt; omega, fun e => by have := (h.wk.lt _ e).2; omega⟩)
  have HA := hide ha
  clear h hE hsb hfb hcb hto hT hs ha ho
  obtain ⟨nh, hnh⟩ : ∃ nh, nh = s.height - takes + puts := ⟨_, rfl⟩
  rw [← hnh] at H1 HNB HCB HTO HTC HS HTN HA ⊢
  have hnb : -300000000 ≤ nh ∧ nh ≤ 300000000 := by omega
  have HNH := hide hnh.symm
  clear hnh
  go_enter Tryd.func45, Tryd.ntmps45
  go_wp2_with fail
  rw [unhide HNH]
  generalize w.alloc (.cells #[.int .i64 s.of, .int .i64 nh, .slice B s.tries.length cp2, .bool false] 49) = w1 at *
  go_loopw [40] (fun i wr => ∃ (k : Nat) (v5' : Value) (f' : I64 → Option Int) (cs' : Array Value), i = .int .i64 k ∧ k ≤ tos.length ∧ CMem wr base c b mp n L pv (.slice cA n cc) v5' f' cs' (comesP n C ⟨s.of, nh, s.tries⟩ (tos.take k)) ∧ Chg (fun k => k = c ∨ k = b ∨ k = mp ∨ v5.ownBlock = some k) w1 wr ∧ (v5'.ownBlock = v5.ownBlock ∨ ∃ k, v5'.ownBlock = some k ∧ w1.heap.size ≤ k)) (fun i _ => tos.length - (intOf i).toNat)
  case atStart => exact ⟨0, v5, f, cs, rfl, Nat.zero_le _, unhide H1, Chg.refl _ _, .inl rfl⟩
  case round =>
    obtain ⟨wq, rfl⟩ : ∃ wq : World, wq = wr := ⟨_, rfl⟩
    obtain ⟨k, v5', f', cs', rfl, hk, hm, hch, hv⟩ := hrel
    have htt := fun t (ht : TT w1 c b mp v5 t) => COut.tt hm hch hv ht
    have hnot := fun t (ht : TT w1 c b mp v5 t) => tt_not ht
    by_cases hlt : k < tos.length
    · have hto := (unhide HTO).chg hch (fun t ht _ => hnot t ht)
      obtain ⟨bb, oo, rfl, _, hat⟩ := hto.flat (by intro e; have := congrArg List.length e; rw [List.length_map, List.length_nil] at this; omega)
      have q0 := hat k _ (by rw [List.getElem?_map, List.getElem?_eq_getElem hlt]; rfl)
      have htake : tos.take (k + 1) = tos.take k ++ [tos[k]] := List.take_succ_eq_append_getElem hlt
      have hbt := htb _ (List.getElem_mem hlt)
      generalize tos[k] = t at *
      unfold intl at q0
      have nb := (unhide HNB).chg hch (hnot _ (unhide HTN))
      have n0 := nb.cell 0
      have n1 := nb.cell 1
      have n2 := nb.cell 2
      have n3 := nb.cell 3
      have c0 := ((unhide HCB).chg hch (hnot _ (unhide HTC))).cell 0
      simp only [List.getElem?_toArray, List.getElem?_cons_zero, List.getElem?_cons_succ] at n0 n1 n2 n3 c0
      have hcw := comes_work n ⟨s.of, nh, s.tries⟩ (tos.take k) C
      rw [List.length_take] at hcw
      have HC := hide (come_any hm t ⟨s.of, nh, s.tries⟩ (.slice B s.tries.length cp2) false hn hbt (((unhide HS).chg hch (fun t ht _ => hnot t ht)).mono (fun t ht => htt t ht)) hl (by omega))
      have HTK := hide htake
      have HCH := hide hch
      have HV := hide hv
      clear hat hto htake hm hch hv htt hnot nb hcw
      go_wp2_with (go_at_call 32; refine (unhide HC).mono ?_; rintro e w3 ⟨rfl, hco⟩; have HCO := hide hco; clear hco)
      obtain ⟨v6, f6, cs6, p1, p2, p3⟩ := unhide HCO
      go_roundw
      case rel =>
        refine ⟨k + 1, v6, f6, cs6, by go_num, by omega, ?_, (unhide HCH).trans p2 (fun i hi e => ?_), ?_⟩
        · rw [unhide HTK, comes_snoc]
          exact p1
        · rcases e with e | e | e | e
          · exact .inl e
          · exact .inr (.inl e)
          · exact .inr (.inr (.inl e))
          · rcases unhide HV with e2 | ⟨j, e2, hj⟩
            · rw [e2] at e; exact .inr (.inr (.inr e))
            · rw [e2] at e; injection e with e; omega
        · have hs1 := (unhide HCH).size
          rcases p3 with e | ⟨j, e, hj⟩
          · rw [e]; exact unhide HV
          · exact .inr ⟨j, e, by omega⟩
      case measure => simp [intOf]; omega
    · obtain rfl : k = tos.length := by omega
      rw [List.take_length] at hm
      have HM := hide hm
      have HCH := hide hch
      have HV := hide hv
      clear hm hch hv htt hnot
      go_wp2_with fail
      go_end0
      refine ⟨rfl, v5', f', cs', unhide HM, ((unhide HA).mono (fun _ _ h => h.elim)).trans (unhide HCH) (fun _ _ h => h), (unhide HV).imp id (fun ⟨j, e, hj⟩ => ⟨j, e, by have := (unhide HA).size; omega⟩)⟩
end Go.Proofs.YtejkaalhjocmgaaDoor
