/-
  Layer 10, the program's side: the type of a function, and a type's own type.
-/
import Derived.Test.YticnehmgaklhfaaGreatDoorDtj
import Derived.Test.YticnehmgaklhfaaGreatDoorLw
namespace Go.Proofs.YticnehmgaklhfaaGreatDoor
open Go.RowKit
set_option maxHeartbeats 4000000
set_option maxRecDepth 100000
def arrN : Nd := ⟨32, ArrowT, 0, 2⟩
def preL (args : List (List Nd)) : List Nd := args.flatMap fun a => arrN :: a
theorem arrow_pre : ∀ (args : List (List Nd)) (tz : List Nd), arrowL args tz = preL args ++ tz
  | [], _ => rfl
  | a :: args, tz => by
    show (⟨32, ArrowT, 0, 2⟩ :: (a ++ arrowL args tz) : List Nd) = _
    rw [arrow_pre args tz]
    show _ = (arrN :: a ++ preL args) ++ tz
    simp [arrN]
theorem preL_succ {args : List (List Nd)} {k : Nat} {x : List Nd} (h : args[k]? = some x) : preL (args.take (k + 1)) = (preL (args.take k) ++ [arrN]) ++ x := by
  obtain ⟨hk, rfl⟩ := List.getElem?_eq_some_iff.1 h
  rw [List.take_succ_eq_append_getElem hk]
  unfold preL
  rw [List.flatMap_append, List.append_assoc]
  simp
theorem preL_len {M : Nat} : ∀ {args : List (List Nd)}, (∀ a ∈ args, a.length ≤ M) → (preL args).length ≤ args.length * (M + 1)
  | [], _ => by simp [preL]
  | a :: args, h => by
    have h1 := preL_len (args := args) (fun x hx => h x (List.mem_cons_of_mem _ hx))
    have h2 := h a List.mem_cons_self
    have h3 : preL (a :: args) = (arrN :: a) ++ preL args := rfl
    rw [h3, List.length_append, List.length_cons, List.length_cons, Nat.succ_mul]
    omega
theorem arr_one : ∀ u ∈ nd4 arrN, u.oneCell' = true := by
  intro u hu
  simp only [nd4, arrN, List.mem_cons, List.not_mem_nil, or_false] at hu
  rcases hu with rfl | rfl | rfl | rfl <;> rfl
theorem flat_app (a b : List Nd) : (a ++ b).flatMap nd4 = a.flatMap nd4 ++ b.flatMap nd4 := List.flatMap_append
theorem flat_one (n : Nd) : [n].flatMap nd4 = nd4 n := by simp
theorem arrow_oks {args : List (List Nd)} {tz : List Nd} (h1 : ∀ a ∈ args, ∀ n ∈ a, ndOk n) (h2 : ∀ n ∈ tz, ndOk n) : ∀ n ∈ arrowL args tz, ndOk n := fun n hn => by
  rcases arrow_mem hn with rfl | ⟨a, ha, hn⟩ | hn
  · show ArrowT.size ≤ _
    decide
  · exact h1 a ha n hn
  · exact h2 n hn
/-- A slice has no fewer places than things. -/
def capOk (v : Value) : Prop := ∃ A n c, v = .slice A n c ∧ n ≤ c ∧ c ≤ maxLen
theorem own_cap {w : World} {base : Nat} {e : TypeId} {size n : Nat} {v : Value} {xs : List Value} (h : w.ownsRow base e size v n xs) : capOk v := by
  rcases h.2 with ⟨rfl, rfl⟩ | ⟨g, cap, cur, rfl, _, _, hcap, hmx, _, _⟩
  · exact ⟨none, 0, 0, rfl, Nat.le_refl _, Nat.zero_le _⟩
  · exact ⟨_, _, _, rfl, hcap, hmx⟩
theorem arrow_any (args : List (List Nd)) (tz : List Nd) (v1 v2 : Value) (T T2 : Nat → Prop) (w : World) (hr1 : RdNs T w v1 args) (hr2 : RdN T2 w v2 tz) (hn : args.length ≤ 100) (han : ∀ a ∈ args, a.length ≤ 4000) (htn : tz.length ≤ 100000) :
    Calls Tryz.prog 13 #[v1, v2] w fun e w' => ∃ v', e = .returned v' ∧ RdN (fun k => w.heap.size ≤ k) w' v' (arrowL args tz) ∧ capOk v' ∧ Chg (fun _ => False) w w' := by
  have hok := arrow_oks (args := args) (tz := tz) (fun a ha n hn2 => by
    obtain ⟨k, hk⟩ := List.mem_iff_getElem?.1 ha
    obtain ⟨_, _, _, _, _, _, h, _⟩ := hr1.at_ hk
    exact h.oks n hn2) hr2.oks
  obtain ⟨i_, hi, hz, hs, hb⟩ := info_parts infoNd
  obtain ⟨A2, c2, rfl⟩ := hr2.val
  obtain ⟨A1, c1, rfl⟩ := hr1.val
  have H1 := hide hr1
  have H2 := hide hr2
  have HAN := hide han
  have HOK := hide hok
  have HPL := hide (arrow_pre args tz)
  generalize arrowL args tz = R at *
  clear hr1 hr2 han hok
  go_enter Tryz.func13, Tryz.ntmps13
  go_wp2_with fail
  go_loopw [5, 10] (fun out i wr => ∃ k : Nat, i = .int .i64 (k : Int) ∧ k ≤ args.length ∧ wr.ownsRow w.heap.size 56 4 out (preL (args.take k)).length ((preL (args.take k)).flatMap nd4) ∧ Chg (fun _ => False) w wr) (fun _ i _ => args.length - (intOf i).toNat)
  case atStart => exact ⟨0, rfl, Nat.zero_le _, World.ownsRow_nil _ _ _ _, Chg.refl _ _⟩
  case round =>
    obtain ⟨wq, rfl⟩ : ∃ wq : World, wq = wr := ⟨_, rfl⟩
    obtain ⟨k, rfl, hk, hown, hch⟩ := hrel
    have hpl : (preL (args.take k)).length ≤ 100 * 4001 := by
      have := preL_len (M := 4000) (args := args.take k) (fun a ha => (unhide HAN) a (List.mem_of_mem_take ha))
      rw [List.length_take] at this
      omega
    obtain ⟨B, c5, rfl⟩ := own_val hown
    by_cases hlt : k < args.length
    · have hki : (k : Int) < (args.length : Int) := by omega
      have hx : args[k]? = some args[k] := List.getElem?_eq_getElem hlt
      have hxn := (unhide HAN) args[k] (List.getElem_mem hlt)
      generalize args[k] = x at *
      have hsn := preL_succ hx
      obtain ⟨b, o, c3, u, hv, _, hru, c0⟩ := (unhide H1).at_ hx
      injection hv with hv1 hv2 hv3
      subst hv1 hv3
      have c0q := (hch.cell (World.block_lt_of_cell? w _ c0) id).trans c0
      obtain ⟨X, cx, rfl⟩ := hru.val
      generalize preL (args.take k) = V at *
      have HOWN := hide hown
      have HCH := hide hch
      have HSN := hide hsn
      have HRU := hide hru
      have HRN := hide (fun W : World => (rd_new W W.heap.size 56 (nd4 arrN) rfl).mono (T' := fun _ => True) (fun _ _ => trivial))
      have ho1 := arr_one
      have hx1 := nd4_one x
      have hxl := nd4_len x
      have hm1 : V.length + 1 ≤ maxLen := by simp only [maxLen]; omega
      have hm2 : (V.length + 1) * 40 ≤ 140737488355328 := by omega
      have hm3 : V.length + 1 + x.length ≤ maxLen := by simp only [maxLen]; omega
      have hm4 : (V.length + 1 + x.length) * 40 ≤ 140737488355328 := by omega
      have hbs : w.heap.size ≤ (wq.alloc (.cells (nd4 arrN).toArray 56)).heap.size := by rw [size_alloc]; have := hch.size; omega
      clear hown hch hsn hx hru c0
      go_wp2_with (first
        | (at_builtin
           refine wpList_append_rd _ rfl (.tmp 14) (.tmp 16) 33 rfl w.heap.size 56 i_ _ 4 40 Tryz.underlying33 hi hz hs hb rfl (by decide) _ V.length _ rfl ((unhide HOWN).alloc (.cells (nd4 arrN).toArray 56)) (fun _ => True) (some ⟨wq.heap.size, 0, none⟩) 1 1 (nd4 arrN) rfl rfl ((unhide HRN) wq) ho1 hm1 hm2 hbs ?_
           intro v5 w5 ho5 hc5 hat
           have HO5 := hide ho5
           have HC5 := hide ((unhide HCH).trans (((Chg.refl (fun k => (Value.slice B V.length c5).ownBlock = some k) wq).alloc (.cells (nd4 arrN).toArray 56)).trans hc5 (fun _ _ h => h)) (fun i hi e => by have := ((unhide HOWN).lt i e).1; omega))
           (have hrx := ((unhide HRU).chg (unhide HC5) (fun _ _ _ => id)).rd.2)
           (have hb5 : w.heap.size ≤ w5.heap.size := (unhide HC5).size)
           clear ho5 hc5 hat)
        | (at_builtin
           refine wpList_append_rd _ rfl (.tmp 17) (.tmp 18) 33 rfl w.heap.size 56 i_ _ 4 40 Tryz.underlying33 hi hz hs hb rfl (by decide) _ (V.length + 1) _ rfl (unhide HO5) T X x.length cx (x.flatMap nd4) rfl hxl hrx hx1 hm3 hm4 hb5 ?_
           intro v6 w6 ho6 hc6 hat
           have HO6 := hide ho6
           have HC6 := hide ((unhide HC5).trans hc6 (fun i hi e => by have := ((unhide HO5).lt i e).1; omega))
           clear ho6 hc6 hat))
      go_roundw
      case rel =>
        refine ⟨k + 1, by go_num, by omega, ?_, unhide HC6⟩
        rw [unhide HSN, flat_app, flat_app, flat_one, List.length_append, List.length_append]
        exact unhide HO6
      case measure => simp [intOf]; omega
    · obtain rfl : k = args.length := by omega
      have hki : ¬ (args.length : Int) < (args.length : Int) := by omega
      rw [List.take_length] at hown hpl
      have ht1 : (Value.slice B (preL (args.take args.length)).length c5) = .slice B (preL args).length c5 := by rw [List.take_length]
      rw [ht1]
      have hrx := ((unhide H2).chg hch (fun _ _ _ => id)).rd.2
      generalize preL args = V at *
      have HOWN := hide hown
      have HCH := hide hch
      have hx1 := nd4_one tz
      have hxl := nd4_len tz
      have hm3 : V.length + tz.length ≤ maxLen := by simp only [maxLen]; omega
      have hm4 : (V.length + tz.length) * 40 ≤ 140737488355328 := by omega
      have hb5 : w.heap.size ≤ wq.heap.size := hch.size
      clear hown hch ht1
      go_wp2_with (at_builtin
                   refine wpList_append_rd _ rfl (.tmp 21) (.tmp 22) 33 rfl w.heap.size 56 i_ _ 4 40 Tryz.underlying33 hi hz hs hb rfl (by decide) _ V.length _ rfl (unhide HOWN) T2 A2 tz.length c2 (tz.flatMap nd4) rfl hxl hrx hx1 hm3 hm4 hb5 ?_
                   intro v6 w6 ho6 hc6 hat
                   have HO6 := hide ho6
                   have HC6 := hide ((unhide HCH).trans hc6 (fun i hi e => by have := ((unhide HOWN).lt i e).1; omega))
                   clear ho6 hc6 hat)
      go_ret
      have hO := unhide HO6
      have hP := unhide HPL
      rw [← flat_app, ← List.length_append, ← hP] at hO
      have hcp := own_cap hO
      obtain ⟨B6, c6, rfl⟩ := own_val hO
      refine ⟨_, rfl, RdN.mk ((own_rd hO (by omega)).mono (fun k hk => (hO.lt k hk).1)) (unhide HOK) ?_, hcp, unhide HC6⟩
      rw [hP, List.length_append]
      omega
theorem own_one {w : World} {g e : Nat} {base : Nat} {xs : List Value} {n : Nat} (h : Blk w g e xs.toArray) (hb : base ≤ g) (hn : xs.length = n) : w.ownsRow base e n (.slice (some ⟨g, 0, none⟩) 1 1) 1 xs :=
  ⟨by rw [hn, Nat.one_mul], .inr ⟨g, 1, xs.toArray, rfl, hb, h, Nat.le_refl _, by simp only [maxLen]; omega, by simp [hn], by simp [← hn]⟩⟩
def ofK (d : Dt) (k : Nat) : List Nd := ⟨32, d.name, 0, d.params⟩ :: (List.range k).map fun (v : Nat) => ⟨31, ⟨#[]⟩, (v : Int), 0⟩
theorem ofK_succ (d : Dt) (k : Nat) : ofK d (k + 1) = ofK d k ++ [⟨31, ⟨#[]⟩, (k : Int), 0⟩] := by
  unfold ofK
  rw [List.range_succ, List.map_append]
  rfl
theorem ofK_len (d : Dt) (k : Nat) : (ofK d k).length = k + 1 := by simp [ofK]
theorem ofK_oks (d : Dt) (k : Nat) (h : d.name.size ≤ 9223372036854775807) : ∀ n ∈ ofK d k, ndOk n := fun n hn => by
  unfold ofK at hn
  rcases List.mem_cons.1 hn with rfl | hn
  · exact h
  · obtain ⟨v, _, rfl⟩ := List.mem_map.1 hn
    show (0 : Nat) ≤ _
    omega
theorem of_any (d : Dt) (B : Option Addr) (m c : Nat) (w : World) (hs : d.name.size ≤ 9223372036854775807) (hp0 : 0 ≤ d.params) (hp : d.params ≤ 1000) :
    Calls Tryz.prog 30 #[.agg #[.string d.name, .int .i64 d.params, .slice B m c]] w fun e w' => ∃ v', e = .returned v' ∧ RdN (fun k => w.heap.size ≤ k) w' v' (ofL d) ∧ capOk v' ∧ Chg (fun _ => False) w w' := by
  obtain ⟨p, hpp⟩ : ∃ p : Nat, d.params = (p : Int) := ⟨d.params.toNat, by omega⟩
  have HOF := hide (show ofL d = ofK d p from by unfold ofL ofK; rw [hpp, Int.toNat_natCast])
  have HOK := hide (ofK_oks d p hs)
  have HS := hide (fun k => ofK_succ d k)
  have HL := hide (fun k => ofK_len d k)
  have H0 := hide (show (ofK d 0).flatMap nd4 = [.int .i64 32, .string d.name, .int .i64 0, .int .i64 (p : Int)] from by rw [← hpp]; rfl)
  rw [hpp]
  obtain ⟨i_, hi, hz, hsi, hb⟩ := info_parts infoNd
  have k1 := Blk.new w 51 #[.string d.name, .int .i64 (p : Int), .slice B m c]
  have x0 := k1.cell 0
  have x1 := k1.cell 1
  have hc1 : Chg (fun _ => False) w ((w.alloc (.cells #[.string d.name, .int .i64 (p : Int), .slice B m c] 51)).alloc (.cells #[.int .i64 32, .string d.name, .int .i64 0, .int .i64 (p : Int)] 56)) := ((Chg.refl _ w).alloc _).alloc _
  have k2 := Blk.new_at (w.alloc (.cells #[.string d.name, .int .i64 (p : Int), .slice B m c] 51)) (w.heap.size + 1) 56 #[.int .i64 32, .string d.name, .int .i64 0, .int .i64 (p : Int)] (by simp)
  have ho0 := own_one (base := w.heap.size) (n := 4) k2 (by omega) rfl
  have y1 := (k1.alloc (.cells #[.int .i64 32, .string d.name, .int .i64 0, .int .i64 (p : Int)] 56)).cell 1
  simp only [List.getElem?_toArray, List.getElem?_cons_zero, List.getElem?_cons_succ] at x0 x1 y1
  have HO0 := hide ho0
  have HC1 := hide hc1
  have hp8 : p ≤ 1000 := by omega
  generalize ofL d = R at *
  clear k1 k2 ho0 hc1 hpp hp0 hp hs
  go_enter Tryz.func30, Tryz.ntmps30
  go_wp2_with fail
  go_loopw [3, 13] (fun out i wr => ∃ k : Nat, i = .int .i64 (k : Int) ∧ k ≤ p ∧ wr.ownsRow w.heap.size 56 4 out (k + 1) ((ofK d k).flatMap nd4) ∧ Chg (fun _ => False) w wr) (fun _ i _ => p - (intOf i).toNat)
  case atStart => exact ⟨0, rfl, Nat.zero_le _, by rw [unhide H0]; exact unhide HO0, unhide HC1⟩
  case round =>
    obtain ⟨wq, rfl⟩ : ∃ wq : World, wq = wr := ⟨_, rfl⟩
    obtain ⟨k, rfl, hk, hown, hch⟩ := hrel
    obtain ⟨C, c5, rfl⟩ := own_val hown
    by_cases hlt : k < p
    · have hki : (k : Int) < (p : Int) := by omega
      have HOWN := hide hown
      have HCH := hide hch
      have HRN := hide (fun W : World => (rd_new W W.heap.size 56 (nd4 ⟨31, ⟨#[]⟩, (k : Int), 0⟩) rfl).mono (T' := fun _ => True) (fun _ _ => trivial))
      have ho1 : ∀ u ∈ nd4 ⟨31, ⟨#[]⟩, (k : Int), 0⟩, u.oneCell' = true := by
        intro u hu
        simp only [nd4, List.mem_cons, List.not_mem_nil, or_false] at hu
        rcases hu with rfl | rfl | rfl | rfl <;> rfl
      have hm1 : k + 1 + 1 ≤ maxLen := by simp only [maxLen]; omega
      have hm2 : (k + 1 + 1) * 40 ≤ 140737488355328 := by omega
      have hbs : w.heap.size ≤ (wq.alloc (.cells (nd4 ⟨31, ⟨#[]⟩, (k : Int), 0⟩).toArray 56)).heap.size := by rw [size_alloc]; have := hch.size; omega
      clear hown hch
      go_wp2_with (at_builtin
                   refine wpList_append_rd _ rfl (.tmp 16) (.tmp 19) 33 rfl w.heap.size 56 i_ _ 4 40 Tryz.underlying33 hi hz hsi hb rfl (by decide) _ (k + 1) _ rfl ((unhide HOWN).alloc (.cells (nd4 ⟨31, ⟨#[]⟩, (k : Int), 0⟩).toArray 56)) (fun _ => True) (some ⟨wq.heap.size, 0, none⟩) 1 1 (nd4 ⟨31, ⟨#[]⟩, (k : Int), 0⟩) rfl rfl ((unhide HRN) wq) ho1 hm1 hm2 hbs ?_
                   intro v5 w5 ho5 hc5 hat
                   have HO5 := hide ho5
                   have HC5 := hide ((unhide HCH).trans (((Chg.refl (fun j => (Value.slice C (k + 1) c5).ownBlock = some j) wq).alloc (.cells (nd4 ⟨31, ⟨#[]⟩, (k : Int), 0⟩).toArray 56)).trans hc5 (fun _ _ h => h)) (fun i hi e => by have := ((unhide HOWN).lt i e).1; omega))
                   clear ho5 hc5 hat)
      go_roundw
      case rel =>
        refine ⟨k + 1, by go_num, by omega, ?_, unhide HC5⟩
        rw [unhide HS, flat_app, flat_one]
        exact unhide HO5
      case measure => simp [intOf]; omega
    · obtain rfl : k = p := by omega
      have hki : ¬ (k : Int) < (k : Int) := by omega
      have HOWN := hide hown
      have HCH := hide hch
      clear hown hch
      go_wp2_with fail
      go_ret
      have hO := unhide HOWN
      have hl := unhide HL k
      have hcp := own_cap hO
      refine ⟨_, rfl, ?_, hcp, unhide HCH⟩
      rw [unhide HOF, ← hl]
      exact RdN.mk ((own_rd hO (by omega)).mono (fun j hj => (hO.lt j hj).1)) (unhide HOK) (by rw [hl]; omega)
end Go.Proofs.YticnehmgaklhfaaGreatDoor
