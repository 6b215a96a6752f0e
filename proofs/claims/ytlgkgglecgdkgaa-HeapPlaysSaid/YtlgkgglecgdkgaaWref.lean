/-
  The walk of the closure in the heap's Shape.
-/
import Derived.Test.YtlgkgglecgdkgaaWcoll
import Derived.Test.YtlgkgglecgdkgaaMap
namespace Go.Proofs.Ytlgkgglecgdkgaa
open Go.RowKit
set_option maxHeartbeats 400000
set_option maxRecDepth 100000

/-- A word, told without a heap, and the blocks that are known then. -/
def HM.ref (M : HM) (bs : List Nat) (x : Nat) : (Bool × Int) × List Nat :=
  if x % 2 = 1 then ((true, isNumV x), bs) else
  if M.value x then
    match bs.idxOf? x with
    | some i => ((false, (i : Int)), bs)
    | none => ((false, (bs.length : Int)), bs ++ [x])
  else ((true, 0), bs)

def ukey (x : Fin 18446744073709551616) : Lit := .int .u64 (x.val : Int)
theorem ukey_inj (x y : Fin 18446744073709551616) (h : ukey x = ukey y) : x = y := by
  unfold ukey at h
  injection h with _ h
  exact Fin.ext (by omega)
/-- The map of places. -/
abbrev Places (w : World) (b n : Nat) (bs : List Nat) : Prop := MapK Try.prog 26 3 .i64 ukey w b n (fun x => (bs.idxOf? x.val).map fun i => (i : Int))
theorem keyed26 : Maps.Keyed Try.prog 26 := Maps.int_keyed Try.underlying26
theorem zero3 (w : World) : (zeroValue 3).run Try.prog w = .ok (.int .i64 0) w := by kernel_rfl

theorem idxOf_snoc_self (bs : List Nat) (x : Nat) (h : bs.idxOf? x = none) : (bs ++ [x]).idxOf? x = some bs.length := by
  simp only [List.idxOf?] at *
  rw [List.findIdx?_append, h]
  simp
theorem idxOf_snoc_ne (bs : List Nat) (x z : Nat) (h : z ≠ x) : (bs ++ [x]).idxOf? z = bs.idxOf? z := by
  simp only [List.idxOf?]
  rw [List.findIdx?_append]
  have : [x].findIdx? (· == z) = none := by simp; omega
  rw [this]
  simp

theorem ref_num (M : HM) (x hb pb kb : Nat) (w : World) (hx : x < 18446744073709551616) (h1 : x % 2 = 1) :
    Calls Try.prog 41 #[.int .u64 (x : Int), .pointer (some ⟨hb, 0, none⟩), .pointer (some ⟨pb, 0, none⟩), .pointer (some ⟨kb, 0, none⟩)] w fun e w' =>
      e = .returned (.agg #[.bool true, .int .i64 (isNumV x)]) ∧ Chg (fun _ => False) w w' := by
  have hc := isNum_any x
  rw [show (x % 2 == 1) = true by simp [h1]] at hc
  have Hc := hide (fun w => hc w hx)
  clear hc h1
  generalize isNumV x = V at *
  go_enter Try.func41, Try.ntmps41
  go_wp2_with (go_at_call 7; refine (unhide Hc _).mono ?_; rintro e w' ⟨rfl, rfl⟩)
  exact bodyPost_ret (v := .agg #[.bool true, .int .i64 V]) (by simp [results, Try.results41, go_sem]) rfl ⟨rfl, by repeat (first | exact Chg.refl _ _ | refine Chg.setCell ?_ (fun h => by simp at h) _ | refine Chg.alloc ?_ _)⟩

theorem ref_bad (M : HM) (g bn bo bb x hb pb kb : Nat) (w : World) (h : HRep w g bn bo bb M) (hx : x < 18446744073709551616) (h1 : x % 2 = 0) (h2 : M.value x = false) (hh : w.cell? ⟨hb, 0, none⟩ = some (.pointer (some ⟨g, 0, none⟩))) :
    Calls Try.prog 41 #[.int .u64 (x : Int), .pointer (some ⟨hb, 0, none⟩), .pointer (some ⟨pb, 0, none⟩), .pointer (some ⟨kb, 0, none⟩)] w fun e w' =>
      e = .returned (.agg #[.bool true, .int .i64 0]) ∧ Chg (fun _ => False) w w' := by
  have hc := isNum_any x
  rw [show (x % 2 == 1) = false by simp [h1]] at hc
  have Hc := hide (fun w => hc w hx)
  have hlt := block_lt_of_cell hh
  have hh2 := World.cell?_alloc_lt w (.cells #[.bool false, .int .i64 0] 51) ⟨hb, 0, none⟩ hlt
  have hv := value_any M g bn bo bb x (w.alloc (.cells #[.bool false, .int .i64 0] 51)) (h.chg (S := fun _ => False) ((Chg.refl _ w).alloc _) id id id id) hx
  rw [h2] at hv
  have Hv := hide hv
  clear hc h1 hv h h2
  generalize isNumV x = V at *
  go_enter Try.func41, Try.ntmps41
  go_wp2_with (first
    | (go_at_call 7; refine (unhide Hc _).mono ?_; rintro e w' ⟨rfl, rfl⟩)
    | (go_at_call 35; refine (unhide Hv).mono ?_; rintro e w' ⟨rfl, rfl⟩))
  exact bodyPost_ret (v := .agg #[.bool true, .int .i64 0]) (by simp [results, Try.results41, go_sem]) rfl ⟨rfl, by repeat (first | exact Chg.refl _ _ | refine Chg.setCell ?_ (fun h => by simp at h) _ | refine Chg.alloc ?_ _)⟩

theorem ref_old (M : HM) (g bn bo bb x hb pb kb mb n i : Nat) (bs : List Nat) (w : World) (h : HRep w g bn bo bb M) (hx : x < 18446744073709551616) (h1 : x % 2 = 0) (h2 : M.value x = true) (hh : w.cell? ⟨hb, 0, none⟩ = some (.pointer (some ⟨g, 0, none⟩)))
    (hp : w.cell? ⟨pb, 0, none⟩ = some (.map (some mb))) (hm : Places w mb n bs) (hi : bs.idxOf? x = some i) :
    Calls Try.prog 41 #[.int .u64 (x : Int), .pointer (some ⟨hb, 0, none⟩), .pointer (some ⟨pb, 0, none⟩), .pointer (some ⟨kb, 0, none⟩)] w fun e w' =>
      e = .returned (.agg #[.bool false, .int .i64 (i : Int)]) ∧ Chg (fun _ => False) w w' := by
  have hc := isNum_any x
  rw [show (x % 2 == 1) = false by simp [h1]] at hc
  have Hc := hide (fun w => hc w hx)
  have hlt := block_lt_of_cell hh
  have hltp := block_lt_of_cell hp
  have hh2 := World.cell?_alloc_lt w (.cells #[.bool false, .int .i64 0] 51) ⟨hb, 0, none⟩ hlt
  have hp2 := World.cell?_alloc_lt w (.cells #[.bool false, .int .i64 0] 51) ⟨pb, 0, none⟩ hltp
  have hv := value_any M g bn bo bb x (w.alloc (.cells #[.bool false, .int .i64 0] 51)) (h.chg (S := fun _ => False) ((Chg.refl _ w).alloc _) id id id id) hx
  rw [h2] at hv
  have Hv := hide hv
  have hF : (fun y : Fin 18446744073709551616 => (bs.idxOf? y.val).map fun i => (i : Int)) ⟨x, hx⟩ = some (i : Int) := by simp [hi]
  have HM := hide (show MapK Try.prog 26 3 .i64 ukey w mb n _ from hm)
  generalize (fun y : Fin 18446744073709551616 => (bs.idxOf? y.val).map fun i => (i : Int)) = f at *
  have HF := hide hF
  clear hc h1 hv h h2 hm hi hF
  generalize isNumV x = V at *
  go_enter Try.func41, Try.ntmps41
  go_wp2_with (first
    | (go_at_call 7; refine (unhide Hc _).mono ?_; rintro e w' ⟨rfl, rfl⟩)
    | (go_at_call 35; refine (unhide Hv).mono ?_; rintro e w' ⟨rfl, rfl⟩)
    | (at_lookup; refine wpList_lookup_k rfl (.tmp 24) (.tmp 25) 93 rfl keyed26 Try.underlying93 Try.underlying3 (zero3 _) rfl ((unhide HM).alloc _) _ ⟨x, hx⟩ rfl (Maps.keyOf_int_mk Try.underlying26 (WalkArith.wf_u64 (by omega))) ?_; rw [unhide HF]; dsimp only [Option.getD, Option.isSome]))
  exact bodyPost_ret (v := .agg #[.bool false, .int .i64 (i : Int)]) (by simp [results, Try.results41, go_sem]) rfl ⟨rfl, by repeat (first | exact Chg.refl _ _ | refine Chg.setCell ?_ (fun h => by simp at h) _ | refine Chg.alloc ?_ _)⟩

set_option maxHeartbeats 1000000 in
theorem ref_new (M : HM) (g bn bo bb x hb pb kb mb n base c : Nat) (A : Option Addr) (bs : List Nat) (w : World) (h : HRep w g bn bo bb M) (hx : x < 18446744073709551616) (h1 : x % 2 = 0) (h2 : M.value x = true)
    (hh : w.cell? ⟨hb, 0, none⟩ = some (.pointer (some ⟨g, 0, none⟩)))
    (hp : Blk w pb 93 #[.map (some mb)]) (hk : Blk w kb 46 #[.slice A bs.length c]) (hm : Places w mb n bs) (hn : n ≤ 2000000) (hl : bs.length ≤ 2000000) (hi : bs.idxOf? x = none)
    (hown : w.ownsRow base 26 1 (.slice A bs.length c) bs.length (bs.map wv)) (hbase : base ≤ w.heap.size) :
    Calls Try.prog 41 #[.int .u64 (x : Int), .pointer (some ⟨hb, 0, none⟩), .pointer (some ⟨pb, 0, none⟩), .pointer (some ⟨kb, 0, none⟩)] w fun e w' =>
      e = .returned (.agg #[.bool false, .int .i64 (bs.length : Int)]) ∧ ∃ A' c', Blk w' kb 46 #[.slice A' (bs ++ [x]).length c'] ∧ Places w' mb (n + 1) (bs ++ [x]) ∧
        w'.ownsRow base 26 1 (.slice A' (bs ++ [x]).length c') (bs ++ [x]).length ((bs ++ [x]).map wv) ∧
        ((Value.slice A' (bs ++ [x]).length c').ownBlock = (Value.slice A bs.length c).ownBlock ∨ ∃ b, (Value.slice A' (bs ++ [x]).length c').ownBlock = some b ∧ w.heap.size ≤ b) ∧
        Chg (fun k => k = kb ∨ k = mb ∨ (Value.slice A bs.length c).ownBlock = some k) w w' := by
  have hc := isNum_any x
  rw [show (x % 2 == 1) = false by simp [h1]] at hc
  have Hc := hide (fun w => hc w hx)
  obtain ⟨i0, hi0, hz0, hz1, hz2⟩ := info_parts info26
  have hlt := block_lt_of_cell hh
  have hh2 := World.cell?_alloc_lt w (.cells #[.bool false, .int .i64 0] 51) ⟨hb, 0, none⟩ hlt
  have hp2 := (hp.alloc (.cells #[.bool false, .int .i64 0] 51)).cell 0
  have hk2 := (hk.alloc (.cells #[.bool false, .int .i64 0] 51)).cell 0
  simp only [List.getElem?_toArray, List.getElem?_cons_zero] at hp2 hk2
  have hv := value_any M g bn bo bb x (w.alloc (.cells #[.bool false, .int .i64 0] 51)) (h.chg (S := fun _ => False) ((Chg.refl _ w).alloc _) id id id id) hx
  rw [h2] at hv
  have Hv := hide hv
  have hF : (fun y : Fin 18446744073709551616 => (bs.idxOf? y.val).map fun i => (i : Int)) ⟨x, hx⟩ = none := by simp [hi]
  have HM := hide (show MapK Try.prog 26 3 .i64 ukey w mb n _ from hm)
  have HF' : Hid (∀ f : Fin 18446744073709551616 → Option Int, f = (fun y : Fin 18446744073709551616 => (bs.idxOf? y.val).map fun i => (i : Int)) → (fun z => if z = ⟨x, hx⟩ then some (bs.length : Int) else f z) = (fun y : Fin 18446744073709551616 => ((bs ++ [x]).idxOf? y.val).map fun i => (i : Int))) := by
    intro f hf
    funext z
    subst hf
    by_cases hz : z = ⟨x, hx⟩
    · subst hz
      rw [if_pos rfl, idxOf_snoc_self bs x hi]; rfl
    · rw [if_neg hz, idxOf_snoc_ne bs x z.val (fun e => hz (Fin.ext e))]
  generalize hfeq : (fun y : Fin 18446744073709551616 => (bs.idxOf? y.val).map fun i => (i : Int)) = f at *
  have HF := hide hF
  have HFE := hide hfeq
  have HP := hide hp
  have HK := hide hk
  have HO := hide hown
  have hnk : kb ≠ mb := hm.ne_ hk
  clear hc h1 hv h h2 hm hi hF hfeq hp hk hown
  generalize isNumV x = V at *
  go_enter Try.func41, Try.ntmps41
  go_wp2_with (first
    | (go_at_call 7; refine (unhide Hc _).mono ?_; rintro e w' ⟨rfl, rfl⟩)
    | (go_at_call 35; refine (unhide Hv).mono ?_; rintro e w' ⟨rfl, rfl⟩)
    | (at_lookup; refine wpList_lookup_k rfl (.tmp 24) (.tmp 25) 93 rfl keyed26 Try.underlying93 Try.underlying3 (zero3 _) rfl ((unhide HM).alloc _) _ ⟨x, hx⟩ rfl (Maps.keyOf_int_mk Try.underlying26 (WalkArith.wf_u64 (by omega))) ?_; rw [unhide HF]; dsimp only [Option.getD, Option.isSome])
    | (refine wpList_update_k rfl (.tmp 33) (.tmp 34) (.tmp 35) 93 rfl ukey_inj (fun _ => trivial) keyed26 Try.underlying93 Try.underlying3 rfl ((unhide HM).alloc _) (by simp only [maxLen]; omega) _ ⟨x, hx⟩ _ rfl rfl (WalkArith.wf_i64 (by omega)) (Maps.keyOf_int_mk Try.underlying26 (WalkArith.wf_u64 (by omega))) ?_
       intro w2 hm2 hc2
       have hk3 := ((unhide HK).alloc (.cells #[.bool false, .int .i64 0] 51)).chg hc2 hnk
       have ck3 := hk3.cell 0
       simp only [List.getElem?_toArray, List.getElem?_cons_zero] at ck3
       have hr3 := (Blk.new_at w w.heap.size 51 #[.bool false, .int .i64 0] rfl).chg hc2 (by have := (unhide HM).lt; omega)
       have ho2 := own_chg ((unhide HO).alloc (.cells #[.bool false, .int .i64 0] 51)) hc2 (fun k e ek => (unhide HM).own_ne (unhide HO) (by rw [e, ek]))
       have hs2 : base ≤ w2.heap.size := by have := hc2.size; simp at this; omega
       have Hm2 := hide hm2
       have Hk3 := hide hk3
       have Hc2 := hide hc2
       have Hr3 := hide hr3
       have Ho2 := hide ho2
       clear hm2 hk3 hc2 hr3 ho2)
    | (at_builtin
       refine wpList_append_rd _ rfl (.tmp 36) (.tmp 38) 46 rfl base 26 i0 (.int .u64 0) 1 8 Try.underlying46 hi0 hz0 hz1 hz2 rfl (by omega) (.slice A bs.length c) bs.length (bs.map wv) rfl ((unhide Ho2).alloc _) (· = w2.heap.size) (some ⟨w2.heap.size, 0, none⟩) 1 1 [wv x] rfl rfl (rd_new _ _ 26 [wv x] rfl) (wv_one [x]) (by simp only [maxLen]; omega) (by omega) (by simp; omega) ?_
       intro v3 w3 ho3 hc3 hat
       obtain ⟨A', c', rfl⟩ := own_val ho3
       have hown2 := unhide Ho2
       have hlt2 : w.heap.size < w2.heap.size := by have := (unhide Hc2).size; simp at this; omega
       have hk4 := ((unhide Hk3).alloc (.cells #[wv x] 26)).chg hc3 (fun e => own_blk_ne (unhide HO) (unhide HK) (by decide) e)
       have hr4 := ((unhide Hr3).alloc (.cells #[wv x] 26)).chg hc3 (fun e => own_blk_ne ((unhide HO).alloc (.cells #[.bool false, .int .i64 0] 51)) (Blk.new_at w w.heap.size 51 #[.bool false, .int .i64 0] rfl) (by decide) e)
       have ck4 := hk4.cell 0
       have fk4 := hk4.frozen 0
       have cr0 := hr4.cell 0
       have cr1 := hr4.cell 1
       have fr0 := hr4.frozen 0
       have fr1 := hr4.frozen 1
       have hnr : w.heap.size ≠ kb := by have := (unhide HK).lt; omega
       simp only [List.getElem?_toArray, List.getElem?_cons_zero, List.getElem?_cons_succ] at ck4 cr0 cr1
       have Hk4 := hide hk4
       have Hr4 := hide hr4
       have Ho3 := hide ho3
       have Hc3 := hide hc3
       have Hat := hide hat
       clear hk4 hr4 ho3 hc3 hat hown2))
  have hrf := (((unhide Hr4).far (p := ⟨kb, 0, none⟩) hnr (.slice A' (bs.length + 1) c')).set_ 0 (.bool false)).set_ 1 (.int .i64 (bs.length : Int))
  have q0 := hrf.cell' (i := 0) (v := .bool false) rfl
  have q1 := hrf.cell' (i := 1) (v := .int .i64 (bs.length : Int)) rfl
  have hkf := (((unhide Hk4).set_ 0 (.slice A' (bs.length + 1) c')).far (p := ⟨w.heap.size, 0, none⟩) (Ne.symm hnr) (.bool false)).far (p := ⟨w.heap.size, 1, none⟩) (Ne.symm hnr) (.int .i64 (bs.length : Int))
  have h3f : Chg (fun k => k = kb ∨ k = w.heap.size) w3 (((w3.setCell ⟨kb, 0, none⟩ (.slice A' (bs.length + 1) c')).setCell ⟨w.heap.size, 0, none⟩ (.bool false)).setCell ⟨w.heap.size, 1, none⟩ (.int .i64 (bs.length : Int))) :=
    (((Chg.refl _ w3).setCell (p := ⟨kb, 0, none⟩) (fun _ => .inl rfl) _).setCell (p := ⟨w.heap.size, 0, none⟩) (fun _ => .inr rfl) _).setCell (p := ⟨w.heap.size, 1, none⟩) (fun _ => .inr rfl) _
  refine bodyPost_ret (v := .agg #[.bool false, .int .i64 (bs.length : Int)]) (by simp [results, Try.results41, go_sem, q0, q1]) rfl ⟨rfl, A', c', ?_⟩
  have hlen : (bs ++ [x]).length = bs.length + 1 := by simp
  have hmlt := (unhide HM).lt
  have hc2 := unhide Hc2
  have hc3 := unhide Hc3
  have hown3 : (Value.slice A' (bs.length + 1) c').ownBlock = (Value.slice A bs.length c).ownBlock ∨ (Value.slice A' (bs.length + 1) c').ownBlock = some (w2.heap.size + 1) := by simpa using unhide Hat
  have hlt2 : w.heap.size < w2.heap.size := by have := hc2.size; simp at this; omega
  have hoA := (unhide HO).lt
  rw [hlen]
  have hw4 : Chg (fun k => k = kb ∨ k = mb ∨ (Value.slice A bs.length c).ownBlock = some k) w w3 :=
    (((Chg.refl _ w).alloc (.cells #[.bool false, .int .i64 0] 51)).trans hc2 (fun i _ e => .inr (.inl e))).trans (S' := fun k => (Value.slice A bs.length c).ownBlock = some k) ⟨hc3.os, hc3.tape, hc3.output, by have := hc3.size; simp at this; omega, fun k hk hn => (hc3.block k (by simp; omega) hn).trans (Below.heap_alloc _ _ _ hk)⟩ (fun i _ e => .inr (.inr e))
  have hneo : (Value.slice A' (bs.length + 1) c').ownBlock ≠ some kb ∧ (Value.slice A' (bs.length + 1) c').ownBlock ≠ some w.heap.size := by
    have hkl := (unhide HK).lt
    have k1 := own_blk_ne (unhide HO) (unhide HK) (by decide)
    constructor
    · rcases hown3 with e | e
      · rw [e]; exact k1
      · rw [e]; intro e2; injection e2 with e2; omega
    · rcases hown3 with e | e
      · rw [e]; intro e2; have := (hoA _ e2).2; omega
      · rw [e]; intro e2; injection e2 with e2; omega
  refine ⟨hkf, ?_, ?_, ?_, ?_⟩
  · have hp3 := ((unhide Hm2).alloc (.cells #[wv x] 26)).chg hc3 (fun e => (unhide HM).own_ne (unhide HO) e)
    have hp4 := hp3.chg h3f (by rintro (e | e) <;> omega)
    rw [unhide HF' f rfl] at hp4
    exact hp4
  · have ho4 := own_chg (unhide Ho3) h3f (fun k e => by rintro (rfl | rfl); exact hneo.1 e; exact hneo.2 e)
    have e2 : (bs ++ [x]).map wv = bs.map wv ++ [wv x] := by simp
    rw [e2]
    exact ho4
  · rcases hown3 with e | e
    · exact .inl e
    · exact .inr ⟨_, e, by omega⟩
  · exact hw4.trans h3f (fun i hi e => by rcases e with e | e; exact .inl e; omega)
end Go.Proofs.Ytlgkgglecgdkgaa
