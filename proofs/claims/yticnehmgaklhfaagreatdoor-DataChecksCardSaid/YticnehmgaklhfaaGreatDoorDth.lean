/-
  Layer 10, the program's side: whether a constructor is told twice, or lacks a type.
-/
import Derived.Test.YticnehmgaklhfaaGreatDoorDtg
import Derived.Deep.RegionHeld3
namespace Go.Proofs.YticnehmgaklhfaaGreatDoor
open Go.RowKit
set_option maxHeartbeats 4000000
set_option maxRecDepth 100000
theorem RdN.oks {T : Nat → Prop} {w : World} {v : Value} {l : List Nd} (h : RdN T w v l) : ∀ n ∈ l, ndOk n := fun n hn => by
  obtain ⟨A, c, ps, h1, h2, h3, h4, h5⟩ := h
  rw [← h2] at hn
  obtain ⟨p, hp, rfl⟩ := List.mem_map.1 hn
  exact h4 p hp
theorem again_any (l : List Dt) (v : Value) (i k : Nat) (d : Dt) (x : Ct) (T : Nat → Prop) (w : World) (gl : Nat) (hl : Blk w gl 22 #[v]) (hr : RdD T w v l) (hd : l[i]? = some d) (hk : d.cons[k]? = some x) (hn : l.length ≤ 1000000) (hcn : ∀ d ∈ l, d.cons.length ≤ 1000000) :
    Calls Tryz.prog 36 #[.int .i64 (i : Int), .int .i64 (k : Int), .pointer (some ⟨gl, 0, none⟩)] w fun e w' => e = .returned (.bool (!(fX l x.name == (i : Int)) || !(fY l x.name == (k : Int)))) ∧ Chg (fun _ => False) w w' := by
  have hi : (i : Int) < (l.length : Int) := by have := (List.getElem?_eq_some_iff.1 hd).1; omega
  have hkk : (k : Int) < (d.cons.length : Int) := by have := (List.getElem?_eq_some_iff.1 hk).1; omega
  have hdn := hcn d (List.mem_of_getElem? hd)
  have HF := hide (fun W (hW : Chg (fun _ => False) w W) => findL_any l v x.name T W (hr.chg hW (fun _ _ _ => id)) hn hcn)
  obtain ⟨b, o, c2, u, rfl, _, hru, hns, c0, c1, c3⟩ := hr.at_ hd
  obtain ⟨b2, o2, c4, u2, rfl, _, _, _, e0, e1⟩ := hru.at_ hk
  have l0 := hl.cell 0
  simp only [List.getElem?_toArray, List.getElem?_cons_zero] at l0
  have KSW := hide (show ∀ W, Chg (fun _ => False) w W → W.cell? ⟨gl, 0, none⟩ = some (.slice (some ⟨b, o, none⟩) l.length c2) ∧ W.cell? ⟨b, o + i * 3 + 2, none⟩ = some (.slice (some ⟨b2, o2, none⟩) d.cons.length c4) ∧ W.cell? ⟨b2, o2 + k * 2, none⟩ = some (.string x.name) from fun W hW => ⟨(hW.cell (World.block_lt_of_cell? w _ l0) id).trans l0, (hW.cell (World.block_lt_of_cell? w _ c3) id).trans c3, (hW.cell (World.block_lt_of_cell? w _ e0) id).trans e0⟩)
  generalize (findL l x.name).isSome = R at *
  generalize fX l x.name = X at *
  generalize fY l x.name = Y at *
  clear hl hr hd hk hru hcn
  go_enter Tryz.func36, Tryz.ntmps36
  go_wp2_with fail
  have HC2 : Hid (Chg (fun _ => False) w w.drew) := hide (Chg.drew (Chg.refl _ _))
  have HKK := hide (unhide KSW _ (unhide HC2))
  go_region_held3 (fun W' => W'.cell? ⟨gl, 0, none⟩ = some (.slice (some ⟨b, o, none⟩) l.length c2) ∧ W'.cell? ⟨b, o + i * 3 + 2, none⟩ = some (.slice (some ⟨b2, o2, none⟩) d.cons.length c4) ∧ W'.cell? ⟨b2, o2 + k * 2, none⟩ = some (.string x.name)) (first | exact unhide HKK | go_keep) (first | (go_at_call 21; (with_reducible refine (unhide HF _ (unhide HC2)).mono ?_); rintro e w2 ⟨rfl, hc2⟩; have HN_ := hide ((unhide HC2).trans' hc2); clear HC2; have HC2 := HN_; clear HN_ HKK; have HKK := hide (unhide KSW _ (unhide HC2)); clear hc2))
  cases hx : (X == (i : Int)) <;> (have hx2 := hx; simp only [beq_iff_eq, beq_eq_false_iff_ne] at hx2; have HX2 := hide hx2; clear hx2; have HX3 := hide hx) <;> (go_wp2_with fail) <;> go_ret <;> refine ⟨retv (boolv ?_), unhide HC2⟩ <;> first | (simp [unhide HX3]; done) | (simp [unhide HX2, bne]; done)
theorem lackN_eq (l : List Dt) (n : Nd) : lackN l n = if n.kind = 32 then nameB 2 n.text && !knownB l n else false := by
  unfold lackN
  by_cases h : n.kind = 32
  · rw [if_pos h, h]; rfl
  · rw [if_neg h, beq_eq_false_iff_ne.2 h]; rfl
theorem none_any (l : List Dt) (v : Value) (n : Nd) (T : Nat → Prop) (w : World) (gl : Nat) (hl : Blk w gl 22 #[v]) (hr : RdD T w v l) (hn : l.length ≤ 1000000) (hs : ndOk n) (lay : Lay w) :
    Calls Tryz.prog 37 #[ndV n, .pointer (some ⟨gl, 0, none⟩)] w fun e w' => e = .returned (.bool (lackN l n)) ∧ Chg (fun _ => False) w w' := by
  rw [lackN_eq]
  unfold ndV
  obtain ⟨a, tx, nm, q⟩ := n
  dsimp only at *
  have h1 : Chg (fun _ => False) w (w.alloc (.cells #[.int .i64 a, .string tx, .int .i64 nm, .int .i64 q] 56)) := (Chg.refl _ w).alloc _
  have k1 := Blk.new w 56 #[.int .i64 a, .string tx, .int .i64 nm, .int .i64 q]
  have hl1 := hl.alloc (.cells #[.int .i64 a, .string tx, .int .i64 nm, .int .i64 q] 56)
  have x0 := k1.cell 0
  have x1 := k1.cell 1
  have l0 := hl1.cell 0
  simp only [List.getElem?_toArray, List.getElem?_cons_zero, List.getElem?_cons_succ] at x0 x1 l0
  have HN := hide (named_any tx _ hs (lay.chg h1 (fun _ _ => id)))
  have HD := hide (fun W (hW : Chg (fun _ => False) (w.alloc (.cells #[.int .i64 a, .string tx, .int .i64 nm, .int .i64 q] 56)) W) => has_dk l v T W w.heap.size (fun x => decide (x.name = tx) && x.params == q) (hr.chg (h1.trans' hW) (fun _ _ _ => id)) hn
    (fun W2 hW2 x _ u hu _ => by obtain ⟨B, c, rfl⟩ := hu.val; exact told_any x ⟨a, tx, nm, q⟩ B _ c w.heap.size W2 (k1.chg (hW.trans' hW2) id)))
  have HK : (l.any fun x => decide (x.name = tx) && x.params == q) = knownB l ⟨a, tx, nm, q⟩ := rfl
  have HL1 := hide hl1
  have HC1 := hide h1
  obtain ⟨A, c, rfl⟩ := hr.val
  rw [HK] at HD
  generalize knownB l ⟨a, tx, nm, q⟩ = E at *
  generalize nameB 2 tx = F at *
  clear hl hl1 hr k1 h1 lay hs HK
  by_cases h : a = 32
  · rw [if_pos h]
    subst h
    cases F
    · go_enter Tryz.func37, Tryz.ntmps37
      go_wp2_with (go_at_call 38; go_loud (refine (unhide HN).mono ?_; rintro e w2 ⟨rfl, hc2⟩; have HC2 := hide hc2; clear hc2))
      go_ret
      exact ⟨rfl, (unhide HC1).trans' (unhide HC2)⟩
    · go_enter Tryz.func37, Tryz.ntmps37
      go_wp2_with (first
        | (go_at_call 38; refine (unhide HN).mono ?_; rintro e w2 ⟨rfl, hc2⟩; (have l2 := ((unhide HL1).chg hc2 id).cell 0); simp only [List.getElem?_toArray, List.getElem?_cons_zero] at l2; have HC2 := hide hc2; clear hc2)
        | (go_at_call 31; refine (unhide HD _ (unhide HC2)).mono ?_; rintro e w3 ⟨rfl, hc3⟩; have HC3 := hide hc3; clear hc3))
      go_ret
      exact ⟨rfl, ((unhide HC1).trans' (unhide HC2)).trans' (unhide HC3)⟩
  · rw [if_neg h]
    go_enter Tryz.func37, Tryz.ntmps37
    go_wp2_with fail
    go_ret
    exact ⟨rfl, unhide HC1⟩
theorem lackT_any (l : List Dt) (v : Value) (t : List Nd) (u : Value) (T T2 : Nat → Prop) (w : World) (gl gf : Nat) (hl : Blk w gl 22 #[v]) (hf : Blk w gf 67 #[.func (.func 37) #[] #[.pointer (some ⟨gl, 0, none⟩)]]) (hr : RdD T w v l) (ht : RdN T2 w u t) (hn : l.length ≤ 1000000) (htn : t.length ≤ 1000000) (hs : ∀ n ∈ t, ndOk n) (lay : Lay w) :
    Calls Tryz.prog 42 #[u, .pointer (some ⟨gf, 0, none⟩)] w fun e w' => e = .returned (.bool (t.any (lackN l))) ∧ Chg (fun _ => False) w w' := by
  have HH := hide (has_nn t u T2 w gl (lackN l) ht htn (fun W hW x hx => none_any l v x T W gl (hl.chg hW id) (hr.chg hW (fun _ _ _ => id)) hn (hs x hx) (lay.chg hW (fun _ _ => id))))
  obtain ⟨A, c, rfl⟩ := ht.val
  have f0 := hf.cell 0
  simp only [List.getElem?_toArray, List.getElem?_cons_zero] at f0
  generalize t.any (lackN l) = E at *
  clear hl hf hr ht lay hs
  go_enter Tryz.func42, Tryz.ntmps42
  go_wp2_with (go_at_call 43; refine (unhide HH).mono ?_; rintro e w2 ⟨rfl, hc2⟩; have HC2 := hide hc2; clear hc2)
  go_ret
  exact ⟨rfl, unhide HC2⟩
theorem lacks_any (l : List Dt) (v : Value) (i k : Nat) (d : Dt) (x : Ct) (T : Nat → Prop) (w : World) (gl gf : Nat) (hl : Blk w gl 22 #[v]) (hf : Blk w gf 67 #[.func (.func 37) #[] #[.pointer (some ⟨gl, 0, none⟩)]]) (hr : RdD T w v l) (hd : l[i]? = some d) (hk : d.cons[k]? = some x) (hn : l.length ≤ 1000000) (_hcn : d.cons.length ≤ 1000000) (han : x.args.length ≤ 1000000) (htn : ∀ t ∈ x.args, t.length ≤ 1000000) (lay : Lay w) :
    Calls Tryz.prog 40 #[.int .i64 (i : Int), .int .i64 (k : Int), .pointer (some ⟨gl, 0, none⟩), .pointer (some ⟨gf, 0, none⟩)] w fun e w' => e = .returned (.bool (x.args.any fun t => t.any (lackN l))) ∧ Chg (fun _ => False) w w' := by
  have hi : (i : Int) < (l.length : Int) := by have := (List.getElem?_eq_some_iff.1 hd).1; omega
  have hkk : (k : Int) < (d.cons.length : Int) := by have := (List.getElem?_eq_some_iff.1 hk).1; omega
  have HR := hide hr
  obtain ⟨b, o, c2, u, rfl, _, hru, hns, c0, c1, c3⟩ := hr.at_ hd
  obtain ⟨b2, o2, c4, u2, rfl, _, hru2, _, e0, e1⟩ := hru.at_ hk
  have HA := hide (has_al x.args u2 T w gf (fun t => t.any (lackN l)) hru2 han (fun W hW t ht u hu => lackT_any l _ t u T T W gl gf (hl.chg hW id) (hf.chg hW id) ((unhide HR).chg hW (fun _ _ _ => id)) hu hn (htn t ht) hu.oks (lay.chg hW (fun _ _ => id))))
  obtain ⟨A3, c5, rfl⟩ := hru2.val
  have l0 := hl.cell 0
  simp only [List.getElem?_toArray, List.getElem?_cons_zero] at l0
  generalize (x.args.any fun t => t.any (lackN l)) = E at *
  clear hl hr hd hk hru hru2 htn hf HR lay
  go_enter Tryz.func40, Tryz.ntmps40
  go_wp2_with (go_at_call 41; refine (unhide HA).mono ?_; rintro e w2 ⟨rfl, hc2⟩; have HC2 := hide hc2; clear hc2)
  go_ret
  exact ⟨rfl, unhide HC2⟩
end Go.Proofs.YticnehmgaklhfaaGreatDoor
