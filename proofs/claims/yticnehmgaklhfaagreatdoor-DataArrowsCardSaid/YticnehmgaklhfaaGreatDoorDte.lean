/-
  Layer 10, the program's side: whether a constructor is the one that is looked for.
-/
import Derived.Test.YticnehmgaklhfaaGreatDoorDtd
namespace Go.Proofs.YticnehmgaklhfaaGreatDoor
open Go.RowKit
set_option maxHeartbeats 4000000
set_option maxRecDepth 100000
theorem find_not (l : List Dt) (v : Value) (con : ByteArray) (i k : Nat) (d : Dt) (x : Ct) (T : Nat → Prop) (w : World) (gl gc gx gy : Nat) (hl : Blk w gl 22 #[v]) (hc : Blk w gc 9 #[.string con]) (hr : RdD T w v l) (hd : l[i]? = some d) (hk : d.cons[k]? = some x) (hn : l.length ≤ 1000000) (hcn : d.cons.length ≤ 1000000) (hq : (x.name.toList == con.toList) = false) :
    Calls Tryz.prog 53 #[.int .i64 (i : Int), .int .i64 (k : Int), .pointer (some ⟨gl, 0, none⟩), .pointer (some ⟨gc, 0, none⟩), .pointer (some ⟨gx, 0, none⟩), .pointer (some ⟨gy, 0, none⟩)] w fun e w' => e = .returned (.bool false) ∧ Chg (fun _ => False) w w' := by
  have hi : (i : Int) < (l.length : Int) := by have := (List.getElem?_eq_some_iff.1 hd).1; omega
  have hkk : (k : Int) < (d.cons.length : Int) := by have := (List.getElem?_eq_some_iff.1 hk).1; omega
  obtain ⟨b, o, c2, u, rfl, _, hru, hns, c0, c1, c3⟩ := hr.at_ hd
  obtain ⟨b2, o2, c4, u2, rfl, _, _, _, e0, e1⟩ := hru.at_ hk
  have l0 := hl.cell 0
  have n0 := hc.cell 0
  simp only [List.getElem?_toArray, List.getElem?_cons_zero, List.getElem?_cons_succ] at l0 n0
  clear hl hc hr hd hk hru
  go_enter Tryz.func53, Tryz.ntmps53
  go_wp2_with fail
  go_quiet (fail)
  go_wp2_with fail
  go_ret
  exact ⟨rfl, (Chg.refl _ _).drewN _⟩
theorem find_yes (l : List Dt) (v : Value) (con : ByteArray) (i k : Nat) (d : Dt) (x : Ct) (T : Nat → Prop) (w : World) (gl gc gx gy : Nat) (hl : Blk w gl 22 #[v]) (hc : Blk w gc 9 #[.string con]) (hr : RdD T w v l) (hd : l[i]? = some d) (hk : d.cons[k]? = some x) (hn : l.length ≤ 1000000) (hcn : d.cons.length ≤ 1000000) (hq : (x.name.toList == con.toList) = true) (a1 a2 : Int) (hx : Blk w gx 3 #[.int .i64 a1]) (hy : Blk w gy 3 #[.int .i64 a2]) (hne : gx ≠ gy) :
    Calls Tryz.prog 53 #[.int .i64 (i : Int), .int .i64 (k : Int), .pointer (some ⟨gl, 0, none⟩), .pointer (some ⟨gc, 0, none⟩), .pointer (some ⟨gx, 0, none⟩), .pointer (some ⟨gy, 0, none⟩)] w fun e w' => e = .returned (.bool true) ∧ Blk w' gx 3 #[.int .i64 (i : Int)] ∧ Blk w' gy 3 #[.int .i64 (k : Int)] ∧ Chg (fun b => b = gx ∨ b = gy) w w' := by
  have hi : (i : Int) < (l.length : Int) := by have := (List.getElem?_eq_some_iff.1 hd).1; omega
  have hkk : (k : Int) < (d.cons.length : Int) := by have := (List.getElem?_eq_some_iff.1 hk).1; omega
  obtain ⟨b, o, c2, u, rfl, _, hru, hns, c0, c1, c3⟩ := hr.at_ hd
  obtain ⟨b2, o2, c4, u2, rfl, _, _, _, e0, e1⟩ := hru.at_ hk
  have l0 := hl.cell 0
  have n0 := hc.cell 0
  simp only [List.getElem?_toArray, List.getElem?_cons_zero, List.getElem?_cons_succ] at l0 n0
  have X0 := hide (hx.cell 0)
  have f0 := hx.frozen 0
  have f1 := hy.frozen 0
  have q0 := hx.cell 0
  have q1 := hy.cell 0
  simp only [List.getElem?_toArray, List.getElem?_cons_zero, List.getElem?_cons_succ] at q0 q1
  have HX := hide hx
  have HY := hide hy
  clear hl hc hr hd hk hru hx hy X0
  go_enter Tryz.func53, Tryz.ntmps53
  go_wp2_with fail
  go_quiet (fail)
  go_wp2_with fail
  go_ret
  exact ⟨rfl, (((unhide HX).drewN nq).set_ 0 _).far (p := ⟨gy, 0, none⟩) hne _, (((unhide HY).drewN nq).far (p := ⟨gx, 0, none⟩) (fun e => hne e.symm) _).set_ 0 _, (((Chg.refl (fun b => b = gx ∨ b = gy) w).drewN _).setCell (p := ⟨gx, 0, none⟩) (fun _ => .inl rfl) _).setCell (p := ⟨gy, 0, none⟩) (fun _ => .inr rfl) _⟩
end Go.Proofs.YticnehmgaklhfaaGreatDoor
