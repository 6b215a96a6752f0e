/-
  Layer 17: strings.SplitSeq at a blank: the walks of its maker and its iterator.
-/
import Derived.Test.YtgonllogaiiicaaDoorWe
namespace Go.Proofs.YtgonllogaiiicaaDoor
open Go Go.RowKit Go.Shelf
attribute [local go_sem] Oper.semAt_some
set_option maxHeartbeats 2000000
set_option maxRecDepth 100000
/-- The three boxes that strings.SplitSeq lays. -/
def seqW (s : ByteArray) (w : World) : World := ((w.alloc (.cells #[.string s] 9)).alloc (.cells #[.string ⟨#[32]⟩] 9)).alloc (.cells #[.int .i64 0] 3)
theorem splitSeq_any (s : ByteArray) (w : World) : Calls Tryd.prog 63 #[.string s, .string ⟨#[32]⟩] w fun e w' =>
    e = .returned (.func (.func 87) #[] #[.pointer (some ⟨w.heap.size + 1, 0, none⟩), .pointer (some ⟨w.heap.size, 0, none⟩), .pointer (some ⟨w.heap.size + 2, 0, none⟩)]) ∧ w' = seqW s w := by
  go_enter Tryd.func63, Tryd.ntmps63
  go_wp2
  go_ret
  exact ⟨rfl, rfl⟩
/-- How long the string in a cell is. -/
def cellLen (b : Nat) (w : World) : Nat := match w.cell? ⟨b, 0, none⟩ with
  | some (.string s) => s.size
  | _ => 0
theorem cellLen_eq {b : Nat} {w : World} {s : ByteArray} (h : w.cell? ⟨b, 0, none⟩ = some (.string s)) : cellLen b w = s.size := by rw [cellLen, h]
theorem behind1_len (s : Bs) : (behind1 s).length ≤ s.length := by
  induction s with
  | nil => exact Nat.le_refl _
  | cons c r ih =>
    rw [behind1]; split
    · simp
    · simp; omega
theorem restA_len (s : Bs) : ∀ k, (restA k s).length ≤ s.length
  | 0 => Nat.le_refl _
  | k + 1 => Nat.le_trans (behind1_len _) (restA_len s k)
theorem seq_gives (s : Bs) (hs : s.length < 4294967281) (b1 b0 b2 : Nat) (w0 : World) (h1 : w0.cell? ⟨b1, 0, none⟩ = some (.string ⟨#[32]⟩)) (h2 : w0.cell? ⟨b2, 0, none⟩ = some (.int .i64 0)) (hne1 : b1 ≠ b0) (hne2 : b2 ≠ b0) :
    GivesC Fence.wide 2 Tryd.prog 87 #[.pointer (some ⟨b1, 0, none⟩), .pointer (some ⟨b0, 0, none⟩), .pointer (some ⟨b2, 0, none⟩)] (pieces s).length b0 (fun k => .string (pieceB s k)) (fun k => .string (restB s k)) b1 b2 w0 := by
  intro l J J' W hW hY hS hJ hJ' h0
  have c1 : W.cell? ⟨b1, 0, none⟩ = some (.string ⟨#[32]⟩) := hW.cells.1.trans h1
  have c2 : W.cell? ⟨b2, 0, none⟩ = some (.int .i64 0) := hW.cells.2.trans h2
  refine callsIn_of_wp Tryd.func87 rfl trivial ?_ rfl
  simp only [Tryd.ntmps87, List.size_toArray, List.length_cons, List.length_nil, Nat.reduceAdd, Nat.reduceSub, Array.replicate_succ, Array.replicate_zero, List.push_toArray, List.append_toArray, List.nil_append, List.cons_append]
  have HY := hide hY
  have HS := hide hS
  have HJ := hide hJ
  have HJ2 := hide hJ'
  clear hY hS hJ hJ' h1 h2
  gi_wp2
  gi_loopw [7, 8] (fun _ _ wr => ∃ k, k < (pieces s).length ∧ J k wr ∧ wr.cell? ⟨b1, 0, none⟩ = some (.string ⟨#[32]⟩) ∧ wr.cell? ⟨b2, 0, none⟩ = some (.int .i64 0)) (fun _ _ wr => cellLen b0 wr)
  case atStart => exact ⟨0, pieces_ne s, h0, c1, c2⟩
  case round =>
    obtain ⟨k, hk, hj, d1, d2⟩ := hrel
    obtain ⟨d0, f0⟩ := (unhide HJ) k wr hj
    obtain ⟨fn, tmps, assign, body, hy, hR⟩ := (unhide HY) k wr hk hj
    rcases ib_one 32 (restB s k).data.toList with ⟨e1, hn⟩ | ⟨u, v, e, hn, e1⟩
    · obtain ⟨hl, hp⟩ := piece_last hk (by simpa [restB] using hn)
      rw [hp] at hy
      have HL := hide hl
      clear hl hp hn
      gi_wp2_with (refine ⟨trivial, ?_⟩; gi_at_call 71; refine (callsIn_wide.2 (Tryd.strings_Index_one _ _ _)).mono ?_; rintro e w' ⟨rfl, rfl⟩)
      refine hR.mono ?_
      rintro e W' ⟨rfl, hj', _⟩
      gi_wp2
      go_end0
      refine ⟨⟨_, rfl⟩, ?_⟩
      rw [← unhide HL]
      exact hj'
    · obtain ⟨hk1, hp, hr⟩ := piece_next hk (by simpa [restB] using e) hn
      rw [hp] at hy
      obtain ⟨m, hm⟩ : ∃ m, u.length = m := ⟨_, rfl⟩
      have hS := (unhide HS) k
      rw [hr, hm] at hS
      rw [hm] at hy e1
      have HS1 := hide (fun W h => hS W hk1 h)
      have hlen : (restB s k).size = u.length + 1 + v.length := by
        have := congrArg List.length e
        simp at this
        omega
      have hle : (restB s k).size ≤ s.length := by
        have h1 := restA_len s k
        have h2 : (restB s k).size = (restA k s).length := by rw [restB]; simp [ByteArray.size]
        omega
      have hex : ((restB s k).extract (m + 1) (restB s k).size).size = v.length := by
        rw [ByteArray.size_extract]; omega
      have HK1 := hide hk1
      have HEX := hide (show ((restB s k).extract (m + 1) (restB s k).size).size < (restB s k).size by omega)
      rw [hm] at hlen
      clear hk1 hp hr hS e hn hex hm
      obtain ⟨r, hr⟩ : ∃ r, restB s k = r := ⟨_, rfl⟩
      rw [hr] at hlen hle hy e1 d0 HS1 HEX
      have HRr := hide hr
      clear hr
      have q1 : (m : Int) ≤ (r.size : Int) := by omega
      have q3 : (m : Int) + 1 ≤ (r.size : Int) := by omega
      have hmb : m < 4294967281 := by omega
      clear hlen hle
      gi_wp2_with (refine ⟨trivial, ?_⟩; gi_at_call 71; refine (callsIn_wide.2 (Tryd.strings_Index_one _ _ _)).mono ?_; rintro e w' ⟨rfl, rfl⟩)
      refine hR.mono ?_
      rintro e W' ⟨rfl, hj', hb⟩
      have g1 : W'.cell? ⟨b1, 0, none⟩ = some (.string ⟨#[32]⟩) := hb.cells.1.trans d1
      have g2 : W'.cell? ⟨b2, 0, none⟩ = some (.int .i64 0) := hb.cells.2.trans d2
      obtain ⟨g0, gf⟩ : W'.cell? ⟨b0, 0, none⟩ = some (.string r) ∧ W'.frozen? ⟨b0, 0, none⟩ = false := by
        have h := (unhide HJ2) k W' hj'
        rw [unhide HRr] at h
        exact h
      clear f0 d1 d2
      gi_wp2
      refine ⟨⟨k + 1, unhide HK1, (unhide HS1) W' hj', ?_, ?_⟩, ?_⟩
      · exact (World.cell?_setCell_other _ _ _ _ (fun h => hne1 (congrArg Addr.block h).symm)).trans g1
      · exact (World.cell?_setCell_other _ _ _ _ (fun h => hne2 (congrArg Addr.block h).symm)).trans g2
      · rw [cellLen_eq d0, cellLen_eq (World.cell?_setCell_same' _ _ _ (by rw [g0]; rfl))]
        exact unhide HEX
end Go.Proofs.YtgonllogaiiicaaDoor
