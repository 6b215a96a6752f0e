/-
  Layer 19: the checker's memory: where it begins; one thing less to do; what Check promises.
-/
import Derived.Test.YtejkaalhjocmgaaDoorWp
import Derived.Test.YtejkaalhjocmgaaDoorPla
namespace Go.Proofs.YtejkaalhjocmgaaDoor
open Go.RowKit
set_option maxHeartbeats 1000000
set_option maxRecDepth 100000
theorem own_pop {w : World} {base : Nat} {e : TypeId} {A : Option Addr} {n c : Nat} {xs : List Value} (h : w.ownsRow base e 1 (.slice A n c) n xs) (hn : 0 < n) : w.ownsRow base e 1 (.slice A (n - 1) c) (n - 1) xs.dropLast := by
  obtain ⟨h1, h2⟩ := h
  rcases h2 with ⟨_, h0⟩ | ⟨g, cap, cur, hv, hb, hg, hc, hm, hs, ht⟩
  · omega
  · injection hv with ha hn2 hc2
    subst ha hc2
    refine ⟨by rw [List.length_dropLast]; omega, .inr ⟨g, c, cur, rfl, hb, hg, by omega, hm, hs, ?_⟩⟩
    rw [← ht, List.dropLast_eq_take, List.take_take]
    congr 1
    rw [List.length_take]
    have : cur.toList.length = cur.size := by simp
    omega
theorem ownBlock_slice (A : Option Addr) (n c n' c' : Nat) : (Value.slice A n c).ownBlock = (Value.slice A n' c').ownBlock := by cases A <;> rfl
/-- One thing less to do. -/
theorem CMem.pop {w : World} {base c b mp n L : Nat} {pv cv : Value} {A : Option Addr} {k cc : Nat} {f : I64 → Option Int} {cs : Array Value} {C : PC} (h : CMem w base c b mp n L pv cv (.slice A k cc) f cs C) (hk : k = C.work.length) (hw : C.work ≠ []) :
    CMem (w.setCell ⟨c, 4, none⟩ (.slice A (k - 1) cc)) base c b mp n L pv cv (.slice A (k - 1) cc) f cs C.pop := by
  obtain ⟨N, hN, hm⟩ := h.mp_
  have hp := List.length_pos_iff.2 hw
  have hS : Chg (fun i => i = c) w (w.setCell ⟨c, 4, none⟩ (.slice A (k - 1) cc)) := (Chg.refl (fun i => i = c) w).setCell (fun _ => rfl) _
  have hwk := h.wk
  rw [← hk] at hwk
  have hown := own_pop hwk (by omega)
  rw [List.dropLast_eq_take, List.length_map, ← hk, ← List.map_take] at hown
  have hd : C.pop.work = C.work.take (k - 1) := by rw [hk]; exact List.dropLast_eq_take
  refine ⟨h.ck.set_ 4 _, h.ats.chg hS (fun e => h.ncb e.symm) (fun t ht _ e => ht.2.1 e) (fun t ht _ => ⟨by rw [size_set]; exact ht.1, ht.2.1, ht.2.2.1, ht.2.2.2.1, by rw [ownBlock_slice A (k - 1) cc k cc]; exact ht.2.2.2.2⟩), h.len, ⟨N, hN, hm.chg hS (fun e => h.ncm e.symm)⟩, h.has, ?_, h.tl, by rw [size_set]; exact h.base_⟩
  rw [hd, List.length_take, Nat.min_eq_left (by omega)]
  exact own_chg hown hS (fun i hi e => h.noc (e ▸ (ownBlock_slice A k cc (k - 1) cc).trans hi))
/-- Cells of states where nothing is known. -/
def zero4 : List Value := [.int .i64 0, .int .i64 0, .slice none 0 0, .bool false]
theorem zero4_at (n : Nat) : ∀ (k j : Nat), k < n → j < 4 → ((List.replicate n zero4).flatten)[k * 4 + j]? = zero4[j]? := by
  induction n with
  | zero => intro k j h _; omega
  | succ n ih =>
    intro k j hk hj
    rw [List.replicate_succ, List.flatten_cons]
    cases k with
    | zero =>
      rw [List.getElem?_append_left (by simp [zero4]; omega)]
      congr 1
      omega
    | succ k =>
      rw [List.getElem?_append_right (by simp [zero4]; omega)]
      have := ih k j (by omega) hj
      rw [← this]
      congr 1
      simp [zero4]
      omega
theorem codeOk_of {m : Im} (h : codeE m.code = 0) : CodeOk m := by
  unfold codeE at h
  split at h
  · cases h
  · rename_i h1
    split at h
    · cases h
    · rename_i h2
      intro i hi
      have hb : badI i = false := by
        cases hb : badI i with
        | false => rfl
        | true => exact absurd (.inr (List.any_eq_true.2 ⟨i, hi, hb⟩)) h1
      have hf : farI m.code.length i = false := by
        cases hf : farI m.code.length i with
        | false => rfl
        | true => exact absurd (List.any_eq_true.2 ⟨i, hi, hf⟩) h2
      unfold badI insOkB knownB withinB at hb
      unfold farI goesB at hf
      simp only [Bool.not_eq_false', Bool.and_eq_true, decide_eq_true_eq] at hb
      obtain ⟨⟨⟨h3, h4⟩, h5⟩, _⟩ := hb
      refine ⟨h3.1, h3.2, h4.1, h4.2, h5.1, h5.2, fun h15 => ?_⟩
      rw [decide_eq_true (⟨h15, h3.2⟩ : 15 ≤ i.op ∧ i.op ≤ 20), Bool.true_and] at hf
      have := of_decide_eq_false hf
      omega
end Go.Proofs.YtejkaalhjocmgaaDoor
