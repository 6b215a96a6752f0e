/-
  Heaps that build makes: each word begins a block, each block's parts are words; so every shape ends.
-/
import Derived.Test.YtlgkgglecgdkgaaBuild
namespace Go.Proofs.Ytlgkgglecgdkgaa
open Go.RowKit

/-- How a heap that only grew lies. -/
structure HM.Bi (M : HM) (ws : List Nat) : Prop where
  b : M.beg.length = M.size
  n : M.now.length ≤ M.size
  w : ∀ x ∈ ws, x % 2 = 0 ∧ M.beg[x / 2]? = some true ∧ x / 2 + 1 + M.now.getD (x / 2) 0 / 8 % 8192 ≤ M.now.length ∧ 1 ≤ M.now.getD (x / 2) 0 % 8 ∧
    (M.now.getD (x / 2) 0 % 8 = 4 → M.now.getD (x / 2) 0 / 8 % 8192 = (M.now.getD (x / 2) 0 / 65536 + 7) / 8 ∧ M.now.getD (x / 2) 0 / 65536 ≤ 200)
  a : ∀ a, M.beg[a]? = some true → 2 * a ∈ ws
  v : ∀ x ∈ ws, M.now.getD (x / 2) 0 % 8 ≠ 4 → ∀ p, p < M.now.getD (x / 2) 0 / 8 % 8192 → M.value (M.now.getD (x / 2 + 1 + p) 0) = true

theorem HM.Bi.new (n : Nat) : (HM.new n).Bi [] := by
  refine ⟨by simp [HM.new], by simp [HM.new], by simp, ?_, by simp⟩
  intro a h
  simp [HM.new, List.getElem?_replicate] at h

theorem put_at_old {M : HM} {f : Nat} {rest : List Nat} {x : Nat} (h : (M.at x).isSome = true) : ((M.put f rest).at x).isSome = true := by
  obtain ⟨_, h2, h3, h4⟩ := HM.at_isSome h
  unfold HM.at
  rw [if_neg (by omega), if_neg (by simp [HM.put]; omega), if_pos]
  · rfl
  · simp only [HM.put]
    rw [List.getElem?_set_ne (by omega)]
    exact h4
theorem put_value_old {M : HM} {f : Nat} {rest : List Nat} {x : Nat} (h : M.value x = true) : (M.put f rest).value x = true := by
  unfold HM.value at *
  rw [Bool.or_eq_true] at *
  rcases h with h | h
  · exact .inl (put_at_old h)
  · exact .inr h
theorem put_get_old {M : HM} {f : Nat} {rest : List Nat} {i : Nat} (h : i < M.now.length) : (M.put f rest).now.getD i 0 = M.now.getD i 0 := by
  simp only [HM.put, List.getD_eq_getElem?_getD]
  rw [List.getElem?_append_left h]
theorem put_get_head {M : HM} {f : Nat} {rest : List Nat} : (M.put f rest).now.getD M.now.length 0 = f := by
  simp [HM.put]
theorem put_get_rest {M : HM} {f : Nat} {rest : List Nat} (p : Nat) : (M.put f rest).now.getD (M.now.length + 1 + p) 0 = rest.getD p 0 := by
  simp only [HM.put, List.getD_eq_getElem?_getD]
  rw [List.getElem?_append_right (by omega), show M.now.length + 1 + p - M.now.length = p + 1 by omega, List.getElem?_cons_succ]

theorem HM.Bi.put {M : HM} {ws rest : List Nat} {t k : Nat} (h : M.Bi ws) (h1 : 1 ≤ k) (h2 : k ≤ 4) (hr : rest.length < 8192) (h4 : k = 4 → rest.length = (t + 7) / 8 ∧ t ≤ 200) (hv : k ≠ 4 → ∀ y ∈ rest, M.value y = true)
    (hl : M.now.length + rest.length + 1 ≤ M.size) : (M.put (t * 65536 + rest.length * 8 + k) rest).Bi (ws ++ [2 * M.now.length]) := by
  have e1 : (t * 65536 + rest.length * 8 + k) / 8 % 8192 = rest.length := by omega
  have e2 : (t * 65536 + rest.length * 8 + k) % 8 = k := by omega
  have e3 : (t * 65536 + rest.length * 8 + k) / 65536 = t := by omega
  have hb := h.b
  generalize hf : t * 65536 + rest.length * 8 + k = f at *
  have hnl : (M.put f rest).now.length = M.now.length + rest.length + 1 := by simp [HM.put]; omega
  have hbeg : (M.put f rest).beg = M.beg.set M.now.length true := rfl
  refine ⟨by rw [hbeg]; simpa [HM.put] using hb, by rw [hnl]; exact hl, ?_, ?_, ?_⟩
  · intro x hx
    rcases List.mem_append.1 hx with hx | hx
    · obtain ⟨w1, w2, w3, w4, w5⟩ := h.w x hx
      rw [put_get_old (show x / 2 < M.now.length by omega)]
      refine ⟨w1, ?_, by omega, w4, w5⟩
      rw [hbeg, List.getElem?_set_ne (by omega)]
      exact w2
    · rw [List.mem_singleton] at hx
      subst hx
      rw [show 2 * M.now.length / 2 = M.now.length by omega, put_get_head, e1, e2, e3, hbeg]
      refine ⟨by omega, ?_, by omega, h1, h4⟩
      rw [List.getElem?_set_self (by omega)]
  · intro a ha
    rw [hbeg] at ha
    rcases Nat.decEq a M.now.length with hne | rfl
    · rw [List.getElem?_set_ne (by omega)] at ha
      exact List.mem_append_left _ (h.a a ha)
    · exact List.mem_append_right _ (by simp)
  · intro x hx hk p hp
    rcases List.mem_append.1 hx with hx | hx
    · obtain ⟨w1, w2, w3, w4, w5⟩ := h.w x hx
      rw [put_get_old (show x / 2 < M.now.length by omega)] at hk hp
      rw [put_get_old (by omega)]
      exact put_value_old (h.v x hx hk p hp)
    · rw [List.mem_singleton] at hx
      subst hx
      rw [show 2 * M.now.length / 2 = M.now.length by omega] at hk hp ⊢
      rw [put_get_head, e2] at hk
      rw [put_get_head, e1] at hp
      rw [put_get_rest]
      refine put_value_old (hv hk _ ?_)
      rw [List.getD_eq_getElem?_getD, List.getElem?_eq_getElem hp]
      exact List.getElem_mem hp
theorem put_size {M : HM} {f : Nat} {rest : List Nat} : (M.put f rest).size = M.size := rfl

theorem HM.Bi.allocM {M M' : HM} {ws parts : List Nat} {k t : Int} (h : M.Bi ws) (e : M.allocM k t parts = some M') : M'.Bi (ws ++ [2 * M.now.length]) ∧ M'.size = M.size := by
  unfold HM.allocM at e
  split at e
  · rename_i ho
    cases e
    obtain ⟨⟨h1, h2, h3, h4, h5⟩, h6, h7⟩ := ho
    exact ⟨h.put (by omega) (by omega) (by omega) (fun e => by omega) (fun _ y hy => List.all_eq_true.1 h6 y hy) h7, rfl⟩
  · cases e
theorem HM.Bi.allocT {M M' : HM} {ws : List Nat} {s : ByteArray} (h : M.Bi ws) (e : M.allocT s = some M') : M'.Bi (ws ++ [2 * M.now.length]) ∧ M'.size = M.size := by
  unfold HM.allocT at e
  split at e
  · rename_i ho
    cases e
    have hl : (tws s.data.toList s.size).length = (s.size + 7) / 8 := by rw [tws_len]; simp
    have := h.put (k := 4) (t := s.size) (rest := tws s.data.toList s.size) (by omega) (by omega) (by rw [hl]; omega) (fun _ => ⟨hl, ho.1⟩) (fun e => absurd rfl e) (by rw [hl]; exact ho.2)
    rw [hl] at this
    exact ⟨this, rfl⟩
  · cases e
theorem HM.Bi.step {S : HM × List Nat} (h : S.1.Bi S.2) (a : ActM) : (bstep S a).1.Bi (bstep S a).2 ∧ (bstep S a).1.size = S.1.size ∧ (bstep S a).2.length ≤ S.2.length + 1 := by
  unfold bstep
  split
  · rename_i M hM
    split at hM
    · obtain ⟨h1, h2⟩ := h.allocT hM
      exact ⟨h1, h2, by simp⟩
    · obtain ⟨h1, h2⟩ := h.allocM hM
      exact ⟨h1, h2, by simp⟩
  · exact ⟨h, rfl, by omega⟩
theorem HM.Bi.fold (l : List ActM) : ∀ (S : HM × List Nat), S.1.Bi S.2 → (l.foldl bstep S).1.Bi (l.foldl bstep S).2 ∧ (l.foldl bstep S).1.size = S.1.size ∧ (l.foldl bstep S).2.length ≤ S.2.length + l.length := by
  induction l with
  | nil => intro S h; exact ⟨h, rfl, by simp⟩
  | cons a l ih =>
    intro S h
    obtain ⟨h1, h2, h3⟩ := h.step a
    obtain ⟨h4, h5, h6⟩ := ih _ h1
    exact ⟨h4, by rw [List.foldl_cons, h5, h2], by rw [List.foldl_cons, List.length_cons]; omega⟩
theorem build_bi (n : Nat) (l : List ActM) : (buildM n l).1.Bi (buildM n l).2 ∧ (buildM n l).1.size = n ∧ (buildM n l).2.length ≤ l.length := by
  obtain ⟨h1, h2, h3⟩ := HM.Bi.fold l (HM.new n, []) (HM.Bi.new n)
  exact ⟨h1, h2, by simpa [buildM] using h3⟩

section
variable {M : HM} {ws : List Nat} (h : M.Bi ws)
include h
theorem HM.Bi.at_ {x : Nat} (hx : x ∈ ws) : (M.at x).isSome = true := by
  obtain ⟨w1, w2, w3, _⟩ := h.w x hx
  unfold HM.at
  rw [if_neg (by omega), if_neg (by omega), if_pos w2]
  rfl
theorem HM.Bi.mem {x : Nat} (hx : (M.at x).isSome = true) : x ∈ ws := by
  obtain ⟨_, h2, _, h4⟩ := HM.at_isSome hx
  have := h.a _ h4
  rwa [show 2 * (x / 2) = x by omega] at this
theorem HM.Bi.none_ {x : Nat} (hx : x ∉ ws) : M.at x = none := by
  cases e : M.at x with
  | none => rfl
  | some a => exact absurd (h.mem (by rw [e]; rfl)) hx
theorem HM.Bi.wf : M.Wf := by
  intro x hx
  obtain ⟨w1, w2, w3, w4, w5⟩ := h.w x (h.mem hx)
  unfold HM.bn HM.bk HM.bt
  rw [if_pos hx, if_pos hx, if_pos hx]
  refine ⟨?_, fun hk => ?_⟩
  · split
    · omega
    · exact w3
  · have := w5 hk
    omega
theorem HM.Bi.vals {x p : Nat} (hx : x ∈ ws) (hp : p < M.bn x) : M.value (M.now.getD (x / 2 + 1 + p) 0) = true := by
  unfold HM.bn at hp
  rw [if_pos (h.at_ hx)] at hp
  split at hp
  · omega
  · rename_i h4
    exact h.v x hx h4 p hp
theorem HM.Bi.lt {x : Nat} (hx : x ∈ ws) (hs : M.size ≤ 1048576) : x < 18446744073709551616 := by
  obtain ⟨w1, w2, w3, _⟩ := h.w x hx
  have := h.n
  omega
end

theorem nodup_le : ∀ (bs U : List Nat), bs.Nodup → (∀ x ∈ bs, x ∈ U) → bs.length ≤ U.length := by
  intro bs
  induction bs with
  | nil => intro U _ _; exact Nat.zero_le _
  | cons x bs ih =>
    intro U hn hs
    rw [List.nodup_cons] at hn
    have hx := hs x (by simp)
    have := ih (U.erase x) hn.2 (fun y hy => (List.mem_erase_of_ne (fun e => hn.1 (by rw [← e]; exact hy))).2 (hs y (by simp [hy])))
    rw [List.length_erase_of_mem hx] at this
    have := List.length_pos_of_mem hx
    rw [List.length_cons]
    omega
/-- The blocks that are known: each once, and all are among U. -/
def Known (U bs : List Nat) : Prop := bs.Nodup ∧ ∀ x ∈ bs, x ∈ U
theorem Known.ref {M : HM} {U bs : List Nat} (hU : ∀ x, (M.at x).isSome = true → x ∈ U) (h : Known U bs) (x : Nat) : Known U (M.ref bs x).2 := by
  unfold HM.ref
  split
  · exact h
  · rename_i h1
    split
    · rename_i h2
      split
      · exact h
      · rename_i h3
        have h4 : (M.at x).isSome = true := by
          unfold HM.value at h2
          rw [Bool.or_eq_true] at h2
          rcases h2 with h2 | h2
          · exact h2
          · exact absurd (by simpa using h2) h1
        have h5 : x ∉ bs := by
          intro hm
          simp only [List.idxOf?, List.findIdx?_eq_none_iff] at h3
          have := h3 x hm
          simp at this
        refine ⟨?_, fun y hy => ?_⟩
        · rw [List.nodup_append]
          exact ⟨h.1, by simp, fun a ha b hb e => by rw [List.mem_singleton] at hb; subst hb; exact h5 (e ▸ ha)⟩
        · rcases List.mem_append.1 hy with hy | hy
          · exact h.2 y hy
          · rw [List.mem_singleton] at hy
            subst hy
            exact hU _ h4
    · exact h
theorem Known.refs {M : HM} {U : List Nat} (hU : ∀ x, (M.at x).isSome = true → x ∈ U) (xs : List Nat) : ∀ bs, Known U bs → Known U (M.refs bs xs).2 := by
  induction xs with
  | nil => intro bs h; exact h
  | cons x xs ih => intro bs h; exact ih _ (h.ref hU x)
theorem cells_some {M : HM} {U : List Nat} (hU : ∀ x, (M.at x).isSome = true → x ∈ U) (f : Nat) : ∀ (bs : List Nat) (i : Nat), Known U bs → U.length ≤ i + f → ∃ cs bs', M.cells bs i f = some (cs, bs') ∧ Known U bs' := by
  induction f with
  | zero =>
    intro bs i h hl
    have := nodup_le bs U h.1 h.2
    exact ⟨[], bs, by unfold HM.cells; rw [if_neg (by omega)], h⟩
  | succ f ih =>
    intro bs i h hl
    unfold HM.cells
    split
    · obtain ⟨cs, bs', e, hk⟩ := ih (M.cell bs (bs.getD i 0)).2 (i + 1) (h.refs hU _) (by omega)
      rw [e]
      exact ⟨_, _, rfl, hk⟩
    · exact ⟨_, _, rfl, h⟩

/-- The shape of one block: it is the one root, and the first cell is the block's. -/
theorem shape_one {M : HM} {U : List Nat} {x : Nat} (hU : ∀ x, (M.at x).isSome = true → x ∈ U) (hx : (M.at x).isSome = true) (f : Nat) (hf : U.length ≤ f) (hf1 : 1 ≤ f) :
    ∃ cs bs, M.shape [x] f = some ([(false, 0)], (M.cell [x] x).1 :: cs, bs) ∧ bs.length ≤ U.length := by
  have hs := HM.at_isSome hx
  have hr : M.refs [] [x] = ([(false, 0)], [x]) := by
    simp [HM.refs, HM.ref, HM.value, hx, hs.2.1, List.idxOf?]
  obtain ⟨g, rfl⟩ : ∃ g, f = g + 1 := ⟨f - 1, by omega⟩
  have hk1 : Known U [x] := ⟨by simp, fun y hy => by rw [List.mem_singleton] at hy; subst hy; exact hU _ hx⟩
  obtain ⟨cs, bs, e, hk⟩ := cells_some hU g (M.cell [x] x).2 1 (hk1.refs hU _) (by omega)
  refine ⟨cs, bs, ?_, nodup_le _ _ hk.1 hk.2⟩
  unfold HM.shape
  rw [hr]
  unfold HM.cells
  rw [if_pos (by simp)]
  simp only [List.getD_cons_zero]
  rw [e]
theorem refs_get {M : HM} (xs : List Nat) : ∀ (bs : List Nat) (i : Nat) (hi : i < xs.length), ∃ bs', (M.refs bs xs).1[i]? = some (M.ref bs' xs[i]).1 := by
  induction xs with
  | nil => intro bs i hi; exact absurd hi (by simp)
  | cons x xs ih =>
    intro bs i hi
    cases i with
    | zero => exact ⟨bs, rfl⟩
    | succ i =>
      obtain ⟨bs', e⟩ := ih (M.ref bs x).2 i (by simpa using hi)
      exact ⟨bs', by simpa [HM.refs] using e⟩
/-- A cell's part is the number that the block's part is, or no number. -/
theorem cell_part {M : HM} {ws : List Nat} {x p : Nat} (h : M.Bi ws) (hx : x ∈ ws) (hp : p < M.bn x) (bs : List Nat) :
    ∃ r : Bool × Int, (M.cell bs x).1.parts[p]? = some r ∧ r.1 = (M.now.getD (x / 2 + 1 + p) 0 % 2 == 1) ∧ (M.now.getD (x / 2 + 1 + p) 0 % 2 = 1 → r.2 = isNumV (M.now.getD (x / 2 + 1 + p) 0)) := by
  have hv := h.vals hx hp
  obtain ⟨bs', e⟩ := refs_get (M := M) (M.parts x) bs p (by rw [HM.parts_len]; exact hp)
  have e2 : (M.parts x)[p]'(by rw [HM.parts_len]; exact hp) = M.now.getD (x / 2 + 1 + p) 0 := by simp [HM.parts]
  rw [e2] at e
  generalize M.now.getD (x / 2 + 1 + p) 0 = z at *
  refine ⟨_, e, ?_, fun h1 => ?_⟩
  · unfold HM.ref
    by_cases h1 : z % 2 = 1
    · rw [if_pos h1]; simp [h1]
    · rw [if_neg h1, if_pos hv]
      have : (z % 2 == 1) = false := by simp [h1]
      rw [this]
      split <;> rfl
  · unfold HM.ref
    rw [if_pos h1]
end Go.Proofs.Ytlgkgglecgdkgaa
