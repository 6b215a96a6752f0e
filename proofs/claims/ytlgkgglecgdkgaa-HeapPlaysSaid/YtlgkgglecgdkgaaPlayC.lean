/-
  A collection: the heap stays like the document's, of which there is what is needed.
-/
import Derived.Test.YtlgkgglecgdkgaaPlayB
namespace Go.Proofs.Ytlgkgglecgdkgaa
open Go.RowKit

/-- Where a thing comes to stand. -/
def offOf (all : List ObjM) : List Int → Int → Nat
  | [], _ => 0
  | x :: xs, i => if x = i then 0 else needO (objAt all x) + offOf all xs i
def wd2 (all : List ObjM) (out : List Int) : Int → Nat := fun i => offOf all out i * 2

theorem live_cons (all : List ObjM) (x : Int) (l : List Int) : liveR all (x :: l) = needO (objAt all x) + liveR all l := by simp [liveR]
theorem live_app (all : List ObjM) (l t : List Int) : liveR all (l ++ t) = liveR all l + liveR all t := by simp [liveR]
theorem live_one (all : List ObjM) (x : Int) : liveR all [x] = needO (objAt all x) := by simp [liveR]
theorem off_app {all : List ObjM} {i : Int} {t : List Int} : ∀ {out : List Int}, i ∈ out → offOf all (out ++ t) i = offOf all out i := by
  intro out
  induction out with
  | nil => intro h; exact absurd h (by simp)
  | cons x xs ih =>
    intro h
    simp only [List.cons_append, offOf]
    split
    · rfl
    · rename_i hx
      rw [ih (by rcases List.mem_cons.1 h with h | h; exact absurd h.symm hx; exact h)]
theorem off_new {all : List ObjM} {i : Int} : ∀ {out : List Int}, i ∉ out → offOf all (out ++ [i]) i = liveR all out := by
  intro out
  induction out with
  | nil => intro _; simp [offOf, liveR]
  | cons x xs ih =>
    intro h
    simp only [List.cons_append, offOf]
    rw [if_neg (fun e => h (by simp [e])), ih (fun hm => h (by simp [hm])), live_cons]
theorem off_fits {all : List ObjM} {i : Int} : ∀ {out : List Int}, i ∈ out → offOf all out i + needO (objAt all i) ≤ liveR all out := by
  intro out
  induction out with
  | nil => intro h; exact absurd h (by simp)
  | cons x xs ih =>
    intro h
    rw [live_cons]
    unfold offOf
    split
    · rename_i e; subst e; omega
    · rename_i hx
      have := ih (by rcases List.mem_cons.1 h with h | h; exact absurd h.symm hx; exact h)
      omega
theorem off_dis {all : List ObjM} {i j : Int} (hne : i ≠ j) : ∀ {out : List Int}, i ∈ out → j ∈ out → offOf all out i + needO (objAt all i) ≤ offOf all out j ∨ offOf all out j + needO (objAt all j) ≤ offOf all out i := by
  intro out
  induction out with
  | nil => intro h; exact absurd h (by simp)
  | cons x xs ih =>
    intro hi hj
    unfold offOf
    by_cases h1 : x = i
    · subst h1
      rw [if_pos rfl, if_neg hne]
      left; omega
    · by_cases h2 : x = j
      · subst h2
        rw [if_neg h1, if_pos rfl]
        right; omega
      · rw [if_neg h1, if_neg h2]
        have := ih (by rcases List.mem_cons.1 hi with h | h; exact absurd h.symm h1; exact h) (by rcases List.mem_cons.1 hj with h | h; exact absurd h.symm h2; exact h)
        omega
theorem off_at {all : List ObjM} : ∀ (out : List Int) (k : Nat), out.Nodup → k < out.length → offOf all out (out.getD k 0) = liveR all (out.take k) := by
  intro out
  induction out with
  | nil => intro k _ h; simp at h
  | cons x xs ih =>
    intro k hnd h
    rw [List.nodup_cons] at hnd
    cases k with
    | zero => simp [offOf, liveR]
    | succ k =>
      have hk : k < xs.length := by simpa using h
      simp only [List.getD_cons_succ, List.take_succ_cons, offOf]
      rw [if_neg (fun e : x = xs.getD k 0 => hnd.1 (by rw [e]; exact getD_mem hk)), ih k hnd.2 hk, live_cons]
theorem live_erase {all : List ObjM} {x : Int} : ∀ {L : List Int}, x ∈ L → liveR all L = needO (objAt all x) + liveR all (L.erase x) := by
  intro L
  induction L with
  | nil => intro h; exact absurd h (by simp)
  | cons y L ih =>
    intro h
    rw [List.erase_cons]
    by_cases e : y = x
    · subst e; simp [live_cons]
    · have : (y == x) = false := by simpa using e
      rw [this]
      have h2 := ih (by rcases List.mem_cons.1 h with h | h; exact absurd h.symm e; exact h)
      simp only [Bool.false_eq_true, if_false, live_cons]
      omega
theorem live_le {all : List ObjM} : ∀ (bs U : List Int), bs.Nodup → (∀ x ∈ bs, x ∈ U) → liveR all bs ≤ liveR all U := by
  intro bs
  induction bs with
  | nil => intro U _ _; simp [liveR]
  | cons x bs ih =>
    intro U hn hs
    rw [List.nodup_cons] at hn
    have := ih (U.erase x) hn.2 (fun y hy => (List.mem_erase_of_ne (fun e => hn.1 (by rw [← e]; exact hy))).2 (hs y (by simp [hy])))
    rw [live_erase (hs x (by simp)), live_cons]
    omega

/-- In the midst of a collection: out was moved, and ps parts of each are done. -/
structure Mid (M0 M : HM) (all : List ObjM) (L : List Int) (wd : Int → Nat) (b2 : List Bool) (out : List Int) (ps : Int → Nat) : Prop where
  kn : KnownR L out
  size : M.size = M0.size
  nlen : M.now.length = M0.now.length
  beg : M.beg = M0.beg
  old : ∀ i ∈ L, i ∉ out → ∀ p, p < needO (objAt all i) → M.now.getD (wd i / 2 + p) 0 = (blkW wd (objAt all i)).getD p 0
  fwd : ∀ i ∈ out, M.now.getD (wd i / 2) 0 = offOf all out i * 8
  len : M.oth.length = liveR all out
  bl : b2.length = M0.size
  bt : ∀ a, b2[a]? = some true → ∃ i ∈ out, wd2 all out i = 2 * a
  bi : ∀ i ∈ out, b2[offOf all out i]? = some true
  hd : ∀ i ∈ out, M.oth.getD (offOf all out i) 0 = (blkW wd (objAt all i)).getD 0 0
  pay : ∀ i ∈ out, ∀ p, p < (payW wd (objAt all i)).length → M.oth.getD (offOf all out i + 1 + p) 0 = if p < ps i then (payW (wd2 all out) (objAt all i)).getD p 0 else (payW wd (objAt all i)).getD p 0
  cl : ∀ i ∈ out, ∀ p, p < ps i → ∀ r, (objAt all i).parts[p]? = some r → ClR out r
  pz : ∀ i, i ∉ out → ps i = 0

theorem ClR.pre {l l2 : List Int} {r : Rf} (h : ClR l r) (hp : l <+: l2) : ClR l2 r := ⟨h.1, fun hb => hp.subset (h.2 hb)⟩
theorem enc_pre {all : List ObjM} {l l2 : List Int} {r : Rf} (h : ClR l r) (hp : l <+: l2) : encR (wd2 all l2) r = encR (wd2 all l) r := by
  unfold encR
  cases hb : r.1 with
  | true => rfl
  | false =>
    obtain ⟨t, rfl⟩ := hp
    simp only [Bool.false_eq_true, if_false, wd2]
    rw [off_app (h.2 hb)]
theorem payW_get (wd : Int → Nat) (o : ObjM) (h4 : o.kind ≠ 4) (p : Nat) : (payW wd o).getD p 0 = match o.parts[p]? with | some r => encR wd r | none => 0 := by
  unfold payW
  rw [if_neg h4, List.getD_eq_getElem?_getD, List.getElem?_map]
  cases o.parts[p]? <;> rfl
theorem payW_len2 (wd wd' : Int → Nat) (o : ObjM) : (payW wd o).length = (payW wd' o).length := by
  have h1 := payW_len wd o
  have h2 := payW_len wd' o
  omega
theorem payW_pre {all : List ObjM} {l l2 : List Int} {o : ObjM} {p : Nat} (hc : ∀ r, o.parts[p]? = some r → ClR l r) (hp : l <+: l2) : (payW (wd2 all l2) o).getD p 0 = (payW (wd2 all l) o).getD p 0 := by
  by_cases h4 : o.kind = 4
  · unfold payW; rw [if_pos h4, if_pos h4]
  · rw [payW_get _ _ h4, payW_get _ _ h4]
    cases e : o.parts[p]? with
    | none => rfl
    | some r => exact enc_pre (hc r e) hp
theorem app_getD (l t : List Nat) (i : Nat) : (l ++ t).getD i 0 = if i < l.length then l.getD i 0 else t.getD (i - l.length) 0 := by
  simp only [List.getD_eq_getElem?_getD]
  split
  · rename_i h; rw [List.getElem?_append_left h]
  · rename_i h; rw [List.getElem?_append_right (by omega)]

section
variable {M0 M : HM} {all : List ObjM} {L : List Int} {wd : Int → Nat} (h0 : Sim M0 all L wd) {b2 : List Bool} {out : List Int} {ps : Int → Nat}
include h0
theorem Mid.at_ (h : Mid M0 M all L wd b2 out ps) {i : Int} (hi : i ∈ L) : M.at (wd i) = some (wd i / 2) := by
  have h1 := (HM.at_isSome (h0.at_ i hi)).1
  unfold HM.at at h1 ⊢
  rw [h.nlen, h.beg]
  exact h1
theorem Mid.mv (h : Mid M0 M all L wd b2 out ps) {r : Rf} (hr : ClR L r) :
    ∃ M' b2', M.mv b2 (encR wd r) = some (M', b2', encR (wd2 all (addR out r)) r) ∧ Mid M0 M' all L wd b2' (addR out r) ps := by
  obtain ⟨b, i⟩ := r
  unfold HM.mv encR addR
  cases b with
  | true =>
    simp only [if_true]
    rw [if_pos (numW_odd i)]
    exact ⟨M, b2, rfl, h⟩
  | false =>
    have hi : i ∈ L := hr.2 rfl
    have hev := h0.even hi
    have hat := Mid.at_ h0 h hi
    simp only [Bool.false_eq_true, if_false]
    rw [if_neg (by omega), hat]
    dsimp only
    have ho := h0.ok i hi
    have k1 := ho.k1
    have k2 := ho.k2
    have hpl := h0.plen hi
    by_cases hm : i ∈ out
    · rw [if_pos hm, h.fwd i hm, if_pos (by omega), show offOf all out i * 8 / 8 * 2 = wd2 all out i by unfold wd2; omega]
      exact ⟨M, b2, rfl, h⟩
    · rw [if_neg hm]
      have hhd : M.now.getD (wd i / 2) 0 = (objAt all i).tag.toNat * 65536 + (payW wd (objAt all i)).length * 8 + (objAt all i).kind.toNat := by
        have := h.old i hi hm 0 (need_pos _)
        simpa [blkW] using this
      have hn8 : M.now.getD (wd i / 2) 0 / 8 % 8192 = (payW wd (objAt all i)).length := by rw [hhd]; omega
      have hnd := payW_len wd (objAt all i)
      have hfit := h0.fits i hi
      have hle : liveR all (out ++ [i]) ≤ liveR all L := live_le _ _ (by
          rw [List.nodup_append]
          exact ⟨h.kn.1, by simp, fun a ha b hb e => by rw [List.mem_singleton] at hb; subst hb; exact hm (e ▸ ha)⟩)
        (fun y hy => by
          rcases List.mem_append.1 hy with hy | hy
          · exact h.kn.2 y hy
          · rw [List.mem_singleton] at hy; subst hy; exact hi)
      rw [live_app, live_one, ← h0.sum] at hle
      have hlen := h.len
      have hnlen := h.nlen
      have hM0 := h0.n
      rw [if_neg (by rw [hhd]; omega), hn8, if_pos ⟨by omega, by rw [h.size]; omega⟩]
      have hoff : offOf all (out ++ [i]) i = M.oth.length := by rw [off_new hm, hlen]
      refine ⟨M.moved (wd i / 2) (payW wd (objAt all i)).length, b2.set M.oth.length true, by unfold wd2; rw [hoff], ?_⟩
      have hpre : out <+: out ++ [i] := List.prefix_append _ _
      have hkeep : ∀ j ∈ out, offOf all (out ++ [i]) j = offOf all out j := fun j hj => off_app hj
      have hnow : ∀ x, (M.moved (wd i / 2) (payW wd (objAt all i)).length).now.getD x 0 = if wd i / 2 = x ∧ x < M.now.length then M.oth.length * 8 else M.now.getD x 0 := fun x => getD_set _ _ _ _
      have htl : ((M.now.drop (wd i / 2)).take (1 + (payW wd (objAt all i)).length)).length = 1 + (payW wd (objAt all i)).length := by
        rw [List.length_take, List.length_drop]; omega
      have htg : ∀ p, p < 1 + (payW wd (objAt all i)).length → ((M.now.drop (wd i / 2)).take (1 + (payW wd (objAt all i)).length)).getD p 0 = (blkW wd (objAt all i)).getD p 0 := by
        intro p hp
        rw [← h.old i hi hm p (by omega), List.getD_eq_getElem?_getD, List.getElem?_take_of_lt hp, List.getElem?_drop, List.getD_eq_getElem?_getD]
      have hoth : ∀ x, (M.moved (wd i / 2) (payW wd (objAt all i)).length).oth.getD x 0 = if x < M.oth.length then M.oth.getD x 0 else ((M.now.drop (wd i / 2)).take (1 + (payW wd (objAt all i)).length)).getD (x - M.oth.length) 0 := fun x => app_getD _ _ _
      have hin : ∀ j ∈ out, offOf all out j + needO (objAt all j) ≤ M.oth.length := fun j hj => by rw [hlen]; exact off_fits hj
      refine ⟨?_, h.size, by simp [HM.moved, hnlen], h.beg, ?_, ?_, ?_, by rw [List.length_set]; exact h.bl, ?_, ?_, ?_, ?_, ?_, ?_⟩
      · have := h.kn.add hr
        unfold addR at this
        simpa [hm] using this
      · intro j hj hjo p hp
        have hji : j ≠ i := fun e => hjo (by simp [e])
        rw [hnow, if_neg (by
          have := h0.dis i hi j hj (fun e => hji e.symm)
          have := need_pos (objAt all i)
          omega)]
        exact h.old j hj (fun hm2 => hjo (List.mem_append_left _ hm2)) p hp
      · intro j hj
        rw [hnow]
        rcases List.mem_append.1 hj with hj | hj
        · have hji : j ≠ i := fun e => hm (e ▸ hj)
          have h1 := h0.dis i hi j (h.kn.2 j hj) (fun e => hji e.symm)
          have h2 := need_pos (objAt all i)
          have h3 := need_pos (objAt all j)
          rw [if_neg (by omega), hkeep j hj]
          exact h.fwd j hj
        · rw [List.mem_singleton] at hj
          subst hj
          rw [if_pos ⟨rfl, by omega⟩, hoff]
      · simp only [HM.moved, List.length_append]
        rw [htl, live_app, live_one, hlen]
        omega
      · intro a ha
        rcases Nat.decEq a M.oth.length with hne | rfl
        · rw [List.getElem?_set_ne (by omega)] at ha
          obtain ⟨j, hj, e⟩ := h.bt a ha
          refine ⟨j, List.mem_append_left _ hj, ?_⟩
          unfold wd2 at e ⊢
          rw [hkeep j hj]
          exact e
        · exact ⟨i, by simp, by unfold wd2; rw [hoff]; omega⟩
      · intro j hj
        rcases List.mem_append.1 hj with hj | hj
        · rw [hkeep j hj, List.getElem?_set_ne (by have := hin j hj; have := need_pos (objAt all j); omega)]
          exact h.bi j hj
        · rw [List.mem_singleton] at hj
          subst hj
          rw [hoff, List.getElem?_set_self (by rw [h.bl]; omega)]
      · intro j hj
        rw [hoth]
        rcases List.mem_append.1 hj with hj | hj
        · rw [hkeep j hj, if_pos (by have := hin j hj; have := need_pos (objAt all j); omega)]
          exact h.hd j hj
        · rw [List.mem_singleton] at hj
          subst hj
          rw [hoff, if_neg (by omega), Nat.sub_self]
          exact htg 0 (by omega)
      · intro j hj p hp
        rw [hoth]
        rcases List.mem_append.1 hj with hj | hj
        · have hpj := payW_len wd (objAt all j)
          rw [hkeep j hj, if_pos (by have := hin j hj; omega), h.pay j hj p hp]
          split
          · rename_i hps
            rw [payW_pre (fun r e => h.cl j hj p hps r e) hpre]
          · rfl
        · rw [List.mem_singleton] at hj
          subst hj
          rw [hoff, if_neg (by omega), h.pz _ hm, if_neg (by omega), show M.oth.length + 1 + p - M.oth.length = p + 1 by omega, htg (p + 1) (by omega)]
          simp [blkW]
      · intro j hj p hp r hr2
        rcases List.mem_append.1 hj with hj | hj
        · exact (h.cl j hj p hp r hr2).pre hpre
        · rw [List.mem_singleton] at hj
          subst hj
          rw [h.pz _ hm] at hp
          omega
      · intro j hj
        exact h.pz j (fun hm2 => hj (List.mem_append_left _ hm2))
theorem Mid.mvs {rs : List Rf} : ∀ {M : HM} {b2 : List Bool} {out : List Int}, Mid M0 M all L wd b2 out ps → (∀ r ∈ rs, ClR L r) →
    ∃ M' b2', M.mvs b2 (rs.map (encR wd)) = some (M', b2', rs.map (encR (wd2 all (addsR out rs)))) ∧ Mid M0 M' all L wd b2' (addsR out rs) ps := by
  induction rs with
  | nil => intro M b2 out h _; exact ⟨M, b2, rfl, h⟩
  | cons r rs ih =>
    intro M b2 out h hr
    obtain ⟨M1, b1, e1, h1⟩ := Mid.mv h0 h (hr r (by simp))
    obtain ⟨M2, b3, e2, h2⟩ := ih h1 (fun q hq => hr q (by simp [hq]))
    refine ⟨M2, b3, ?_, h2⟩
    simp only [List.map_cons, HM.mvs]
    rw [e1]
    dsimp only
    rw [e2]
    have : encR (wd2 all (addR out r)) r = encR (wd2 all (addsR out (r :: rs))) r := by
      refine (enc_pre (l := addR out r) ⟨(hr r (by simp)).1, addR_mem out r⟩ ?_).symm
      exact addsR_pre rs (addR out r)
    rw [this]
    rfl
end
theorem Mid.setO {M0 M : HM} {all : List ObjM} {L : List Int} {wd : Int → Nat} {b2 : List Bool} {out : List Int} {ps : Int → Nat} (h : Mid M0 M all L wd b2 out ps) {c : Int} (hc : c ∈ out) (h4 : (objAt all c).kind ≠ 4) {p : Nat} (hp : ps c = p) {r : Rf} (hr : (objAt all c).parts[p]? = some r) (hrc : ClR out r) :
    Mid M0 (M.setO (offOf all out c + 1 + p) (encR (wd2 all out) r)) all L wd b2 out (fun j => if j = c then p + 1 else ps j) := by
  have hpl : p < (objAt all c).parts.length := (List.getElem?_eq_some_iff.1 hr).1
  have hnc : needO (objAt all c) = (objAt all c).parts.length + 1 := by unfold needO; rw [if_neg h4]
  have hoth : ∀ x, (M.setO (offOf all out c + 1 + p) (encR (wd2 all out) r)).oth.getD x 0 = if offOf all out c + 1 + p = x ∧ x < M.oth.length then encR (wd2 all out) r else M.oth.getD x 0 := fun x => getD_set _ _ _ _
  have hin : ∀ j ∈ out, offOf all out j + needO (objAt all j) ≤ M.oth.length := fun j hj => by rw [h.len]; exact off_fits hj
  refine ⟨h.kn, h.size, h.nlen, h.beg, h.old, h.fwd, by simpa [HM.setO] using h.len, h.bl, h.bt, h.bi, ?_, ?_, ?_, ?_⟩
  · intro j hj
    rw [hoth, if_neg]
    · exact h.hd j hj
    · rintro ⟨e, _⟩
      by_cases hjc : j = c
      · subst hjc; omega
      · have := off_dis (all := all) hjc hj hc
        have := need_pos (objAt all j)
        omega
  · intro j hj q hq
    rw [hoth]
    have hqn := payW_len wd (objAt all j)
    by_cases hjc : j = c
    · subst hjc
      rw [if_pos rfl]
      by_cases hqp : q = p
      · subst hqp
        rw [if_pos ⟨rfl, by have := hin j hj; omega⟩, if_pos (by omega), payW_get _ _ h4, hr]
      · rw [if_neg (by omega), h.pay j hj q hq, hp]
        by_cases hlt : q < p
        · rw [if_pos hlt, if_pos (by omega)]
        · rw [if_neg hlt, if_neg (by omega)]
    · rw [if_neg hjc, if_neg]
      · exact h.pay j hj q hq
      · rintro ⟨e, _⟩
        have := off_dis (all := all) hjc hj hc
        omega
  · intro j hj q hq r2 hr2
    by_cases hjc : j = c
    · subst hjc
      rw [if_pos rfl] at hq
      by_cases hqp : q = p
      · subst hqp
        rw [hr] at hr2
        cases hr2
        exact hrc
      · exact h.cl j hj q (by omega) r2 hr2
    · rw [if_neg hjc] at hq
      exact h.cl j hj q hq r2 hr2
  · intro j hj
    rw [if_neg (fun e : j = c => hj (by rw [e]; exact hc))]
    exact h.pz j hj
section
variable {M0 M : HM} {all : List ObjM} {L : List Int} {wd : Int → Nat} (h0 : Sim M0 all L wd) {b2 : List Bool} {out : List Int} {ps : Int → Nat}
include h0
theorem Mid.scanI {c : Int} (h4 : (objAt all c).kind ≠ 4) (hcl : ∀ r ∈ (objAt all c).parts, ClR L r) (k : Nat) : ∀ {M : HM} {b2 : List Bool} {out : List Int} {ps : Int → Nat} (p : Nat), Mid M0 M all L wd b2 out ps → c ∈ out → ps c = p → p + k = (objAt all c).parts.length →
    ∃ M' b2', M.scanI b2 (offOf all out c + 1 + p) k = some (M', b2') ∧ Mid M0 M' all L wd b2' (addsR out ((objAt all c).parts.drop p)) (fun j => if j = c then (objAt all c).parts.length else ps j) := by
  induction k with
  | zero =>
    intro M b2 out ps p h hc hp hk
    refine ⟨M, b2, rfl, ?_⟩
    rw [List.drop_eq_nil_of_le (by omega)]
    have : (fun j => if j = c then (objAt all c).parts.length else ps j) = ps := by
      funext j
      split
      · rename_i e; subst e; omega
      · rfl
    rw [this]
    exact h
  | succ k ih =>
    intro M b2 out ps p h hc hp hk
    have hpl : p < (objAt all c).parts.length := by omega
    have hr : (objAt all c).parts[p]? = some (objAt all c).parts[p] := List.getElem?_eq_getElem hpl
    have hrm : (objAt all c).parts[p] ∈ (objAt all c).parts := List.getElem_mem hpl
    have hpw : (payW wd (objAt all c)).length = (objAt all c).parts.length := by unfold payW; rw [if_neg h4]; simp
    have hv := h.pay c hc p (by omega)
    rw [if_neg (by omega), payW_get _ _ h4, hr] at hv
    dsimp only at hv
    have hnc := payW_len wd (objAt all c)
    have hfit := off_fits (all := all) hc
    have hlen := h.len
    rw [List.drop_eq_getElem_cons hpl]
    generalize (objAt all c).parts[p] = r at *
    obtain ⟨M1, b1, e1, h1⟩ := Mid.mv h0 h (hcl r hrm)
    have hpre := addR_pre out r
    have hc1 : c ∈ addR out r := hpre.subset hc
    have hoff : offOf all (addR out r) c = offOf all out c := by
      obtain ⟨t, ht⟩ := hpre
      rw [← ht, off_app hc]
    have hrc : ClR (addR out r) r := ⟨(hcl r hrm).1, addR_mem out r⟩
    have h2 := Mid.setO h1 hc1 h4 hp hr hrc
    obtain ⟨M3, b3, e3, h3⟩ := ih (p + 1) h2 hc1 (if_pos rfl) (by omega)
    rw [hoff] at h2 e3
    refine ⟨M3, b3, ?_, ?_⟩
    · simp only [HM.scanI]
      rw [if_pos (by omega), hv, e1]
      dsimp only
      rw [show offOf all out c + 1 + p + 1 = offOf all out c + 1 + (p + 1) by omega]
      exact e3
    · have hps : (fun j => if j = c then (objAt all c).parts.length else (fun j => if j = c then p + 1 else ps j) j) = fun j => if j = c then (objAt all c).parts.length else ps j := by
        funext j
        by_cases e : j = c <;> simp [e]
      rw [hps] at h3
      exact h3

/-- So many of the moved ones are done. -/
def psOf (all : List ObjM) (out : List Int) (sc : Nat) : Int → Nat := fun j => if j ∈ out.take sc then (objAt all j).parts.length else 0
theorem Mid.scan (f : Nat) : ∀ {M : HM} {b2 : List Bool} {out : List Int} (sc : Nat) (fin : List Int), sc ≤ out.length → Mid M0 M all L wd b2 out (psOf all out sc) → needR all out sc f = some fin →
    ∃ M' b2', M.scan b2 (liveR all (out.take sc)) f = some (M', b2') ∧ Mid M0 M' all L wd b2' fin (psOf all fin fin.length) := by
  have hlive : ∀ (out : List Int) (sc : Nat), sc < out.length → liveR all (out.take sc) < liveR all out := by
    intro out sc hs
    have h1 : liveR all out = liveR all (out.take sc) + liveR all (out.drop sc) := by rw [← live_app, List.take_append_drop]
    rw [List.drop_eq_getElem_cons hs, live_cons] at h1
    have := need_pos (objAt all out[sc])
    omega
  induction f with
  | zero =>
    intro M b2 out sc fin hsc h e
    unfold needR at e
    split at e
    · cases e
    · rename_i hlt
      cases e
      obtain rfl : sc = out.length := by omega
      refine ⟨M, b2, ?_, h⟩
      unfold HM.scan
      rw [List.take_length, h.len, if_neg (by omega)]
  | succ f ih =>
    intro M b2 out sc fin hsc h e
    unfold needR at e
    split at e
    · rename_i hlt
      have hcm : out.getD sc 0 ∈ out := getD_mem hlt
      have hoff := off_at (all := all) out sc h.kn.1 hlt
      have hce : out.getD sc 0 = out[sc] := by rw [List.getD_eq_getElem?_getD, List.getElem?_eq_getElem hlt]; rfl
      have htk : out.take (sc + 1) = out.take sc ++ [out.getD sc 0] := by rw [List.take_add_one, List.getElem?_eq_getElem hlt, hce]; rfl
      have hnot : out.getD sc 0 ∉ out.take sc := by
        intro hm
        have hnd := h.kn.1
        rw [← List.take_append_drop sc out, List.nodup_append] at hnd
        exact hnd.2.2 _ hm _ (by rw [List.drop_eq_getElem_cons hlt, ← hce]; simp) rfl
      generalize out.getD sc 0 = c at *
      have hcL := h.kn.2 c hcm
      have ho := h0.ok c hcL
      have k1 := ho.k1
      have k2 := ho.k2
      have hpl := h0.plen hcL
      have hhd := h.hd c hcm
      have hnc := payW_len wd (objAt all c)
      rw [hoff] at hhd
      have hhd2 : M.oth.getD (liveR all (out.take sc)) 0 = (objAt all c).tag.toNat * 65536 + (payW wd (objAt all c)).length * 8 + (objAt all c).kind.toNat := by
        simpa [blkW] using hhd
      have hps0 : psOf all out sc c = 0 := if_neg hnot
      have hstep : ∃ M1 b1, (if M.oth.getD (liveR all (out.take sc)) 0 % 8 = 4 then some (M, b2) else M.scanI b2 (liveR all (out.take sc) + 1) (M.oth.getD (liveR all (out.take sc)) 0 / 8 % 8192)) = some (M1, b1) ∧
          Mid M0 M1 all L wd b1 (addsR out (objAt all c).parts) (psOf all (addsR out (objAt all c).parts) (sc + 1)) := by
        have hpre := addsR_pre (objAt all c).parts out
        have hpsn : (fun j => if j = c then (objAt all c).parts.length else psOf all out sc j) = psOf all (addsR out (objAt all c).parts) (sc + 1) := by
          funext j
          unfold psOf
          have ht2 : (addsR out (objAt all c).parts).take (sc + 1) = out.take sc ++ [c] := by
            obtain ⟨t, ht⟩ := hpre
            rw [← ht, List.take_append_of_le_length (by omega), htk]
          rw [ht2]
          by_cases e : j = c
          · subst e; simp
          · simp [e]
        by_cases h4 : (objAt all c).kind = 4
        · rw [if_pos (by rw [hhd2]; omega)]
          refine ⟨M, b2, rfl, ?_⟩
          rw [← hpsn, (ho.x4 h4).1]
          have : (fun j => if j = c then ([] : List Rf).length else psOf all out sc j) = psOf all out sc := by
            funext j
            split
            · rename_i e; subst e; rw [hps0]; rfl
            · rfl
          rw [this]
          exact h
        · rw [if_neg (by rw [hhd2]; omega)]
          have hpw : (payW wd (objAt all c)).length = (objAt all c).parts.length := by unfold payW; rw [if_neg h4]; simp
          have hn8 : M.oth.getD (liveR all (out.take sc)) 0 / 8 % 8192 = (objAt all c).parts.length := by rw [hhd2]; omega
          obtain ⟨M1, b1, e1, h1⟩ := Mid.scanI h0 h4 (h0.cl c hcL) (objAt all c).parts.length 0 h hcm hps0 (by omega)
          rw [hoff] at e1
          rw [hn8]
          refine ⟨M1, b1, e1, ?_⟩
          rw [← hpsn]
          exact h1
      obtain ⟨M1, b1, e1, h1⟩ := hstep
      have hpre := addsR_pre (objAt all c).parts out
      have hlen2 := hpre.length_le
      obtain ⟨M2, b3, e2, h2⟩ := ih (sc + 1) fin (by omega) h1 e
      have ht2 : (addsR out (objAt all c).parts).take (sc + 1) = out.take sc ++ [c] := by
        obtain ⟨t, ht⟩ := hpre
        rw [← ht, List.take_append_of_le_length (by omega), htk]
      rw [ht2, live_app, live_one] at e2
      refine ⟨M2, b3, ?_, h2⟩
      unfold HM.scan
      rw [if_pos (by rw [h.len]; exact hlive out sc hlt), e1]
      dsimp only
      have hn8 : M.oth.getD (liveR all (out.take sc)) 0 / 8 % 8192 = (payW wd (objAt all c)).length := by rw [hhd2]; omega
      rw [hn8, show liveR all (out.take sc) + 1 + (payW wd (objAt all c)).length = liveR all (out.take sc) + needO (objAt all c) by omega]
      exact e2
    · rename_i hlt
      cases e
      obtain rfl : sc = out.length := by omega
      refine ⟨M, b2, ?_, h⟩
      unfold HM.scan
      rw [List.take_length, h.len, if_neg (by omega)]
end

/-- A collection. -/
theorem Sim.collect {M : HM} {all : List ObjM} {L : List Int} {wd : Int → Nat} (h : Sim M all L wd) {rs : List Rf} (hr : ∀ r ∈ rs, ClR L r) {f : Nat} {fin : List Int} (e : neededR all rs f = some fin) (hf : L.length ≤ f) :
    ∃ M', M.collect (rs.map (encR wd)) f = some (M', rs.map (encR (wd2 all fin))) ∧ Sim M' all fin (wd2 all fin) ∧ (∀ r ∈ rs, ClR fin r) ∧ M'.size = M.size := by
  have hs : M.empty2.size = M.size := rfl
  have hm0 : Mid M M.empty2 all L wd (List.replicate M.size false) [] (psOf all [] 0) := by
    refine ⟨⟨by simp, by simp⟩, rfl, rfl, rfl, fun i hi _ p hp => h.lay i hi p hp, by simp, by simp [HM.empty2, liveR], by simp, ?_, by simp, by simp, by simp, by simp, fun i _ => by simp [psOf]⟩
    intro a ha
    rw [List.getElem?_replicate] at ha
    split at ha <;> simp at ha
  obtain ⟨M1, b1, e1, h1⟩ := Mid.mvs h hm0 hr
  have hk : KnownR L (addsR [] rs) := KnownR.adds rs ⟨by simp, by simp⟩ hr
  have h1' : Mid M M1 all L wd b1 (addsR [] rs) (psOf all (addsR [] rs) 0) := by
    have : psOf all [] 0 = psOf all (addsR [] rs) 0 := by funext j; simp [psOf]
    rw [← this]; exact h1
  obtain ⟨M2, b3, e2, h2⟩ := Mid.scan h f 0 fin (Nat.zero_le _) h1' e
  obtain ⟨fin', e3, hk2, hpre, hcl⟩ := needR_some h.cl f (addsR [] rs) 0 hk (by omega)
  rw [show needR all (addsR [] rs) 0 f = some fin from e] at e3
  obtain rfl : fin = fin' := Option.some.inj e3
  have hrc : ∀ r ∈ rs, ClR (addsR [] rs) r := fun r hr2 => ⟨(hr r hr2).1, fun hb => addsR_mem rs [] r hr2 hb⟩
  refine ⟨M2.swap b3, ?_, ?_, fun r hr2 => (hrc r hr2).pre hpre, h2.size⟩
  · unfold HM.collect
    rw [e1]
    dsimp only
    have hz : liveR all ((addsR [] rs).take 0) = 0 := by simp [liveR]
    rw [hz] at e2
    rw [e2]
    dsimp only
    congr 2
    exact List.map_congr_left (fun r hr2 => (enc_pre (hrc r hr2) hpre).symm)
  · have hoff2 : ∀ i, wd2 all fin i / 2 = offOf all fin i := fun i => by unfold wd2; omega
    have hle : liveR all fin ≤ M.size := by
      have := live_le (all := all) fin L hk2.1 hk2.2
      have := h.sum
      have := h.n
      omega
    have hfull : ∀ i ∈ fin, psOf all fin fin.length i = (objAt all i).parts.length := fun i hi => by unfold psOf; rw [List.take_length, if_pos hi]
    have hcl2 : ∀ i ∈ fin, ∀ r ∈ (objAt all i).parts, ClR fin r := by
      intro i hi r hr2
      obtain ⟨j, hj, rfl⟩ := List.getElem_of_mem hi
      refine ⟨(h.cl _ (hk2.2 _ hi) r hr2).1, fun hb => hcl j (Nat.zero_le _) hj r ?_ hb⟩
      rw [List.getD_eq_getElem?_getD, List.getElem?_eq_getElem hj]
      exact hr2
    refine ⟨hk2.1, fun i hi => h.rng i (hk2.2 i hi), fun i hi => h.ok i (hk2.2 i hi), hcl2, ?_, ?_, ?_, ?_, ?_, h2.len, ?_, ?_, ?_⟩
    · intro i hi
      have h5 := off_fits (all := all) hi
      have h6 := need_pos (objAt all i)
      unfold HM.at
      rw [if_neg (by unfold wd2; omega), hoff2, if_neg (by
        show ¬ M2.oth.length ≤ offOf all fin i
        rw [h2.len]; omega), if_pos (show (M2.swap b3).beg[offOf all fin i]? = some true from h2.bi i hi)]
      rfl
    · intro a ha
      exact h2.bt a ha
    · intro i hi
      rw [hoff2]
      show _ ≤ M2.oth.length
      rw [h2.len]
      exact off_fits hi
    · intro i hi p hp
      rw [hoff2]
      show M2.oth.getD (offOf all fin i + p) 0 = _
      have hpw := payW_len2 wd (wd2 all fin) (objAt all i)
      have hpn := payW_len wd (objAt all i)
      cases p with
      | zero =>
        rw [Nat.add_zero, h2.hd i hi]
        unfold blkW
        rw [hpw]
        simp
      | succ p =>
        rw [show offOf all fin i + (p + 1) = offOf all fin i + 1 + p by omega, h2.pay i hi p (by omega), hfull i hi]
        have hbl : (blkW (wd2 all fin) (objAt all i)).getD (p + 1) 0 = (payW (wd2 all fin) (objAt all i)).getD p 0 := by simp [blkW]
        rw [hbl]
        by_cases h4 : (objAt all i).kind = 4
        · have hpp : payW wd (objAt all i) = payW (wd2 all fin) (objAt all i) := by unfold payW; rw [if_pos h4, if_pos h4]
          rw [hpp]
          split <;> rfl
        · have : (payW wd (objAt all i)).length = (objAt all i).parts.length := by unfold payW; rw [if_neg h4]; simp
          rw [if_pos (by omega)]
    · intro i hi j hj hne
      rw [hoff2, hoff2]
      exact off_dis hne hi hj
    · show b3.length = M2.size
      rw [h2.bl, h2.size]
    · show M2.oth.length ≤ M2.size
      rw [h2.len, h2.size]
      exact hle
    · show M2.size ≤ 500
      rw [h2.size]
      exact h.s
end Go.Proofs.Ytlgkgglecgdkgaa
