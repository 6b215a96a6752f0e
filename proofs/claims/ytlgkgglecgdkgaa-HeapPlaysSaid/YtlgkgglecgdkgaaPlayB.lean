/-
  A block more, and a part set: the heap stays like the document's.
-/
import Derived.Test.YtlgkgglecgdkgaaPlayA
namespace Go.Proofs.Ytlgkgglecgdkgaa
open Go.RowKit

theorem payW_congr {wd wd' : Int → Nat} {o : ObjM} (h : ∀ r ∈ o.parts, r.1 = false → wd' r.2 = wd r.2) : payW wd' o = payW wd o := by
  unfold payW
  split
  · rfl
  · refine List.map_congr_left (fun r hr => ?_)
    unfold encR
    cases hb : r.1 with
    | true => rfl
    | false => simp [h r hr hb]
theorem blkW_congr {wd wd' : Int → Nat} {o : ObjM} (h : ∀ r ∈ o.parts, r.1 = false → wd' r.2 = wd r.2) : blkW wd' o = blkW wd o := by
  unfold blkW
  rw [payW_congr h]
theorem objAt_old {all : List ObjM} {o : ObjM} {i : Int} (h : 0 ≤ i ∧ i < all.length) : objAt (all ++ [o]) i = objAt all i := by
  unfold objAt
  simp only [List.getD_eq_getElem?_getD]
  rw [List.getElem?_append_left (by omega)]
theorem objAt_new {all : List ObjM} {o : ObjM} : objAt (all ++ [o]) (all.length : Int) = o := by
  unfold objAt
  simp
theorem ClR.more {L : List Int} {r : Rf} (h : ClR L r) (x : Int) : ClR (L ++ [x]) r := ⟨h.1, fun hb => List.mem_append_left _ (h.2 hb)⟩
def wdPut (wd : Int → Nat) (n : Nat) (a : Nat) : Int → Nat := fun j => if j = (n : Int) then 2 * a else wd j
theorem wdPut_old {all : List ObjM} {wd : Int → Nat} {a : Nat} {i : Int} (h : 0 ≤ i ∧ i < all.length) : wdPut wd all.length a i = wd i := by
  unfold wdPut
  rw [if_neg (by omega)]
theorem wdPut_new {wd : Int → Nat} {n a : Nat} : wdPut wd n a (n : Int) = 2 * a := if_pos rfl

section
variable {M : HM} {all : List ObjM} {L : List Int} {wd : Int → Nat} (h : Sim M all L wd)
include h
theorem Sim.put {o : ObjM} (ho : OkO o) (hc : ∀ r ∈ o.parts, ClR L r) (hroom : M.now.length + needO o ≤ M.size) :
    Sim (M.put (o.tag.toNat * 65536 + (payW wd o).length * 8 + o.kind.toNat) (payW wd o)) (all ++ [o]) (L ++ [(all.length : Int)]) (wdPut wd all.length M.now.length) ∧
      ∀ r, ClR L r → encR (wdPut wd all.length M.now.length) r = encR wd r := by
  have hold : ∀ j ∈ L, wdPut wd all.length M.now.length j = wd j := fun j hj => wdPut_old (h.rng j hj)
  have henc : ∀ r, ClR L r → encR (wdPut wd all.length M.now.length) r = encR wd r := by
    intro r hr
    unfold encR
    cases hb : r.1 with
    | true => rfl
    | false => simp [hold _ (hr.2 hb)]
  refine ⟨?_, henc⟩
  have hpl := payW_len wd o
  have hblk : ∀ o', (∀ r ∈ o'.parts, ClR L r) → blkW (wdPut wd all.length M.now.length) o' = blkW wd o' := fun o' ho' => blkW_congr (fun r hr hb => hold _ ((ho' r hr).2 hb))
  generalize hf : o.tag.toNat * 65536 + (payW wd o).length * 8 + o.kind.toNat = f
  have hnl : (M.put f (payW wd o)).now.length = M.now.length + needO o := by simp [HM.put]; omega
  have hbeg : (M.put f (payW wd o)).beg = M.beg.set M.now.length true := rfl
  have hb := h.b
  have h1 := need_pos o
  have hnew : ∀ i ∈ L, i ≠ (all.length : Int) := fun i hi e => by have := h.rng i hi; omega
  have hdv : 2 * M.now.length / 2 = M.now.length := by omega
  refine ⟨?_, ?_, ?_, ?_, ?_, ?_, ?_, ?_, ?_, ?_, ?_, ?_, h.s⟩
  · rw [List.nodup_append]
    exact ⟨h.nd, by simp, fun a ha b hb e => by rw [List.mem_singleton] at hb; subst hb; exact hnew _ ha e⟩
  · intro i hi
    rw [List.length_append, List.length_singleton]
    rcases List.mem_append.1 hi with hi | hi
    · have := h.rng i hi; omega
    · rw [List.mem_singleton] at hi; omega
  · intro i hi
    rcases List.mem_append.1 hi with hi | hi
    · rw [objAt_old (h.rng i hi)]; exact h.ok i hi
    · rw [List.mem_singleton] at hi; subst hi; rw [objAt_new]; exact ho
  · intro i hi r hr
    rcases List.mem_append.1 hi with hi | hi
    · rw [objAt_old (h.rng i hi)] at hr; exact (h.cl i hi r hr).more _
    · rw [List.mem_singleton] at hi; subst hi; rw [objAt_new] at hr; exact (hc r hr).more _
  · intro i hi
    rcases List.mem_append.1 hi with hi | hi
    · rw [hold i hi]; exact put_at_old (h.at_ i hi)
    · rw [List.mem_singleton] at hi
      subst hi
      rw [wdPut_new]
      unfold HM.at
      rw [if_neg (by omega), if_neg (by rw [hnl]; omega), if_pos]
      · rfl
      · rw [hbeg, hdv, List.getElem?_set_self (by omega)]
  · intro a ha
    rw [hbeg] at ha
    rcases Nat.decEq a M.now.length with hne | rfl
    · rw [List.getElem?_set_ne (by omega)] at ha
      obtain ⟨i, hi, e⟩ := h.beg a ha
      exact ⟨i, List.mem_append_left _ hi, by rw [hold i hi]; exact e⟩
    · exact ⟨_, List.mem_append_right _ (by simp), wdPut_new⟩
  · intro i hi
    rw [hnl]
    rcases List.mem_append.1 hi with hi | hi
    · rw [hold i hi, objAt_old (h.rng i hi)]
      have := h.fits i hi
      omega
    · rw [List.mem_singleton] at hi
      subst hi
      rw [wdPut_new, objAt_new, hdv]
      exact Nat.le_refl _
  · intro i hi p hp
    rcases List.mem_append.1 hi with hi | hi
    · rw [objAt_old (h.rng i hi)] at hp ⊢
      rw [hold i hi, hblk _ (h.cl i hi), put_get_old (by have := h.fits i hi; omega)]
      exact h.lay i hi p hp
    · rw [List.mem_singleton] at hi
      subst hi
      rw [objAt_new] at hp ⊢
      rw [wdPut_new, hdv, hblk _ hc]
      unfold blkW
      rw [hf]
      cases p with
      | zero => simpa using put_get_head
      | succ p =>
        rw [show M.now.length + (p + 1) = M.now.length + 1 + p by omega, put_get_rest]
        simp
  · intro i hi j hj hne
    rcases List.mem_append.1 hi with hi | hi
    · rcases List.mem_append.1 hj with hj | hj
      · rw [hold i hi, hold j hj, objAt_old (h.rng i hi), objAt_old (h.rng j hj)]
        exact h.dis i hi j hj hne
      · rw [List.mem_singleton] at hj
        subst hj
        left
        rw [hold i hi, objAt_old (h.rng i hi), wdPut_new, hdv]
        exact h.fits i hi
    · rw [List.mem_singleton] at hi
      subst hi
      rcases List.mem_append.1 hj with hj | hj
      · right
        rw [hold j hj, objAt_old (h.rng j hj), wdPut_new, hdv]
        exact h.fits j hj
      · rw [List.mem_singleton] at hj
        exact absurd hj.symm hne
  · rw [hnl, h.sum]
    unfold liveR
    rw [List.map_append, List.sum_append]
    have : (L.map fun i => needO (objAt (all ++ [o]) i)) = L.map fun i => needO (objAt all i) := List.map_congr_left (fun i hi => by rw [objAt_old (h.rng i hi)])
    rw [this]
    simp [objAt_new]
  · rw [hbeg]; simpa [HM.put] using hb
  · rw [hnl]; exact hroom

theorem Sim.setP {i : Int} (hi : i ∈ L) (h4 : (objAt all i).kind ≠ 4) {p : Nat} (hp : p < (objAt all i).parts.length) {r : Rf} (hr : ClR L r) :
    Sim (M.set (wd i / 2 + 1 + p) (encR wd r)) (all.set i.toNat ⟨(objAt all i).kind, (objAt all i).tag, (objAt all i).text, (objAt all i).parts.set p r⟩) L wd := by
  generalize ho' : (⟨(objAt all i).kind, (objAt all i).tag, (objAt all i).text, (objAt all i).parts.set p r⟩ : ObjM) = o'
  have hrng := h.rng i hi
  have hobj : ∀ j ∈ L, objAt (all.set i.toNat o') j = if j = i then o' else objAt all j := by
    intro j hj
    have hj2 := h.rng j hj
    unfold objAt
    rw [List.getD_eq_getElem?_getD]
    by_cases e : j = i
    · subst e
      rw [if_pos rfl, List.getElem?_set_self (by omega)]
      rfl
    · rw [if_neg e, List.getElem?_set_ne (by omega), List.getD_eq_getElem?_getD]
  have hk : o'.kind = (objAt all i).kind := by rw [← ho']
  have hpp : o'.parts = (objAt all i).parts.set p r := by rw [← ho']
  have hneed : needO o' = needO (objAt all i) := by unfold needO; rw [← ho']; simp
  have hn : ∀ j ∈ L, needO (objAt (all.set i.toNat o') j) = needO (objAt all j) := by
    intro j hj
    rw [hobj j hj]
    split
    · rename_i e; rw [e, hneed]
    · rfl
  have hnl : (M.set (wd i / 2 + 1 + p) (encR wd r)).now.length = M.now.length := by simp [HM.set]
  have hni : needO (objAt all i) = (objAt all i).parts.length + 1 := by unfold needO; rw [if_neg h4]
  have hcl' : ∀ q ∈ o'.parts, ClR L q := by
    intro q hq
    rw [hpp] at hq
    rcases List.mem_or_eq_of_mem_set hq with hq | rfl
    · exact h.cl i hi q hq
    · exact hr
  have hat : ∀ x, (M.set (wd i / 2 + 1 + p) (encR wd r)).at x = M.at x := by intro x; unfold HM.at; rw [hnl]; rfl
  refine ⟨h.nd, ?_, ?_, ?_, fun j hj => by rw [hat]; exact h.at_ j hj, h.beg, ?_, ?_, ?_, ?_, h.b, by rw [hnl]; exact h.n, h.s⟩
  · intro j hj; rw [List.length_set]; exact h.rng j hj
  · intro j hj
    rw [hobj j hj]
    split
    · have hoi := h.ok i hi
      refine ⟨by rw [hk]; exact hoi.k1, by rw [hk]; exact hoi.k2, by rw [← ho']; exact hoi.t0, by rw [← ho']; exact hoi.t1, fun e => absurd (hk ▸ e) h4, fun _ => by rw [← ho']; exact hoi.x0 h4, ?_⟩
      rw [hpp, List.length_set]
      exact hoi.pl
    · exact h.ok j hj
  · intro j hj q hq
    rw [hobj j hj] at hq
    split at hq
    · exact hcl' q hq
    · exact h.cl j hj q hq
  · intro j hj; rw [hn j hj, hnl]; exact h.fits j hj
  · intro j hj q hq
    rw [hn j hj] at hq
    rw [hobj j hj]
    have hset : (M.set (wd i / 2 + 1 + p) (encR wd r)).now.getD (wd j / 2 + q) 0 = if wd i / 2 + 1 + p = wd j / 2 + q ∧ wd j / 2 + q < M.now.length then encR wd r else M.now.getD (wd j / 2 + q) 0 := getD_set _ _ _ _
    rw [hset]
    have hf := h.fits j hj
    by_cases e : j = i
    · subst e
      rw [if_pos rfl]
      have hpay : payW wd o' = (payW wd (objAt all j)).set p (encR wd r) := by
        unfold payW
        rw [hk, if_neg h4, if_neg h4, hpp, List.map_set]
      cases q with
      | zero =>
        rw [if_neg (by omega), h.lay j hj 0 hq]
        unfold blkW
        rw [hpay, hk, ← ho']
        simp
      | succ q =>
        have hb : blkW wd o' = (blkW wd (objAt all j)).set (p + 1) (encR wd r) := by
          unfold blkW
          rw [hpay, hk, ← ho']
          simp
        rw [hb, getD_set]
        have hbl : (blkW wd (objAt all j)).length = needO (objAt all j) := by unfold blkW; rw [List.length_cons, payW_len]
        by_cases hpq : p = q
        · subst hpq
          rw [if_pos ⟨by omega, by omega⟩, if_pos ⟨rfl, by omega⟩]
        · rw [if_neg (by omega), if_neg (by omega)]
          exact h.lay j hj _ hq
    · rw [if_neg e, if_neg (by
        have := h.dis i hi j hj (fun e2 => e e2.symm)
        omega)]
      exact h.lay j hj q hq
  · intro j hj k hk2 hne
    rw [hn j hj, hn k hk2]
    exact h.dis j hj k hk2 hne
  · rw [hnl, h.sum]
    unfold liveR
    congr 1
    exact List.map_congr_left (fun j hj => (hn j hj).symm)
end
end Go.Proofs.Ytlgkgglecgdkgaa
