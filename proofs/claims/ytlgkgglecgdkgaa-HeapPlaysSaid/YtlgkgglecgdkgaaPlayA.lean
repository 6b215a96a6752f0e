/-
  The document's heap, told by plain lists; that a heap that is like it has the same shape.
-/
import Derived.Test.YtlgkgglecgdkgaaReadsL
namespace Go.Proofs.Ytlgkgglecgdkgaa
open Go.RowKit

abbrev Rf := Bool × Int
structure ObjM where
  kind : Int
  tag : Int
  text : ByteArray
  parts : List Rf

def needO (o : ObjM) : Nat := if o.kind = 4 then (o.text.size + 7) / 8 + 1 else o.parts.length + 1
def objAt (all : List ObjM) (i : Int) : ObjM := all.getD i.toNat ⟨0, 0, ByteArray.empty, []⟩
def addR (out : List Int) (r : Rf) : List Int := if r.1 then out else if r.2 ∈ out then out else out ++ [r.2]
def addsR (out : List Int) (rs : List Rf) : List Int := rs.foldl addR out
def needR (all : List ObjM) (out : List Int) (k : Nat) : Nat → Option (List Int)
  | 0 => if k < out.length then none else some out
  | f + 1 => if k < out.length then needR all (addsR out (objAt all (out.getD k 0)).parts) (k + 1) f else some out
def neededR (all : List ObjM) (roots : List Rf) (f : Nat) : Option (List Int) := needR all (addsR [] roots) 0 f
def inL (l : List Int) (n : Int) : Int := match l.idxOf? n with | some i => (i : Int) | none => -1
def refR (l : List Int) (r : Rf) : Rf := if r.1 then r else (r.1, inL l r.2)
def cellR (all : List ObjM) (l : List Int) (i : Int) : ObjM := ⟨(objAt all i).kind, (objAt all i).tag, (objAt all i).text, (objAt all i).parts.map (refR l)⟩
def liveR (all : List ObjM) (l : List Int) : Nat := (l.map fun i => needO (objAt all i)).sum

/-- A reference as a word. -/
def encR (wd : Int → Nat) (r : Rf) : Nat := if r.1 then numW r.2 else wd r.2
/-- A reference to what there is. -/
def ClR (L : List Int) (r : Rf) : Prop := (r.1 = true → isNumV (numW r.2) = r.2) ∧ (r.1 = false → r.2 ∈ L)
structure OkO (o : ObjM) : Prop where
  k1 : 1 ≤ o.kind
  k2 : o.kind ≤ 4
  t0 : 0 ≤ o.tag
  t1 : o.tag ≤ 1048576
  x4 : o.kind = 4 → o.parts = [] ∧ o.tag = o.text.size ∧ o.text.size ≤ 200
  x0 : o.kind ≠ 4 → o.text = ByteArray.empty
  pl : o.parts.length ≤ 20
def payW (wd : Int → Nat) (o : ObjM) : List Nat := if o.kind = 4 then tws o.text.data.toList o.text.size else o.parts.map (encR wd)
def blkW (wd : Int → Nat) (o : ObjM) : List Nat := (o.tag.toNat * 65536 + (payW wd o).length * 8 + o.kind.toNat) :: payW wd o

theorem payW_len (wd : Int → Nat) (o : ObjM) : (payW wd o).length + 1 = needO o := by
  unfold payW needO
  split
  · rw [tws_len]; simp
  · simp

theorem need_pos (o : ObjM) : 1 ≤ needO o := by unfold needO; split <;> omega
/-- The heap's blocks, at the places that wd tells, are the things L. -/
structure Sim (M : HM) (all : List ObjM) (L : List Int) (wd : Int → Nat) : Prop where
  nd : L.Nodup
  rng : ∀ i ∈ L, 0 ≤ i ∧ i < all.length
  ok : ∀ i ∈ L, OkO (objAt all i)
  cl : ∀ i ∈ L, ∀ r ∈ (objAt all i).parts, ClR L r
  at_ : ∀ i ∈ L, (M.at (wd i)).isSome = true
  beg : ∀ a, M.beg[a]? = some true → ∃ i ∈ L, wd i = 2 * a
  fits : ∀ i ∈ L, wd i / 2 + needO (objAt all i) ≤ M.now.length
  lay : ∀ i ∈ L, ∀ p, p < needO (objAt all i) → M.now.getD (wd i / 2 + p) 0 = (blkW wd (objAt all i)).getD p 0
  dis : ∀ i ∈ L, ∀ j ∈ L, i ≠ j → wd i / 2 + needO (objAt all i) ≤ wd j / 2 ∨ wd j / 2 + needO (objAt all j) ≤ wd i / 2
  sum : M.now.length = liveR all L
  b : M.beg.length = M.size
  n : M.now.length ≤ M.size
  s : M.size ≤ 500

section
variable {M : HM} {all : List ObjM} {L : List Int} {wd : Int → Nat} (h : Sim M all L wd)
include h
theorem Sim.even {i : Int} (hi : i ∈ L) : wd i % 2 = 0 := (HM.at_isSome (h.at_ i hi)).2.1
theorem Sim.inj {i j : Int} (hi : i ∈ L) (hj : j ∈ L) (e : wd i = wd j) : i = j := by
  rcases Int.decEq i j with hne | he
  · have h1 := need_pos (objAt all i)
    have h2 := need_pos (objAt all j)
    rcases h.dis i hi j hj hne with h3 | h3
    · rw [e] at h3; omega
    · rw [e] at h3; omega
  · exact he
theorem Sim.lt {i : Int} (hi : i ∈ L) : wd i < 1000 := by
  have := (HM.at_isSome (h.at_ i hi)).2.2.1
  have := h.n
  have := h.s
  have := h.even hi
  omega
theorem Sim.head {i : Int} (hi : i ∈ L) : M.now.getD (wd i / 2) 0 = (objAt all i).tag.toNat * 65536 + (payW wd (objAt all i)).length * 8 + (objAt all i).kind.toNat := by
  have := h.lay i hi 0 (need_pos _)
  simpa [blkW] using this
theorem Sim.pay {i : Int} (hi : i ∈ L) {p : Nat} (hp : p < (payW wd (objAt all i)).length) : M.now.getD (wd i / 2 + 1 + p) 0 = (payW wd (objAt all i)).getD p 0 := by
  have := h.lay i hi (p + 1) (by rw [← payW_len wd]; omega)
  rw [show wd i / 2 + 1 + p = wd i / 2 + (p + 1) by omega, this]
  simp [blkW]
theorem Sim.plen {i : Int} (hi : i ∈ L) : (payW wd (objAt all i)).length ≤ 25 := by
  have ho := h.ok i hi
  unfold payW
  split
  · rename_i h4
    have := (ho.x4 h4).2.2
    rw [tws_len]
    simp
    omega
  · have := ho.pl
    simp
    omega
theorem Sim.bk {i : Int} (hi : i ∈ L) : (M.bk (wd i) : Int) = (objAt all i).kind := by
  have ho := h.ok i hi
  have h1 := ho.k1
  have h2 := ho.k2
  unfold HM.bk
  rw [if_pos (h.at_ i hi), h.head hi]
  omega
theorem Sim.bt {i : Int} (hi : i ∈ L) : (M.bt (wd i) : Int) = (objAt all i).tag := by
  have ho := h.ok i hi
  have h1 := ho.k1
  have h2 := ho.k2
  have h3 := ho.t0
  have h4 := h.plen hi
  unfold HM.bt
  rw [if_pos (h.at_ i hi), h.head hi]
  omega
theorem Sim.bn {i : Int} (hi : i ∈ L) : M.bn (wd i) = (objAt all i).parts.length := by
  have ho := h.ok i hi
  have h1 := ho.k1
  have h2 := ho.k2
  have h4 := h.plen hi
  unfold HM.bn
  rw [if_pos (h.at_ i hi), h.head hi]
  split
  · rename_i h5
    have : (objAt all i).kind = 4 := by omega
    rw [(ho.x4 this).1]
    rfl
  · rename_i h5
    have h6 : (objAt all i).kind ≠ 4 := by omega
    have h7 : (payW wd (objAt all i)).length = (objAt all i).parts.length := by unfold payW; rw [if_neg h6]; simp
    rw [h7] at h4 ⊢
    omega
theorem Sim.parts {i : Int} (hi : i ∈ L) : M.parts (wd i) = (objAt all i).parts.map (encR wd) := by
  have ho := h.ok i hi
  apply List.ext_getElem?
  intro p
  unfold HM.parts
  rw [h.bn hi, List.getElem?_map, List.getElem?_map]
  by_cases hp : p < (objAt all i).parts.length
  · have h4 : (objAt all i).kind ≠ 4 := by
      intro h4
      rw [(ho.x4 h4).1] at hp
      simp at hp
    have hpay : payW wd (objAt all i) = (objAt all i).parts.map (encR wd) := by unfold payW; rw [if_neg h4]
    have h5 := h.pay hi (p := p) (by rw [hpay]; simpa using hp)
    rw [List.getElem?_range hp, List.getElem?_eq_getElem hp]
    simp only [Option.map_some]
    rw [h5, hpay]
    simp [hp]
  · rw [List.getElem?_eq_none (by simpa using hp), List.getElem?_eq_none (by omega)]
    rfl
theorem Sim.vals {r : Rf} (hr : ClR L r) : M.value (encR wd r) = true := by
  unfold encR HM.value
  split
  · simp [numW_odd]
  · rename_i h1
    rw [h.at_ _ (hr.2 (by simpa using h1))]
    rfl
theorem Sim.enc_lt {r : Rf} (hr : ClR L r) : encR wd r < 18446744073709551616 := by
  unfold encR
  split
  · exact numW_lt _
  · rename_i h1
    have := h.lt (hr.2 (by simpa using h1))
    omega
end

theorem idx_map {wd : Int → Nat} {x : Int} : ∀ (out : List Int), (∀ y ∈ out, wd y = wd x → y = x) → (out.map wd).idxOf? (wd x) = out.idxOf? x := by
  intro out
  induction out with
  | nil => intro _; rfl
  | cons y out ih =>
    intro h
    simp only [List.idxOf?, List.map_cons, List.findIdx?_cons] at *
    have h1 := ih (fun z hz => h z (by simp [hz]))
    by_cases e : y = x
    · subst e; simp
    · have e2 : ¬ wd y = wd x := fun e2 => e (h y (by simp) e2)
      simp only [beq_iff_eq, e, e2, h1]
theorem idx_mem {l : List Int} {x : Int} (h : x ∈ l) : ∃ i, l.idxOf? x = some i := by
  cases e : l.idxOf? x with
  | some i => exact ⟨i, rfl⟩
  | none =>
    simp only [List.idxOf?, List.findIdx?_eq_none_iff] at e
    have := e x h
    simp at this
theorem idx_not {l : List Int} {x : Int} (h : x ∉ l) : l.idxOf? x = none := by
  simp only [List.idxOf?, List.findIdx?_eq_none_iff]
  intro y hy
  simp only [beq_eq_false_iff_ne]
  exact fun e => h (e ▸ hy)
theorem inL_pre {l t : List Int} {x : Int} (h : x ∈ l) : inL (l ++ t) x = inL l x := by
  obtain ⟨i, hi⟩ := idx_mem h
  unfold inL
  rw [hi]
  simp only [List.idxOf?] at *
  rw [List.findIdx?_append, hi]
  rfl
theorem inL_prefix {l l2 : List Int} {x : Int} (hp : l <+: l2) (h : x ∈ l) : inL l2 x = inL l x := by
  obtain ⟨t, rfl⟩ := hp
  exact inL_pre h

theorem addR_pre (out : List Int) (r : Rf) : out <+: addR out r := by
  unfold addR
  split
  · exact List.prefix_refl _
  · split
    · exact List.prefix_refl _
    · exact List.prefix_append _ _
theorem addR_mem (out : List Int) (r : Rf) (h : r.1 = false) : r.2 ∈ addR out r := by
  unfold addR
  rw [if_neg (by simp [h])]
  split
  · assumption
  · simp
theorem addsR_pre (rs : List Rf) : ∀ out : List Int, out <+: addsR out rs := by
  induction rs with
  | nil => intro out; exact List.prefix_refl _
  | cons r rs ih => intro out; exact (addR_pre out r).trans (ih _)
theorem addsR_mem (rs : List Rf) : ∀ (out : List Int), ∀ r ∈ rs, r.1 = false → r.2 ∈ addsR out rs := by
  induction rs with
  | nil => intro out r hr; exact absurd hr (by simp)
  | cons r rs ih =>
    intro out q hq h
    rcases List.mem_cons.1 hq with rfl | hq
    · exact (addsR_pre rs _).subset (addR_mem out q h)
    · exact ih _ q hq h
/-- What is needed: each once, and all are among L. -/
def KnownR (L out : List Int) : Prop := out.Nodup ∧ ∀ x ∈ out, x ∈ L
theorem KnownR.add {L out : List Int} (h : KnownR L out) {r : Rf} (hr : ClR L r) : KnownR L (addR out r) := by
  unfold addR
  split
  · exact h
  · rename_i h1
    split
    · exact h
    · rename_i h2
      refine ⟨?_, fun y hy => ?_⟩
      · rw [List.nodup_append]
        exact ⟨h.1, by simp, fun a ha b hb e => by rw [List.mem_singleton] at hb; subst hb; exact h2 (e ▸ ha)⟩
      · rcases List.mem_append.1 hy with hy | hy
        · exact h.2 y hy
        · rw [List.mem_singleton] at hy
          subst hy
          exact hr.2 (by simpa using h1)
theorem KnownR.adds {L : List Int} (rs : List Rf) : ∀ {out : List Int}, KnownR L out → (∀ r ∈ rs, ClR L r) → KnownR L (addsR out rs) := by
  induction rs with
  | nil => intro out h _; exact h
  | cons r rs ih => intro out h hr; exact ih (h.add (hr r (by simp))) (fun q hq => hr q (by simp [hq]))
theorem nodup_leI : ∀ (bs U : List Int), bs.Nodup → (∀ x ∈ bs, x ∈ U) → bs.length ≤ U.length := by
  intro bs
  induction bs with
  | nil => intro U _ _; exact Nat.zero_le _
  | cons x bs ih =>
    intro U hn hs
    rw [List.nodup_cons] at hn
    have hx := hs x (by simp)
    have := ih (U.erase x) hn.2 (fun y hy => (List.mem_erase_of_ne (fun e => hn.1 (by rw [← e]; exact hy))).2 (hs y (by simp [hy])))
    rw [List.length_erase_of_mem hx] at this
    have := List.length_pos_of_mem hx
    rw [List.length_cons]
    omega
theorem getD_mem {l : List Int} {k : Nat} (h : k < l.length) : l.getD k 0 ∈ l := by
  rw [List.getD_eq_getElem?_getD, List.getElem?_eq_getElem h]
  exact List.getElem_mem h
theorem needR_some {all : List ObjM} {L : List Int} (hcl : ∀ i ∈ L, ∀ r ∈ (objAt all i).parts, ClR L r) (f : Nat) : ∀ (out : List Int) (k : Nat), KnownR L out → L.length ≤ k + f →
    ∃ fin, needR all out k f = some fin ∧ KnownR L fin ∧ out <+: fin ∧ (∀ j, k ≤ j → j < fin.length → ∀ r ∈ (objAt all (fin.getD j 0)).parts, r.1 = false → r.2 ∈ fin) := by
  induction f with
  | zero =>
    intro out k h hl
    have := nodup_leI out L h.1 h.2
    exact ⟨out, by unfold needR; rw [if_neg (by omega)], h, List.prefix_refl _, fun j h1 h2 => by omega⟩
  | succ f ih =>
    intro out k h hl
    unfold needR
    split
    · rename_i hk
      have hm := h.2 _ (getD_mem hk)
      obtain ⟨fin, e, h1, h2, h3⟩ := ih (addsR out (objAt all (out.getD k 0)).parts) (k + 1) (h.adds _ (hcl _ hm)) (by omega)
      have hp := addsR_pre (objAt all (out.getD k 0)).parts out
      refine ⟨fin, e, h1, hp.trans h2, fun j hj hjl r hr hf => ?_⟩
      rcases Nat.eq_or_lt_of_le hj with rfl | hj2
      · have e2 : fin.getD k 0 = out.getD k 0 := by
          obtain ⟨t, rfl⟩ := hp.trans h2
          simp only [List.getD_eq_getElem?_getD]
          rw [List.getElem?_append_left hk]
        rw [e2] at hr
        exact h2.subset (addsR_mem _ out r hr hf)
      · exact h3 j hj2 hjl r hr hf
    · rename_i hk
      exact ⟨out, rfl, h, List.prefix_refl _, fun j h1 h2 => by omega⟩

section
variable {M : HM} {all : List ObjM} {L : List Int} {wd : Int → Nat} (h : Sim M all L wd)
include h
theorem Sim.ref {out : List Int} (hout : ∀ x ∈ out, x ∈ L) {r : Rf} (hr : ClR L r) : M.ref (out.map wd) (encR wd r) = (refR (addR out r) r, (addR out r).map wd) := by
  obtain ⟨b, n⟩ := r
  unfold HM.ref encR refR addR
  cases b with
  | true =>
    have h1 := hr.1 rfl
    simp only [if_true]
    rw [if_pos (numW_odd n), h1]
  | false =>
    have h1 : n ∈ L := hr.2 rfl
    have h2 := h.vals hr
    unfold encR at h2
    simp only [Bool.false_eq_true, if_false] at h2 ⊢
    rw [if_neg (by have := h.even h1; omega), if_pos h2]
    rw [idx_map out (fun y hy e => h.inj (hout y hy) h1 e)]
    by_cases hm : n ∈ out
    · obtain ⟨i, hi⟩ := idx_mem hm
      rw [hi, if_pos hm]
      simp only [inL, hi]
    · rw [idx_not hm, if_neg hm]
      have : inL (out ++ [n]) n = out.length := by
        unfold inL
        have := idx_not hm
        simp only [List.idxOf?] at *
        rw [List.findIdx?_append, this]
        simp
      rw [this]
      simp
theorem Sim.refs {rs : List Rf} : ∀ {out : List Int}, (∀ x ∈ out, x ∈ L) → (∀ r ∈ rs, ClR L r) → M.refs (out.map wd) (rs.map (encR wd)) = (rs.map (refR (addsR out rs)), (addsR out rs).map wd) := by
  induction rs with
  | nil => intro out _ _; rfl
  | cons r rs ih =>
    intro out hout hr
    have hr0 := hr r (by simp)
    have hout2 : ∀ x ∈ addR out r, x ∈ L := by
      intro x hx
      unfold addR at hx
      split at hx
      · exact hout x hx
      · split at hx
        · exact hout x hx
        · rename_i h1 _
          rcases List.mem_append.1 hx with hx | hx
          · exact hout x hx
          · rw [List.mem_singleton] at hx
            subst hx
            exact hr0.2 (by simpa using h1)
    simp only [List.map_cons, HM.refs]
    rw [h.ref hout hr0, ih hout2 (fun q hq => hr q (by simp [hq]))]
    simp only [addsR, List.foldl_cons]
    congr 2
    unfold refR
    cases hb : r.1 with
    | true => rfl
    | false =>
      simp only [Bool.false_eq_true, if_false]
      rw [show List.foldl addR (addR out r) rs = addsR (addR out r) rs from rfl, inL_prefix (addsR_pre rs (addR out r)) (addR_mem out r hb)]
end

theorem tws_get (bs : List UInt8) (k : Nat) : k ≤ bs.length → ∀ i, i < k → (tws bs k).getD (i / 8) 0 / 256 ^ (i % 8) % 256 = (bs.getD i 0).toNat := by
  induction k with
  | zero => intro _ i hi; omega
  | succ k ih =>
    intro hk i hi
    have hV := tws_lt bs k (k / 8)
    have hmin : min 8 (k - 8 * (k / 8)) = k % 8 := by omega
    rw [hmin] at hV
    simp only [tws]
    rw [getD_set]
    have hlen := tws_len bs k
    generalize hVe : (tws bs k).getD (k / 8) 0 = V at *
    have hb : (bs.getD k 0).toNat < 256 := UInt8.toNat_lt _
    rcases Nat.lt_or_ge i k with hlt | hge
    · by_cases h8 : k / 8 = i / 8
      · rw [if_pos ⟨h8, by omega⟩, ← ih (by omega) i hlt, ← h8, hVe]
        generalize (bs.getD k 0).toNat = b at *
        have hj : i % 8 < k % 8 := by omega
        obtain ⟨d, hd⟩ : ∃ d, k % 8 = i % 8 + (d + 1) := ⟨k % 8 - i % 8 - 1, by omega⟩
        rw [hd, Nat.pow_add, Nat.pow_succ]
        rw [show b * (256 ^ (i % 8) * (256 ^ d * 256)) = 256 ^ (i % 8) * (b * 256 ^ d * 256) by rw [← Nat.mul_assoc, Nat.mul_comm b, Nat.mul_assoc, ← Nat.mul_assoc b]]
        rw [Nat.add_mul_div_left _ _ (Nat.pow_pos (by omega)), Nat.add_mul_mod_self_right]
      · rw [if_neg (fun h => h8 h.1)]
        exact ih (by omega) i hlt
    · obtain rfl : i = k := by omega
      rw [if_pos ⟨rfl, by omega⟩, Nat.add_mul_div_right _ _ (Nat.pow_pos (by omega)), Nat.div_eq_of_lt hV, Nat.zero_add, Nat.mod_eq_of_lt hb]
theorem text_of_tws (now : List Nat) (a : Nat) (s : ByteArray) (h : ∀ p, p < (s.size + 7) / 8 → now.getD (a + 1 + p) 0 = (tws s.data.toList s.size).getD p 0) : ByteArray.mk (textBytes now a s.size).toArray = s := by
  have hl : textBytes now a s.size = s.data.toList := by
    apply List.ext_getElem
    · rw [textBytes_len]; simp
    · intro i h1 h2
      rw [textBytes_len] at h1
      have h0 : (textBytes now a s.size)[i] = UInt8.ofNat (now.getD (a + 1 + i / 8) 0 / 256 ^ (i % 8)) := by simp [textBytes]
      rw [h0, h (i / 8) (by omega)]
      have h3 := tws_get s.data.toList s.size (by simp) i h1
      apply UInt8.toNat_inj.1
      rw [UInt8.toNat_ofNat', show 2 ^ 8 = 256 from rfl, h3, List.getD_eq_getElem?_getD, List.getElem?_eq_getElem h2]
      rfl
  rw [hl]

section
variable {M : HM} {all : List ObjM} {L : List Int} {wd : Int → Nat} (h : Sim M all L wd)
include h
theorem Sim.text {i : Int} (hi : i ∈ L) : ByteArray.mk (M.text (wd i)).toArray = (objAt all i).text := by
  have ho := h.ok i hi
  have hk := h.bk hi
  have ht := h.bt hi
  by_cases h4 : (objAt all i).kind = 4
  · obtain ⟨_, x1, _⟩ := ho.x4 h4
    have e1 : M.bk (wd i) = 4 := by omega
    have e2 : M.bt (wd i) = (objAt all i).text.size := by omega
    unfold HM.text
    rw [if_pos ⟨h.at_ i hi, e1⟩, e2]
    refine text_of_tws _ _ _ (fun p hp => ?_)
    have hpay : payW wd (objAt all i) = tws (objAt all i).text.data.toList (objAt all i).text.size := by unfold payW; rw [if_pos h4]
    rw [h.pay hi (by rw [hpay, tws_len]; simpa using hp), hpay]
  · have e1 : ¬ ((M.at (wd i)).isSome = true ∧ M.bk (wd i) = 4) := fun e => h4 (by omega)
    unfold HM.text
    rw [if_neg e1, ho.x0 h4]
    rfl
end
/-- A cell, as a thing. -/
def CellM.obj (c : CellM) : ObjM := ⟨c.kind, c.tag, ⟨c.text.toArray⟩, c.parts⟩

theorem needR_pre {all : List ObjM} (f : Nat) : ∀ (out : List Int) (k : Nat) (fin : List Int), needR all out k f = some fin → out <+: fin := by
  induction f with
  | zero =>
    intro out k fin e
    unfold needR at e
    split at e
    · cases e
    · cases e; exact List.prefix_refl _
  | succ f ih =>
    intro out k fin e
    unfold needR at e
    split at e
    · exact (addsR_pre _ out).trans (ih _ _ _ e)
    · cases e; exact List.prefix_refl _
theorem pre_getD {l l2 : List Int} (h : l <+: l2) {k : Nat} (hk : k < l.length) : l2.getD k 0 = l.getD k 0 := by
  obtain ⟨t, rfl⟩ := h
  simp only [List.getD_eq_getElem?_getD]
  rw [List.getElem?_append_left hk]
theorem refs_pre {l l2 : List Int} (hp : l <+: l2) (rs : List Rf) (h : ∀ r ∈ rs, r.1 = false → r.2 ∈ l) : rs.map (refR l) = rs.map (refR l2) := by
  refine List.map_congr_left (fun r hr => ?_)
  unfold refR
  cases hb : r.1 with
  | true => rfl
  | false =>
    simp only [Bool.false_eq_true, if_false]
    rw [inL_prefix hp (h r hr hb)]

section
variable {M : HM} {all : List ObjM} {L : List Int} {wd : Int → Nat} (h : Sim M all L wd)
include h
theorem Sim.cells (f : Nat) : ∀ (out : List Int) (k : Nat) (fin : List Int), KnownR L out → needR all out k f = some fin →
    ∃ cs, M.cells (out.map wd) k f = some (cs, fin.map wd) ∧ cs.map CellM.obj = (fin.drop k).map (cellR all fin) := by
  induction f with
  | zero =>
    intro out k fin hk e
    unfold needR at e
    split at e
    · cases e
    · rename_i hlt
      cases e
      refine ⟨[], ?_, ?_⟩
      · unfold HM.cells
        rw [if_neg (by simpa using hlt)]
      · rw [List.drop_eq_nil_of_le (by omega)]; rfl
  | succ f ih =>
    intro out k fin hk e
    unfold needR at e
    split at e
    · rename_i hlt
      have hm := hk.2 _ (getD_mem hlt)
      have hkn := hk.adds (objAt all (out.getD k 0)).parts (h.cl _ hm)
      obtain ⟨cs, e1, e2⟩ := ih _ _ _ hkn e
      have hpre := needR_pre f _ _ _ e
      have hpre0 := (addsR_pre (objAt all (out.getD k 0)).parts out).trans hpre
      have hg := pre_getD hpre0 hlt
      have hkl : k < fin.length := Nat.lt_of_lt_of_le hlt hpre0.length_le
      have hx : (out.map wd).getD k 0 = wd (out.getD k 0) := by
        simp only [List.getD_eq_getElem?_getD, List.getElem?_map, List.getElem?_eq_getElem hlt]
        rfl
      have hcell : M.cell (out.map wd) (wd (out.getD k 0)) = (⟨M.bk (wd (out.getD k 0)), M.bt (wd (out.getD k 0)), M.text (wd (out.getD k 0)), (objAt all (out.getD k 0)).parts.map (refR (addsR out (objAt all (out.getD k 0)).parts))⟩, (addsR out (objAt all (out.getD k 0)).parts).map wd) := by
        unfold HM.cell
        rw [h.parts hm, h.refs hk.2 (h.cl _ hm)]
      refine ⟨⟨M.bk (wd (out.getD k 0)), M.bt (wd (out.getD k 0)), M.text (wd (out.getD k 0)), (objAt all (out.getD k 0)).parts.map (refR (addsR out (objAt all (out.getD k 0)).parts))⟩ :: cs, ?_, ?_⟩
      · unfold HM.cells
        rw [if_pos (by simpa using hlt), hx, hcell]
        dsimp only
        rw [e1]
      · rw [List.drop_eq_getElem_cons hkl, List.map_cons, List.map_cons, e2]
        congr 1
        have hg2 : fin[k] = out.getD k 0 := by
          rw [← hg, List.getD_eq_getElem?_getD, List.getElem?_eq_getElem hkl]
          rfl
        rw [hg2]
        unfold CellM.obj cellR
        rw [h.bk hm, h.bt hm, h.text hm, refs_pre hpre _ (fun r hr hb => addsR_mem _ out r hr hb)]
    · rename_i hlt
      cases e
      refine ⟨[], ?_, ?_⟩
      · unfold HM.cells
        rw [if_neg (by simpa using hlt)]
      · rw [List.drop_eq_nil_of_le (by omega)]; rfl
theorem Sim.wf : M.Wf := by
  intro x hx
  obtain ⟨_, h2, h3, h4⟩ := HM.at_isSome hx
  obtain ⟨i, hi, e⟩ := h.beg _ h4
  obtain rfl : x = wd i := by omega
  have h5 := h.fits i hi
  have h6 := payW_len wd (objAt all i)
  have h7 := h.bn hi
  have ho := h.ok i hi
  refine ⟨?_, fun hk => ?_⟩
  · rw [h7]
    by_cases h4 : (objAt all i).kind = 4
    · rw [(ho.x4 h4).1]
      have := need_pos (objAt all i)
      simp
      omega
    · have : needO (objAt all i) = (objAt all i).parts.length + 1 := by unfold needO; rw [if_neg h4]
      omega
  · have hk2 := h.bk hi
    have h4 : (objAt all i).kind = 4 := by omega
    have ht := h.bt hi
    obtain ⟨_, x1, x2⟩ := ho.x4 h4
    have : needO (objAt all i) = ((objAt all i).text.size + 7) / 8 + 1 := by unfold needO; rw [if_pos h4]
    have e2 : M.bt (wd i) = (objAt all i).text.size := by omega
    rw [e2]
    omega
/-- The same shape. -/
theorem Sim.shape {rs : List Rf} (hr : ∀ r ∈ rs, ClR L r) {f : Nat} {fin : List Int} (e : neededR all rs f = some fin) :
    ∃ cs, M.shape (rs.map (encR wd)) f = some (rs.map (refR fin), cs, fin.map wd) ∧ cs.map CellM.obj = fin.map (cellR all fin) := by
  have hk : KnownR L (addsR [] rs) := KnownR.adds rs ⟨by simp, by simp⟩ hr
  obtain ⟨cs, e1, e2⟩ := h.cells f _ 0 fin hk e
  refine ⟨cs, ?_, by simpa using e2⟩
  have h1 := h.refs (out := []) (by simp) hr
  unfold HM.shape
  rw [List.map_nil] at h1
  rw [h1]
  dsimp only
  rw [e1, refs_pre (needR_pre f _ _ _ e) rs (fun r hr hb => addsR_mem rs [] r hr hb)]
end
end Go.Proofs.Ytlgkgglecgdkgaa
