/-
  Layer 10, the document's side: whether types are the same; whether a type is small. Layer 10, the document's side: where a constructor stands; whether declarations are few. Layer 23, the document's side: whether declarations are few, and what is short then. Layer 23: what was taken from bytes, and what the document calls few, is not too great.
-/
import Derived.Test.YtinekmjengckdaaGreatDoorA17
import Derived.Test.YtinekmjengckdaaGreatDoorA11
import Derived.Test.YtinekmjengckdaaGreatDoorA26
import Derived.Test.YtinekmjengckdaaGreatDoorA27
import Derived.Test.YtinekmjengckdaaGreatDoorA03
namespace Go.Proofs.YtinekmjengckdaaGreatDoor
open Go.RowKit
set_option maxHeartbeats 4000000
set_option maxRecDepth 100000
def sameNs : List (List Nd) → List (List Nd) → Bool
  | [], [] => true
  | a :: l, b :: m => sameN a b && sameNs l m
  | _, _ => false
theorem sameNs_iff : ∀ {l m : List (List Nd)}, sameNs l m = true ↔ l = m
  | [], [] => by simp [sameNs]
  | [], b :: m => by simp [sameNs]
  | a :: l, [] => by simp [sameNs]
  | a :: l, b :: m => by rw [sameNs, Bool.and_eq_true, sameN_iff, sameNs_iff, List.cons.injEq]
theorem sameNs_len {l m : List (List Nd)} (h : l.length ≠ m.length) : sameNs l m = false := by
  rw [← Bool.not_eq_true, sameNs_iff]
  rintro rfl
  exact h rfl
theorem sameNs_diff {l m : List (List Nd)} {k : Nat} {x y : List Nd} (hx : l[k]? = some x) (hy : m[k]? = some y) (h : sameN x y = false) : sameNs l m = false := by
  rw [← Bool.not_eq_true, sameNs_iff]
  rintro rfl
  have := hx.symm.trans hy
  injection this with this
  rw [sameN_iff.2 this] at h
  cases h
theorem sameNs_all {l m : List (List Nd)} (hl : l.length = m.length) (h : ∀ j, j < l.length → l[j]? = m[j]?) : sameNs l m = true := by
  rw [sameNs_iff]
  apply List.ext_getElem?
  intro j
  rcases Nat.lt_or_ge j l.length with hj | hj
  · exact h j hj
  · rw [List.getElem?_eq_none_iff.2 hj, List.getElem?_eq_none_iff.2 (by omega)]
theorem types_any (l m : List (List Nd)) (v1 v2 : Value) (T1 T2 : Nat → Prop) (w : World) (h1 : RdNs T1 w v1 l) (h2 : RdNs T2 w v2 m) (hn : l.length ≤ 1000000) (_hm : m.length ≤ 1000000) (hln : ∀ x ∈ l, x.length ≤ 1000000) (hmn : ∀ x ∈ m, x.length ≤ 1000000) :
    Calls Tryz.prog 83 #[v1, v2] w fun e w' => e = .returned (.bool (sameNs l m)) ∧ Chg (fun _ => False) w w' := by
  obtain ⟨A1, c1, rfl⟩ := h1.val
  obtain ⟨A2, c2, rfl⟩ := h2.val
  have H1 := hH h1
  have H2 := hH h2
  rcases Decidable.em (l.length = m.length) with hl | hl
  rotate_left
  · have HE := hH (sameNs_len hl)
    have hle : ¬ (l.length : Int) = (m.length : Int) := by omega
    generalize sameNs l m = E at *
    clear h1 h2 H1 H2
    go_enter Tryz.func83, Tryz.ntmps83
    go_wp2_with fail
    go_ret
    exact ⟨retv (boolv (uH HE).symm), Chg.refl _ _⟩
  · have HA := hH (sameNs_all hl)
    have HD := hH (fun k x y => sameNs_diff (l := l) (m := m) (k := k) (x := x) (y := y))
    generalize sameNs l m = E at *
    have HL := hH hl
    have HLN := hH hln
    have HMN := hH hmn
    have hle : (l.length : Int) = (m.length : Int) := by omega
    clear h1 h2 hl hln hmn
    go_enter Tryz.func83, Tryz.ntmps83
    go_wp2_with fail
    go_loopw [5] (fun i wr => ∃ k : Nat, i = .int .i64 (k : Int) ∧ k ≤ l.length ∧ (∀ j, j < k → l[j]? = m[j]?) ∧ Chg (fun _ => False) w wr) (fun i _ => l.length - (intOf i).toNat)
    case atStart => exact ⟨0, rfl, Nat.zero_le _, fun j h => absurd h (Nat.not_lt_zero _), Chg.refl _ _⟩
    case round =>
      obtain ⟨wq, rfl⟩ : ∃ wq : World, wq = wr := ⟨_, rfl⟩
      obtain ⟨k, rfl, hk, hall, hch⟩ := hrel
      by_cases hlt : k < l.length
      · have hki : (k : Int) < (l.length : Int) := by omega
        have hkm : (k : Int) < (m.length : Int) := by omega
        have hx : l[k]? = some l[k] := List.getElem?_eq_getElem hlt
        have hlm : k < m.length := by omega
        have hy : m[k]? = some m[k] := List.getElem?_eq_getElem hlm
        have hxn := (uH HLN) l[k] (List.getElem_mem hlt)
        have hyn := (uH HMN) m[k] (List.getElem_mem hlm)
        generalize l[k] = x at *
        generalize m[k] = y at *
        obtain ⟨b, o, c3, u, hv, _, hru, d0⟩ := ((uH H1).chg hch (fun _ _ _ => id)).at_ hx
        obtain ⟨b', o', c3', u', hv', _, hru', e0⟩ := ((uH H2).chg hch (fun _ _ _ => id)).at_ hy
        injection hv with hv1 hv2 hv3
        injection hv' with hv1' hv2' hv3'
        subst hv1 hv3 hv1' hv3'
        have HS := hH (fun W (hW : Chg (fun _ => False) wq W) => same_any x y u u' T1 T2 W (hru.chg hW (fun _ _ _ => id)) (hru'.chg hW (fun _ _ _ => id)) hxn hyn)
        obtain ⟨B, c5, rfl⟩ := hru.val
        obtain ⟨B', c5', rfl⟩ := hru'.val
        have HALL := hH hall
        have HX := hH hx
        have HY := hH hy
        have HCH := hH hch
        have KSW := hH (show ∀ W, Chg (fun _ => False) wq W → W.cell? ⟨b, o + k, none⟩ = some (.slice B x.length c5) ∧ W.cell? ⟨b', o' + k, none⟩ = some (.slice B' y.length c5') from fun W hW => ⟨(hW.cell (World.block_lt_of_cell? wq _ d0) id).trans d0, (hW.cell (World.block_lt_of_cell? wq _ e0) id).trans e0⟩)
        have HCQ : Hid (Chg (fun _ => False) wq wq.drew) := hH (Chg.drew (Chg.refl _ _))
        have HKK := hH (uH KSW _ (uH HCQ))
        clear hall hx hy hch hv2 hv2' hru hru' d0 e0
        cases hq : sameN x y
        · have HE := hH (uH HD k x y (uH HX) (uH HY) hq)
          rw [hq] at HS
          clear hq HALL HX HY
          go_wp2_with fail
          go_region_held3 (fun W => W.cell? ⟨b, o + k, none⟩ = some (.slice B x.length c5) ∧ W.cell? ⟨b', o' + k, none⟩ = some (.slice B' y.length c5')) (first | exact uH HKK | go_keep) (first
            | (go_at_call 43; (with_reducible refine (uH HS _ (uH HCQ)).mono ?_); rintro e w2 ⟨rfl, hc2⟩; have HN_ := hH ((uH HCQ).trans' hc2); clear HCQ; have HCQ := HN_; clear HN_ HKK; have HKK := hH (uH KSW _ (uH HCQ)); clear hc2))
          go_wp2_with fail
          go_ret
          exact ⟨retv (boolv (uH HE).symm), (uH HCH).trans' (uH HCQ)⟩
        · have HE := hH (sameN_iff.1 hq)
          rw [hq] at HS
          clear hq
          go_wp2_with fail
          go_region_held3 (fun W => W.cell? ⟨b, o + k, none⟩ = some (.slice B x.length c5) ∧ W.cell? ⟨b', o' + k, none⟩ = some (.slice B' y.length c5')) (first | exact uH HKK | go_keep) (first
            | (go_at_call 43; (with_reducible refine (uH HS _ (uH HCQ)).mono ?_); rintro e w2 ⟨rfl, hc2⟩; have HN_ := hH ((uH HCQ).trans' hc2); clear HCQ; have HCQ := HN_; clear HN_ HKK; have HKK := hH (uH KSW _ (uH HCQ)); clear hc2))
          go_wp2_with fail
          go_roundw
          case rel =>
            exact ⟨k + 1, by go_num, by omega, fun j hj => by
              rcases Nat.lt_or_ge j k with h | h
              · exact (uH HALL) j h
              · obtain rfl : j = k := by omega
                rw [uH HX, uH HY, uH HE], (uH HCH).trans' (uH HCQ)⟩
          case measure => simp [intOf]; omega
      · obtain rfl : k = l.length := by omega
        have hki : ¬ (l.length : Int) < (l.length : Int) := by omega
        have HF := hH (uH HA hall)
        have HCH := hH hch
        clear hall hch
        go_wp2_with fail
        go_ret
        exact ⟨retv (boolv (uH HF).symm), uH HCH⟩
end Go.Proofs.YtinekmjengckdaaGreatDoor

namespace Go.Proofs.YtinekmjengckdaaGreatDoor
open Go.RowKit
set_option maxHeartbeats 4000000
set_option maxRecDepth 100000
theorem mem_all {α : Type} {P : α → Prop} {l : List α} (h : ∀ j x, j < l.length → l[j]? = some x → P x) : ∀ x ∈ l, P x := fun x hx => by
  obtain ⟨j, hj⟩ := List.mem_iff_getElem?.1 hx
  exact h j x (List.getElem?_eq_some_iff.1 hj).1 hj
theorem upto_step {α : Type} {P : α → Prop} {l : List α} {k : Nat} {x : α} (h : ∀ j y, j < k → l[j]? = some y → P y) (hx : l[k]? = some x) (hp : P x) : ∀ j y, j < k + 1 → l[j]? = some y → P y := fun j y hj hy => by
  rcases Nat.lt_or_ge j k with h1 | h1
  · exact h j y h1 hy
  · obtain rfl : j = k := by omega
    have := hx.symm.trans hy
    injection this with this
    subst this
    exact hp
end Go.Proofs.YtinekmjengckdaaGreatDoor

namespace Go.Proofs.YtinekmjengckdaaGreatDoor
open Go.RowKit
set_option maxHeartbeats 4000000
set_option maxRecDepth 100000
end Go.Proofs.YtinekmjengckdaaGreatDoor

namespace Go.Proofs.YtinekmjengckdaaGreatDoor
def Ens {α : Type} (p : Tk α) (P : α → Prop) : Prop := ∀ s x r, p s = some (x, r) → P x
section
variable {α β : Type} {P : α → Prop} {Q : β → Prop}
theorem seqT_ens {p : Tk α} {q : α → Tk β} (hp : Ens p P) (hq : ∀ a, P a → Ens (q a) Q) : Ens (seqT p q) Q := fun s x r h => by
  obtain ⟨y, t, h1, h2⟩ := seqT_some h
  exact hq y (hp _ _ _ h1) _ _ _ h2
theorem mapT_ens {p : Tk α} {f : α → β} (hp : Ens p P) (hf : ∀ x, P x → Q (f x)) : Ens (mapT f p) Q := fun s x r h => by
  obtain ⟨y, h1, rfl⟩ := mapT_some h
  exact hf y (hp _ _ _ h1)
theorem many_ens {p : Tk α} (hp : Ens p P) : ∀ n, Ens (pMany p n) (fun l => ∀ x ∈ l, P x)
  | 0 => fun s x r h => by
    unfold pMany at h
    injection h with h
    injection h with h1 _
    subst h1
    intro y hy
    cases hy
  | n + 1 => seqT_ens hp fun a ha => mapT_ens (many_ens hp n) fun l hl x hx => by
    rcases List.mem_cons.1 hx with rfl | hx
    · exact ha
    · exact hl x hx
theorem row_ens {p : Tk α} (hp : Ens p P) : Ens (pRow p) (fun l => l.length ≤ 4000 ∧ ∀ x ∈ l, P x) := fun s x r h => by
  obtain ⟨n, t, _, h2⟩ := seqT_some h
  obtain ⟨h3, h4⟩ := manyT_some h2
  exact ⟨by rw [many_count h4]; exact h3, many_ens hp n _ _ _ h4⟩
end
theorem num_ens (m : Nat) : Ens (pNum m) (fun n => n < 256 ^ m) := fun _ _ _ h => pNum_lt h
theorem text_ens : Ens pText (fun x => x.size < 65536) := seqT_ens (num_ens 2) fun n hn s x r h => by
  rw [(textT_some h).1]
  exact hn
theorem node_ens : Ens pNode (fun n => n.text.size < 65536) := seqT_ens (num_ens 1) fun n _ => by
  unfold nodeT
  split
  · exact mapT_ens (num_ens 4) fun _ _ => (by decide : (0 : Nat) < 65536)
  · exact seqT_ens text_ens fun t ht => mapT_ens (num_ens 1) fun _ _ => ht
def TypP (t : List Nd) : Prop := t.length ≤ 4000 ∧ ∀ n ∈ t, n.text.size < 65536
def CtP (c : Ct) : Prop := c.name.size < 65536 ∧ c.args.length ≤ 4000 ∧ ∀ t ∈ c.args, TypP t
def DtP (d : Dt) : Prop := d.name.size < 65536 ∧ d.cons.length ≤ 4000 ∧ ∀ c ∈ d.cons, CtP c
def SgP (s : Sg) : Prop := s.name.size < 65536 ∧ TypP s.type
structure IfcP (i : Ifc) : Prop where
  opens : i.opens.length ≤ 4000 ∧ ∀ o ∈ i.opens, o.name.size < 65536 ∧ 0 ≤ o.digest ∧ o.digest < 4294967296
  datas : i.datas.length ≤ 4000 ∧ ∀ d ∈ i.datas, DtP d
  fixes : i.fixes.length ≤ 4000 ∧ ∀ f ∈ i.fixes, f.op.size < 65536
  sigs : i.sigs.length ≤ 4000 ∧ ∀ s ∈ i.sigs, SgP s
theorem typ_ens : Ens pTyp TypP := row_ens node_ens
theorem ct_ens : Ens pCt CtP := seqT_ens text_ens fun _ ht => mapT_ens (row_ens typ_ens) fun _ hl => ⟨ht, hl⟩
theorem dt_ens : Ens pDt DtP := seqT_ens text_ens fun _ ht => seqT_ens (num_ens 1) fun _ _ => mapT_ens (row_ens ct_ens) fun _ hl => ⟨ht, hl⟩
theorem opn_ens : Ens pOpn (fun o => o.name.size < 65536 ∧ 0 ≤ o.digest ∧ o.digest < 4294967296) := seqT_ens text_ens fun _ ht => mapT_ens (num_ens 4) fun n hn => ⟨ht, by show (0 : Int) ≤ (n : Int); omega, by
  show (n : Int) < 4294967296
  have : n < 4294967296 := hn
  omega⟩
theorem fx_ens : Ens pFx (fun f => f.op.size < 65536) := seqT_ens text_ens fun _ ht => seqT_ens (num_ens 1) fun _ _ => mapT_ens (num_ens 1) fun _ _ => ht
theorem sg_ens : Ens pSg SgP := seqT_ens text_ens fun _ ht => mapT_ens typ_ens fun _ hl => ⟨ht, hl⟩
theorem ifc_ens : Ens pIfc IfcP := seqT_ens text_ens fun _ _ => seqT_ens (row_ens opn_ens) fun _ ho => seqT_ens (row_ens dt_ens) fun _ hd => seqT_ens (row_ens fx_ens) fun _ hf => mapT_ens (row_ens sg_ens) fun _ hs => ⟨ho, hd, hf, hs⟩
theorem IfcP.ifl {i : Ifc} (h : IfcP i) : IfL i := ⟨Nat.le_trans h.opens.1 (by decide), Nat.le_trans h.datas.1 (by decide), Nat.le_trans h.fixes.1 (by decide), Nat.le_trans h.sigs.1 (by decide),
  fun d hd => ⟨Nat.le_trans (h.datas.2 d hd).2.1 (by decide), fun c hc => ⟨Nat.le_trans ((h.datas.2 d hd).2.2 c hc).2.1 (by decide), fun t ht => Nat.le_trans (((h.datas.2 d hd).2.2 c hc).2.2 t ht).1 (by decide)⟩⟩,
  fun s hs => Nat.le_trans (h.sigs.2 s hs).2.1 (by decide)⟩
theorem IfcP.sz {i : Ifc} (h : IfcP i) (hl : (allP i).length ≤ 900000000) : Sz i := ⟨⟨h.opens.2, h.fixes.2, fun s hs => ⟨(h.sigs.2 s hs).1, (h.sigs.2 s hs).2.2⟩,
  fun d hd => ⟨(h.datas.2 d hd).1, fun c hc => ⟨((h.datas.2 d hd).2.2 c hc).1, fun t ht => (((h.datas.2 d hd).2.2 c hc).2.2 t ht).2⟩⟩⟩, hl, Nat.le_trans h.fixes.1 (by decide)⟩
theorem dec_ok {s : List UInt8} {i : Ifc} (h : decG (ifcB ltS) s = some i) (hs : s.length ≤ 900000000) : IfL i ∧ Sz i ∧ ifcB ltS i = true ∧ encP i = s := by
  obtain ⟨h1, h2, r, h3⟩ := dec_some h
  have hp := ifc_ens _ _ _ h3
  refine ⟨hp.ifl, hp.sz ?_, h1, h2⟩
  have := enc_len i
  rw [h2] at this
  omega
theorem empty_ifl : IfL ⟨⟨#[]⟩, [], [], [], []⟩ := ⟨by decide, by decide, by decide, by decide, fun _ h => (by cases h), fun _ h => (by cases h)⟩
theorem bflat_le {α : Type} {f : α → List UInt8} {B : Nat} : ∀ {l : List α}, (∀ x ∈ l, (f x).length ≤ B) → (l.flatMap f).length ≤ l.length * B
  | [], _ => by simp
  | x :: l, h => by
    have h1 := h x List.mem_cons_self
    have h2 := bflat_le (l := l) fun y hy => h y (List.mem_cons_of_mem _ hy)
    rw [List.flatMap_cons, List.length_append, List.length_cons, Nat.succ_mul]
    omega
theorem row_le {α : Type} {f : α → List UInt8} {l : List α} (B N : Nat) (hl : l.length ≤ N) (h : ∀ x ∈ l, (f x).length ≤ B) : (rowP f l).length ≤ 2 + N * B := by
  have h1 := bflat_le h
  have h2 : l.length * B ≤ N * B := Nat.mul_le_mul_right _ hl
  unfold rowP
  rw [List.length_append, low_len]
  omega
theorem node_le {n : Nd} {m : Nat} (h : n.text.size ≤ m) : (nodeP n).length ≤ m + 8 := by
  unfold nodeP
  split
  · rw [List.length_cons, low_len]; omega
  · rw [List.length_cons, List.length_append, low_len, text_plen]; omega
end Go.Proofs.YtinekmjengckdaaGreatDoor
