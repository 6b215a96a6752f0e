/-
  Interfaces as bytes: how they are put, how they are taken, and that what is put is taken again. The sum of bytes; and that bytes of which one is another one, that are cut, or that are longer, are no interface. What is taken is as long as what is put for it; which interfaces may be, and that those that are not too great fit. Which fixities, names and interfaces may be; and that those that are not too great fit in bytes. Plain laws: the first place where a constructor of a name stands.
-/
import Derived.Test.YtinekmjengckdaaGreatDoorA02
namespace Go.Proofs.YtinekmjengckdaaGreatDoor
structure Opn where
  name : ByteArray
  digest : Int
structure Ifc where
  name : ByteArray
  opens : List Opn
  datas : List Dt
  fixes : List Fx
  sigs : List Sg
def low : Nat → Nat → List UInt8
  | 0, _ => []
  | m + 1, n => UInt8.ofNat (n % 256) :: low m (n / 256)
theorem low_len : ∀ (m n : Nat), (low m n).length = m
  | 0, _ => rfl
  | m + 1, n => by rw [low, List.length_cons, low_len m]
def valB : List UInt8 → Nat
  | [] => 0
  | b :: l => b.toNat + 256 * valB l
theorem val_low : ∀ (m n : Nat), n < 256 ^ m → valB (low m n) = n
  | 0, n, h => by
    have : n = 0 := by simpa using h
    subst this
    rfl
  | m + 1, n, h => by
    rw [low, valB, val_low m (n / 256) (by rw [Nat.div_lt_iff_lt_mul (by omega), ← Nat.pow_succ]; exact h)]
    have : (UInt8.ofNat (n % 256)).toNat = n % 256 := by
      rw [UInt8.toNat_ofNat']
      exact Nat.mod_eq_of_lt (Nat.mod_lt _ (by omega))
    rw [this]
    omega
theorem valB_lt : ∀ (l : List UInt8), valB l < 256 ^ l.length
  | [] => by simp [valB]
  | b :: l => by
    have h1 := valB_lt l
    have h2 := b.toNat_lt
    rw [valB, List.length_cons, Nat.pow_succ]
    omega
def textP (s : ByteArray) : List UInt8 := low 2 s.size ++ s.data.toList
def nodeP (n : Nd) : List UInt8 := if n.kind = 31 then 0 :: low 4 n.num.toNat else 1 :: (textP n.text ++ low 1 n.kids.toNat)
def rowP {α : Type} (f : α → List UInt8) (l : List α) : List UInt8 := low 2 l.length ++ l.flatMap f
def typP (t : List Nd) : List UInt8 := rowP nodeP t
def ctP (c : Ct) : List UInt8 := textP c.name ++ rowP typP c.args
def dtP (d : Dt) : List UInt8 := textP d.name ++ (low 1 d.params.toNat ++ rowP ctP d.cons)
def opnP (o : Opn) : List UInt8 := textP o.name ++ low 4 o.digest.toNat
def fxP (f : Fx) : List UInt8 := textP f.op ++ (low 1 f.level.toNat ++ low 1 (f.side + 1).toNat)
def sgP (s : Sg) : List UInt8 := textP s.name ++ typP s.type
def magicB : List UInt8 := [84, 82, 71, 73]
def allP (i : Ifc) : List UInt8 := magicB ++ (textP i.name ++ (rowP opnP i.opens ++ (rowP dtP i.datas ++ (rowP fxP i.fixes ++ rowP sgP i.sigs))))
abbrev Tk (α : Type) := List UInt8 → Option (α × List UInt8)
def pNum (m : Nat) : Tk Nat := fun s => if s.length < m then none else some (valB (s.take m), s.drop m)
def seqT {α β : Type} (p : Tk α) (q : α → Tk β) : Tk β := fun s => (p s).bind fun x => q x.1 x.2
def mapT {α β : Type} (f : α → β) (p : Tk α) : Tk β := fun s => (p s).map fun x => (f x.1, x.2)
theorem seqT_run {α β : Type} {p : Tk α} {q : α → Tk β} {s r : List UInt8} {x : α} (h : p s = some (x, r)) : seqT p q s = q x r := by unfold seqT; rw [h]; rfl
theorem mapT_run {α β : Type} {f : α → β} {p : Tk α} {s r : List UInt8} {x : α} (h : p s = some (x, r)) : mapT f p s = some (f x, r) := by unfold mapT; rw [h]; rfl
theorem seqT_none {α β : Type} {p : Tk α} {q : α → Tk β} {s : List UInt8} (h : p s = none) : seqT p q s = none := by unfold seqT; rw [h]; rfl
theorem mapT_none {α β : Type} {f : α → β} {p : Tk α} {s : List UInt8} (h : p s = none) : mapT f p s = none := by unfold mapT; rw [h]; rfl
def textT (n : Nat) : Tk ByteArray := fun r => if r.length < n then none else some (⟨(r.take n).toArray⟩, r.drop n)
def pText : Tk ByteArray := seqT (pNum 2) textT
def pMany {α : Type} (get : Tk α) : Nat → Tk (List α)
  | 0 => fun r => some ([], r)
  | n + 1 => seqT get fun a => mapT (fun l => a :: l) (pMany get n)
def manyT {α : Type} (get : Tk α) (n : Nat) : Tk (List α) := fun r => if 4000 < n then none else pMany get n r
def pRow {α : Type} (get : Tk α) : Tk (List α) := seqT (pNum 2) (manyT get)
def nodeT (n : Nat) : Tk Nd := if n = 0 then mapT (fun (y : Nat) => (⟨31, ⟨#[]⟩, (y : Int), 0⟩ : Nd)) (pNum 4) else seqT pText fun t => mapT (fun (z : Nat) => (⟨32, t, 0, (z : Int)⟩ : Nd)) (pNum 1)
def pNode : Tk Nd := seqT (pNum 1) nodeT
def pTyp : Tk (List Nd) := pRow pNode
def pCt : Tk Ct := seqT pText fun t => mapT (fun y => (⟨t, y⟩ : Ct)) (pRow pTyp)
def pDt : Tk Dt := seqT pText fun t => seqT (pNum 1) fun n => mapT (fun y => (⟨t, (n : Int), y⟩ : Dt)) (pRow pCt)
def pOpn : Tk Opn := seqT pText fun t => mapT (fun (y : Nat) => (⟨t, (y : Int)⟩ : Opn)) (pNum 4)
def pFx : Tk Fx := seqT pText fun t => seqT (pNum 1) fun n => mapT (fun (y : Nat) => (⟨t, (n : Int), (y : Int) - 1⟩ : Fx)) (pNum 1)
def pSg : Tk Sg := seqT pText fun t => mapT (fun y => (⟨t, y⟩ : Sg)) pTyp
def pIfc : Tk Ifc := seqT pText fun a => seqT (pRow pOpn) fun b => seqT (pRow pDt) fun c => seqT (pRow pFx) fun d => mapT (fun e => (⟨a, b, c, d, e⟩ : Ifc)) (pRow pSg)
theorem num_back (m n : Nat) (h : n < 256 ^ m) (r : List UInt8) : pNum m (low m n ++ r) = some (n, r) := by
  unfold pNum
  have hl := low_len m n
  rw [if_neg (by rw [List.length_append]; omega)]
  have h1 : (low m n ++ r).take m = low m n := by rw [List.take_append_of_le_length (by omega), List.take_of_length_le (by omega)]
  have h2 : (low m n ++ r).drop m = r := by rw [List.drop_append_of_le_length (by omega), List.drop_of_length_le (by omega), List.nil_append]
  rw [h1, h2, val_low m n h]
theorem text_back (s : ByteArray) (h : s.size < 65536) (r : List UInt8) : pText (textP s ++ r) = some (s, r) := by
  unfold pText textP
  rw [List.append_assoc, seqT_run (num_back 2 s.size h _)]
  unfold textT
  have hl : s.data.toList.length = s.size := by cases s; rfl
  rw [if_neg (by rw [List.length_append]; omega)]
  have h1 : (s.data.toList ++ r).take s.size = s.data.toList := by rw [List.take_append_of_le_length (by omega), List.take_of_length_le (by omega)]
  have h2 : (s.data.toList ++ r).drop s.size = r := by rw [List.drop_append_of_le_length (by omega), List.drop_of_length_le (by omega), List.nil_append]
  rw [h1, h2]
theorem many_back {α : Type} (p : Tk α) (f : α → List UInt8) : ∀ (l : List α) (r : List UInt8), (∀ x ∈ l, ∀ r, p (f x ++ r) = some (x, r)) → pMany p l.length (l.flatMap f ++ r) = some (l, r)
  | [], r, _ => rfl
  | x :: l, r, h => by
    rw [List.length_cons, pMany, List.flatMap_cons, List.append_assoc, seqT_run (h x List.mem_cons_self _)]
    exact mapT_run (many_back p f l r (fun y hy => h y (List.mem_cons_of_mem _ hy)))
theorem row_back {α : Type} (p : Tk α) (f : α → List UInt8) (l : List α) (hl : l.length ≤ 4000) (h : ∀ x ∈ l, ∀ r, p (f x ++ r) = some (x, r)) (r : List UInt8) : pRow p (rowP f l ++ r) = some (l, r) := by
  unfold pRow rowP
  rw [List.append_assoc, seqT_run (num_back 2 l.length (by omega) _)]
  unfold manyT
  rw [if_neg (by omega)]
  exact many_back p f l r h
def NdFit (n : Nd) : Prop := (n.kind = 31 ∧ n.text = ⟨#[]⟩ ∧ 0 ≤ n.num ∧ n.num < 4294967296 ∧ n.kids = 0) ∨ (n.kind = 32 ∧ n.num = 0 ∧ 0 ≤ n.kids ∧ n.kids < 256 ∧ n.text.size < 65536)
theorem node_back {n : Nd} (h : NdFit n) (r : List UInt8) : pNode (nodeP n ++ r) = some (n, r) := by
  obtain ⟨k, t, m, q⟩ := n
  unfold pNode nodeP
  rcases h with ⟨rfl, rfl, h1, h2, rfl⟩ | ⟨rfl, rfl, h1, h2, h3⟩
  · dsimp only at h1 h2 ⊢
    rw [if_pos rfl, List.cons_append, show (0 : UInt8) :: (low 4 m.toNat ++ r) = low 1 0 ++ (low 4 m.toNat ++ r) from rfl, seqT_run (num_back 1 0 (by decide) _)]
    unfold nodeT
    rw [if_pos rfl, mapT_run (num_back 4 m.toNat (by omega) _), Int.toNat_of_nonneg h1]
  · dsimp only at h1 h2 h3 ⊢
    rw [if_neg (by decide), List.cons_append, show ∀ x, (1 : UInt8) :: x = low 1 1 ++ x from fun _ => rfl, seqT_run (num_back 1 1 (by decide) _)]
    unfold nodeT
    rw [if_neg (by decide), List.append_assoc, seqT_run (text_back t h3 _), mapT_run (num_back 1 q.toNat (by omega) _), Int.toNat_of_nonneg h1]
def TypFit (t : List Nd) : Prop := t.length ≤ 4000 ∧ ∀ n ∈ t, NdFit n
theorem typ_back {t : List Nd} (h : TypFit t) (r : List UInt8) : pTyp (typP t ++ r) = some (t, r) := row_back pNode nodeP t h.1 (fun n hn r => node_back (h.2 n hn) r) r
def CtFit (c : Ct) : Prop := c.name.size < 65536 ∧ c.args.length ≤ 4000 ∧ ∀ t ∈ c.args, TypFit t
theorem ct_back {c : Ct} (h : CtFit c) (r : List UInt8) : pCt (ctP c ++ r) = some (c, r) := by
  unfold pCt ctP
  rw [List.append_assoc, seqT_run (text_back _ h.1 _), mapT_run (row_back pTyp typP _ h.2.1 (fun t ht r => typ_back (h.2.2 t ht) r) _)]
def DtFit (d : Dt) : Prop := d.name.size < 65536 ∧ 0 ≤ d.params ∧ d.params < 256 ∧ d.cons.length ≤ 4000 ∧ ∀ c ∈ d.cons, CtFit c
theorem dt_back {d : Dt} (h : DtFit d) (r : List UInt8) : pDt (dtP d ++ r) = some (d, r) := by
  obtain ⟨h1, h2, h3, h4, h5⟩ := h
  unfold pDt dtP
  rw [List.append_assoc, seqT_run (text_back _ h1 _), List.append_assoc, seqT_run (num_back 1 _ (by omega) _), mapT_run (row_back pCt ctP _ h4 (fun t ht r => ct_back (h5 t ht) r) _), Int.toNat_of_nonneg h2]
def OpnFit (o : Opn) : Prop := o.name.size < 65536 ∧ 0 ≤ o.digest ∧ o.digest < 4294967296
theorem opn_back {o : Opn} (h : OpnFit o) (r : List UInt8) : pOpn (opnP o ++ r) = some (o, r) := by
  obtain ⟨h1, h2, h3⟩ := h
  unfold pOpn opnP
  rw [List.append_assoc, seqT_run (text_back _ h1 _), mapT_run (num_back 4 _ (by omega) _), Int.toNat_of_nonneg h2]
def FxFit (f : Fx) : Prop := f.op.size < 65536 ∧ (0 ≤ f.level ∧ f.level < 256) ∧ -1 ≤ f.side ∧ f.side < 255
theorem fx_back {f : Fx} (h : FxFit f) (r : List UInt8) : pFx (fxP f ++ r) = some (f, r) := by
  obtain ⟨h1, ⟨h2, h3⟩, h4, h5⟩ := h
  unfold pFx fxP
  rw [List.append_assoc, seqT_run (text_back _ h1 _), List.append_assoc, seqT_run (num_back 1 _ (by omega) _), mapT_run (num_back 1 _ (by omega) _), Int.toNat_of_nonneg h2, Int.toNat_of_nonneg (by omega), Int.add_sub_cancel]
def SgFit (s : Sg) : Prop := s.name.size < 65536 ∧ TypFit s.type
theorem sg_back {s : Sg} (h : SgFit s) (r : List UInt8) : pSg (sgP s ++ r) = some (s, r) := by
  unfold pSg sgP
  rw [List.append_assoc, seqT_run (text_back _ h.1 _), mapT_run (typ_back h.2 _)]
structure IfcFit (i : Ifc) : Prop where
  name : i.name.size < 65536
  opens : i.opens.length ≤ 4000
  datas : i.datas.length ≤ 4000
  fixes : i.fixes.length ≤ 4000
  sigs : i.sigs.length ≤ 4000
  open_ : ∀ o ∈ i.opens, OpnFit o
  data_ : ∀ d ∈ i.datas, DtFit d
  fix_ : ∀ f ∈ i.fixes, FxFit f
  sig_ : ∀ s ∈ i.sigs, SgFit s
theorem ifc_back {i : Ifc} (h : IfcFit i) (r : List UInt8) : pIfc ((allP i).drop 4 ++ r) = some (i, r) := by
  have e : (allP i).drop 4 = textP i.name ++ (rowP opnP i.opens ++ (rowP dtP i.datas ++ (rowP fxP i.fixes ++ rowP sgP i.sigs))) := rfl
  unfold pIfc
  rw [e, List.append_assoc, seqT_run (text_back _ h.name _), List.append_assoc, seqT_run (row_back pOpn opnP _ h.opens (fun x hx r => opn_back (h.open_ x hx) r) _), List.append_assoc,
    seqT_run (row_back pDt dtP _ h.datas (fun x hx r => dt_back (h.data_ x hx) r) _), List.append_assoc, seqT_run (row_back pFx fxP _ h.fixes (fun x hx r => fx_back (h.fix_ x hx) r) _),
    mapT_run (row_back pSg sgP _ h.sigs (fun x hx r => sg_back (h.sig_ x hx) r) _)]
end Go.Proofs.YtinekmjengckdaaGreatDoor

namespace Go.Proofs.YtinekmjengckdaaGreatDoor
def sumStep (n : Nat) (b : UInt8) : Nat := ((n ^^^ b.toNat) * 16777619) % 4294967296
def sumG (n : Nat) (l : List UInt8) : Nat := l.foldl sumStep n
def sumB (l : List UInt8) : Nat := sumG 2166136261 l
theorem sumStep_lt (n : Nat) (b : UInt8) : sumStep n b < 4294967296 := Nat.mod_lt _ (by decide)
theorem sumG_lt : ∀ (l : List UInt8) (n : Nat), n < 4294967296 → sumG n l < 4294967296
  | [], _, h => h
  | b :: l, n, _ => sumG_lt l _ (sumStep_lt n b)
theorem sumB_lt (l : List UInt8) : sumB l < 4294967296 := sumG_lt l _ (by decide)
def encP (i : Ifc) : List UInt8 := allP i ++ low 4 (sumB (allP i))
def decG (ok : Ifc → Bool) (s : List UInt8) : Option Ifc := if s.take 4 = magicB then (match pIfc (s.drop 4) with
  | some x => if ok x.1 = true ∧ encP x.1 = s then some x.1 else none
  | none => none) else none
theorem all_magic (i : Ifc) : allP i = magicB ++ (allP i).drop 4 := rfl
theorem enc_parse {i : Ifc} (h : IfcFit i) (z : List UInt8) : pIfc ((encP i ++ z).drop 4) = some (i, low 4 (sumB (allP i)) ++ z) := by
  have e : (encP i ++ z).drop 4 = (allP i).drop 4 ++ (low 4 (sumB (allP i)) ++ z) := by
    unfold encP
    rw [List.append_assoc, List.drop_append_of_le_length]
    have := congrArg List.length (all_magic i)
    rw [List.length_append, List.length_drop] at this
    have h4 : magicB.length = 4 := rfl
    omega
  rw [e]
  exact ifc_back h _
theorem dec_enc {ok : Ifc → Bool} {i : Ifc} (h : ok i = true) (hf : IfcFit i) : decG ok (encP i) = some i := by
  have hp := enc_parse hf []
  rw [List.append_nil] at hp
  unfold decG
  rw [if_pos (show (encP i).take 4 = magicB from rfl), hp]
  dsimp only
  rw [if_pos ⟨h, rfl⟩]
theorem dec_some {ok : Ifc → Bool} {s : List UInt8} {i : Ifc} (h : decG ok s = some i) : ok i = true ∧ encP i = s ∧ ∃ r, pIfc (s.drop 4) = some (i, r) := by
  unfold decG at h
  split at h
  · split at h
    · rename_i x hx
      split at h
      · rename_i hh
        injection h with h
        subst h
        exact ⟨hh.1, hh.2, x.2, hx⟩
      · cases h
    · cases h
  · cases h
theorem enc_len (i : Ifc) : (encP i).length = (allP i).length + 4 := by unfold encP; rw [List.length_append, low_len]
end Go.Proofs.YtinekmjengckdaaGreatDoor

namespace Go.Proofs.YtinekmjengckdaaGreatDoor
def Len {α : Type} (p : Tk α) (n : α → Nat) : Prop := ∀ s x r, p s = some (x, r) → s.length = n x + r.length
theorem num_len (m : Nat) : Len (pNum m) (fun _ => m) := by
  intro s x r h
  unfold pNum at h
  split at h
  · cases h
  · injection h with h
    injection h with _ h2
    subst h2
    rw [List.length_drop]
    show s.length = m + _
    omega
theorem seqT_len {α β : Type} {p : Tk α} {q : α → Tk β} {n : α → Nat} {k : α → β → Nat} {f : β → Nat} (hp : Len p n) (hq : ∀ a, Len (q a) (k a)) (hf : ∀ s a r b t, p s = some (a, r) → q a r = some (b, t) → n a + k a b = f b) : Len (seqT p q) f := by
  intro s x r h
  cases e : p s with
  | none => rw [seqT_none e] at h; cases h
  | some y =>
    rw [seqT_run (x := y.1) (r := y.2) e] at h
    have h1 := hp s y.1 y.2 e
    have h2 := hq y.1 _ _ _ h
    have h3 := hf s y.1 y.2 x r e h
    omega
theorem mapT_len {α β : Type} {f : α → β} {p : Tk α} {n : α → Nat} {k : β → Nat} (hp : Len p n) (hk : ∀ s x r, p s = some (x, r) → n x = k (f x)) : Len (mapT f p) k := by
  intro s x r h
  cases e : p s with
  | none => rw [mapT_none e] at h; cases h
  | some y =>
    rw [mapT_run (x := y.1) (r := y.2) e] at h
    injection h with h
    injection h with h1 h2
    have h3 := hp s y.1 y.2 e
    have h4 := hk s y.1 y.2 e
    subst h1 h2
    omega
theorem mapT_some {α β : Type} {f : α → β} {p : Tk α} {s r : List UInt8} {x : β} (h : mapT f p s = some (x, r)) : ∃ y, p s = some (y, r) ∧ x = f y := by
  cases e : p s with
  | none => rw [mapT_none e] at h; cases h
  | some y =>
    rw [mapT_run (x := y.1) (r := y.2) e] at h
    injection h with h
    injection h with h1 h2
    exact ⟨y.1, by rw [← h2], h1.symm⟩
theorem seqT_some {α β : Type} {p : Tk α} {q : α → Tk β} {s r : List UInt8} {x : β} (h : seqT p q s = some (x, r)) : ∃ y t, p s = some (y, t) ∧ q y t = some (x, r) := by
  cases e : p s with
  | none => rw [seqT_none e] at h; cases h
  | some y =>
    rw [seqT_run (x := y.1) (r := y.2) e] at h
    exact ⟨y.1, y.2, rfl, h⟩
theorem pNum_lt {m n : Nat} {s r : List UInt8} (h : pNum m s = some (n, r)) : n < 256 ^ m := by
  unfold pNum at h
  split at h
  · cases h
  · rename_i hl
    injection h with h
    injection h with h1 _
    subst h1
    have := valB_lt (s.take m)
    rwa [List.length_take, Nat.min_eq_left (by omega)] at this
theorem textT_some {n : Nat} {s r : List UInt8} {x : ByteArray} (h : textT n s = some (x, r)) : x.size = n ∧ s.length = n + r.length := by
  unfold textT at h
  split at h
  · cases h
  · rename_i hl
    injection h with h
    injection h with h1 h2
    subst h1 h2
    refine ⟨?_, by rw [List.length_drop]; omega⟩
    show ((s.take n).toArray).size = n
    rw [List.size_toArray, List.length_take]
    omega
theorem text_plen (s : ByteArray) : (textP s).length = 2 + s.size := by
  unfold textP
  rw [List.length_append, low_len]
  rfl
theorem text_len : Len pText (fun x => (textP x).length) :=
  seqT_len (k := fun n _ => n) (num_len 2) (fun n s x r h => (textT_some h).2) (fun s n r x t _ h2 => by rw [text_plen, (textT_some h2).1])
theorem many_len {α : Type} {p : Tk α} {f : α → List UInt8} (hp : Len p (fun x => (f x).length)) : ∀ n, Len (pMany p n) (fun l => (l.flatMap f).length)
  | 0 => by
    intro s x r h
    unfold pMany at h
    injection h with h
    injection h with h1 h2
    subst h1 h2
    simp
  | n + 1 => seqT_len (k := fun a l => (l.flatMap f).length - (f a).length) hp (fun a => mapT_len (many_len hp n) (fun s x r _ => by rw [List.flatMap_cons, List.length_append]; omega)) (fun s a r b t _ h2 => by
      obtain ⟨y, _, rfl⟩ := mapT_some h2
      rw [List.flatMap_cons, List.length_append]
      omega)
theorem many_count {α : Type} {p : Tk α} : ∀ {n : Nat} {s r : List UInt8} {l : List α}, pMany p n s = some (l, r) → l.length = n
  | 0, s, r, l, h => by
    unfold pMany at h
    injection h with h
    injection h with h1 _
    rw [← h1]
    rfl
  | n + 1, s, r, l, h => by
    obtain ⟨y, t, _, h2⟩ := seqT_some h
    obtain ⟨z, h3, rfl⟩ := mapT_some h2
    rw [List.length_cons, many_count h3]
theorem manyT_some {α : Type} {p : Tk α} {n : Nat} {s r : List UInt8} {l : List α} (h : manyT p n s = some (l, r)) : n ≤ 4000 ∧ pMany p n s = some (l, r) := by
  unfold manyT at h
  split at h
  · cases h
  · exact ⟨by omega, h⟩
theorem row_len {α : Type} {p : Tk α} {f : α → List UInt8} (hp : Len p (fun x => (f x).length)) : Len (pRow p) (fun l => (rowP f l).length) :=
  seqT_len (k := fun _ l => (l.flatMap f).length) (num_len 2) (fun n s x r h => many_len hp n s x r (manyT_some h).2) (fun s n r x t _ _ => by unfold rowP; rw [List.length_append, low_len])
theorem node_len : Len pNode (fun x => (nodeP x).length) := by
  refine seqT_len (k := fun _ x => (nodeP x).length - 1) (num_len 1) (fun n => ?_) (fun s n r x t _ _ => ?_)
  · unfold nodeT
    split
    · exact mapT_len (num_len 4) (fun s x r _ => by unfold nodeP; rw [if_pos rfl, List.length_cons, low_len])
    · exact seqT_len (k := fun _ x => 1) text_len (fun t => mapT_len (num_len 1) (fun s x r _ => rfl)) (fun s a r b t _ h2 => by
        obtain ⟨y, _, rfl⟩ := mapT_some h2
        unfold nodeP
        rw [if_neg (show ¬ (32 : Int) = 31 by decide), List.length_cons, List.length_append, low_len]
        dsimp only
        omega)
  · have : 1 ≤ (nodeP x).length := by
      unfold nodeP
      split <;> simp
    omega
theorem typ_len : Len pTyp (fun x => (typP x).length) := row_len node_len
theorem ct_len : Len pCt (fun x => (ctP x).length) := seqT_len (k := fun _ x => (rowP typP x.args).length) text_len (fun _ => mapT_len (row_len typ_len) (fun _ _ _ _ => rfl)) (fun s a r b t _ h2 => by
  obtain ⟨y, _, rfl⟩ := mapT_some h2
  unfold ctP
  rw [List.length_append])
theorem dt_len : Len pDt (fun x => (dtP x).length) := seqT_len (k := fun _ x => 1 + (rowP ctP x.cons).length) text_len (fun _ => seqT_len (k := fun _ x => (rowP ctP x.cons).length) (num_len 1) (fun _ => mapT_len (row_len ct_len) (fun _ _ _ _ => rfl)) (fun _ _ _ _ _ _ _ => rfl)) (fun s a r b t _ h2 => by
  obtain ⟨y, _, _, h3⟩ := seqT_some h2
  obtain ⟨z, _, rfl⟩ := mapT_some h3
  unfold dtP
  rw [List.length_append, List.length_append, low_len])
theorem opn_len : Len pOpn (fun x => (opnP x).length) := seqT_len (k := fun _ _ => 4) text_len (fun _ => mapT_len (num_len 4) (fun _ _ _ _ => rfl)) (fun s a r b t _ h2 => by
  obtain ⟨y, _, rfl⟩ := mapT_some h2
  unfold opnP
  rw [List.length_append, low_len])
theorem fx_len : Len pFx (fun x => (fxP x).length) := seqT_len (k := fun _ _ => 2) text_len (fun _ => seqT_len (k := fun _ _ => 1) (num_len 1) (fun _ => mapT_len (num_len 1) (fun _ _ _ _ => rfl)) (fun _ _ _ _ _ _ _ => rfl)) (fun s a r b t _ h2 => by
  obtain ⟨y, _, _, h3⟩ := seqT_some h2
  obtain ⟨z, _, rfl⟩ := mapT_some h3
  unfold fxP
  rw [List.length_append, List.length_append, low_len, low_len])
theorem sg_len : Len pSg (fun x => (sgP x).length) := seqT_len (k := fun _ x => (typP x.type).length) text_len (fun _ => mapT_len typ_len (fun _ _ _ _ => rfl)) (fun s a r b t _ h2 => by
  obtain ⟨y, _, rfl⟩ := mapT_some h2
  unfold sgP
  rw [List.length_append])
theorem ifc_len {s r : List UInt8} {i : Ifc} (h : pIfc s = some (i, r)) : s.length + 4 = (allP i).length + r.length := by
  obtain ⟨a, r1, h1, h⟩ := seqT_some h
  obtain ⟨b, r2, h2, h⟩ := seqT_some h
  obtain ⟨c, r3, h3, h⟩ := seqT_some h
  obtain ⟨d, r4, h4, h⟩ := seqT_some h
  obtain ⟨e, h5, rfl⟩ := mapT_some h
  have l1 := text_len _ _ _ h1
  have l2 := row_len opn_len _ _ _ h2
  have l3 := row_len dt_len _ _ _ h3
  have l4 := row_len fx_len _ _ _ h4
  have l5 := row_len sg_len _ _ _ h5
  unfold allP
  simp only [List.length_append]
  have : magicB.length = 4 := rfl
  dsimp only at l1 l2 l3 l4 l5
  omega
theorem rest_four {s r : List UInt8} {i : Ifc} (h : pIfc (s.drop 4) = some (i, r)) (h4 : 4 ≤ s.length) (he : encP i = s) : r.length = 4 := by
  have h1 := ifc_len h
  have h2 := enc_len i
  rw [he] at h2
  rw [List.length_drop] at h1
  omega
end Go.Proofs.YtinekmjengckdaaGreatDoor

namespace Go.Proofs.YtinekmjengckdaaGreatDoor
def fxB (f : Fx) : Bool := opB f.op && decide (0 ≤ f.level) && decide (f.level ≤ 9) && decide (-1 ≤ f.side) && decide (f.side ≤ 1)
def fixE (l : List Fx) : Int := if 400 < l.length ∨ l.all fxB = false then 40 else if ¬ (l.map Fx.op).Nodup then 41 else 0
def headText (t : List Nd) : ByteArray := match t with
  | [] => ⟨#[]⟩
  | n :: _ => n.text
def sgB (s : Sg) : Bool := (nameB 1 s.name || opB s.name || nameB 2 s.name) && typB s.type && (!nameB 2 s.name || nameB 2 (headText (partsL s.type).2))
def envB (l : List Sg) : Bool := l.all sgB && decide (l.map Sg.name).Nodup
def modB (s : ByteArray) : Bool := nameB 2 s && decide (s.size ≤ 60)
def ordB (lt : ByteArray → ByteArray → Bool) : List Opn → Bool
  | [] => true
  | [_] => true
  | a :: b :: l => lt a.name b.name && ordB lt (b :: l)
def opensB (lt : ByteArray → ByteArray → Bool) (name : ByteArray) (l : List Opn) : Bool := l.all (fun o => modB o.name && !decide (o.name = name)) && ordB lt l
def sigB (s : Sg) : Bool := (nameB 1 s.name || opB s.name) && sameN (canonL s.type) s.type
def ifcB (lt : ByteArray → ByteArray → Bool) (i : Ifc) : Bool := modB i.name && decide (i.opens.length ≤ 60) && decide (i.sigs.length ≤ 200) && opensB lt i.name i.opens && (datasE i.datas == 0 || datasE i.datas == 102) && fixE i.fixes == 0 && envB i.sigs && i.sigs.all sigB
theorem eat_kids : ∀ {l : List Nd} {k n : Nat}, eat l k = some n → ∀ x ∈ l.take n, 0 ≤ x.kids
  | [], k, n, h, x, hx => by simp at hx
  | y :: l, k, n, h, x, hx => by
    unfold eat at h
    split at h
    · injection h with h
      subst h
      simp at hx
    · split at h
      · cases h
      · rename_i hb
        rw [Option.map_eq_some_iff] at h
        obtain ⟨q, hq, rfl⟩ := h
        rw [List.take_succ_cons] at hx
        rcases List.mem_cons.1 hx with rfl | hx
        · omega
        · exact eat_kids hq x hx
theorem typ_fit {t : List Nd} (h : typB t = true) (hs : ∀ n ∈ t, n.text.size < 65536) : TypFit t := by
  unfold typB at h
  simp only [Bool.and_eq_true, decide_eq_true_eq, List.all_eq_true] at h
  obtain ⟨⟨h1, h2⟩, h3⟩ := h
  refine ⟨h1, fun n hn => ?_⟩
  have hk : 0 ≤ n.kids := by
    have := (whole_iff.1 h2).2
    exact eat_kids this n (by rw [List.take_length]; exact hn)
  have hb := h3 n hn
  unfold nodeB at hb
  split at hb
  · rename_i hk2
    simp only [Bool.and_eq_true, decide_eq_true_eq] at hb
    obtain ⟨⟨⟨a, b⟩, c⟩, d⟩ := hb
    exact .inl ⟨hk2, b, c, by omega, eq_of_beq a⟩
  · split at hb
    · cases hb
    · rename_i h4 h5
      refine .inr ⟨by omega, by omega, hk, ?_, hs n hn⟩
      split at hb
      · have := eq_of_beq hb; omega
      · split at hb
        · have := eq_of_beq hb; omega
        · split at hb
          · have := eq_of_beq hb; omega
          · simp only [Bool.and_eq_true, decide_eq_true_eq] at hb
            omega
structure IfcShort (i : Ifc) : Prop where
  opens : ∀ o ∈ i.opens, o.name.size < 65536 ∧ 0 ≤ o.digest ∧ o.digest < 4294967296
  fixes : ∀ f ∈ i.fixes, f.op.size < 65536
  sigs : ∀ s ∈ i.sigs, s.name.size < 65536 ∧ ∀ n ∈ s.type, n.text.size < 65536
  datas : ∀ d ∈ i.datas, d.name.size < 65536 ∧ ∀ c ∈ d.cons, c.name.size < 65536 ∧ ∀ t ∈ c.args, ∀ n ∈ t, n.text.size < 65536
theorem datas_ok2 {l : List Dt} (h : datasE l = 0 ∨ datasE l = 102) : l.length ≤ 60 ∧ ∀ d ∈ l, dtB d = true := by
  unfold datasE at h
  split at h
  · rcases h with h | h <;> cases h
  · rename_i h1
    rw [not_or] at h1
    exact ⟨by omega, by have := h1.2; rw [Bool.not_eq_false] at this; exact List.all_eq_true.1 this⟩
theorem fix_ok {l : List Fx} (h : fixE l = 0) : l.length ≤ 400 ∧ ∀ f ∈ l, fxB f = true := by
  unfold fixE at h
  split at h
  · cases h
  · rename_i h1
    rw [not_or] at h1
    exact ⟨by omega, by have := h1.2; rw [Bool.not_eq_false] at this; exact List.all_eq_true.1 this⟩
theorem ifc_fit {lt : ByteArray → ByteArray → Bool} {i : Ifc} (h : ifcB lt i = true) (hs : IfcShort i) : IfcFit i := by
  unfold ifcB at h
  simp only [Bool.and_eq_true, Bool.or_eq_true, decide_eq_true_eq, beq_iff_eq] at h
  obtain ⟨⟨⟨⟨⟨⟨⟨h1, h2⟩, h3⟩, h4⟩, h5⟩, h6⟩, h7⟩, h8⟩ := h
  have hd := datas_ok2 h5
  have hf := fix_ok h6
  unfold modB at h1
  simp only [Bool.and_eq_true, decide_eq_true_eq] at h1
  unfold envB at h7
  simp only [Bool.and_eq_true, List.all_eq_true] at h7
  refine ⟨by omega, by omega, by omega, by omega, by omega, fun o ho => hs.opens o ho, fun d hdm => ?_, fun f hfm => ?_, fun s hsm => ?_⟩
  · have hb := hd.2 d hdm
    have hsd := hs.datas d hdm
    unfold dtB at hb
    simp only [Bool.and_eq_true, decide_eq_true_eq, List.all_eq_true] at hb
    obtain ⟨⟨⟨⟨⟨b1, b2⟩, b3⟩, b4⟩, b5⟩, b6⟩ := hb
    refine ⟨hsd.1, b2, by omega, by omega, fun c hc => ?_⟩
    have hcb := b6 c hc
    have hsc := hsd.2 c hc
    unfold ctB at hcb
    simp only [Bool.and_eq_true, decide_eq_true_eq, List.all_eq_true] at hcb
    refine ⟨hsc.1, by omega, fun t ht => ?_⟩
    have hta := hcb.2 t ht
    unfold argB at hta
    simp only [Bool.and_eq_true] at hta
    exact typ_fit hta.1 (hsc.2 t ht)
  · have hb := hf.2 f hfm
    unfold fxB at hb
    simp only [Bool.and_eq_true, decide_eq_true_eq] at hb
    exact ⟨hs.fixes f hfm, ⟨by omega, by omega⟩, by omega, by omega⟩
  · have hb := h7.1 s hsm
    unfold sgB at hb
    simp only [Bool.and_eq_true] at hb
    exact ⟨(hs.sigs s hsm).1, typ_fit hb.1.2 (hs.sigs s hsm).2⟩
end Go.Proofs.YtinekmjengckdaaGreatDoor

namespace Go.Proofs.YtinekmjengckdaaGreatDoor
def NoneB (l : List Dt) (con : ByteArray) (i k : Nat) : Prop := ∀ (i' k' : Nat) (d : Dt) (x : Ct), l[i']? = some d → d.cons[k']? = some x → (i' < i ∨ (i' = i ∧ k' < k)) → x.name ≠ con
theorem findG_here (con : ByteArray) : ∀ (l : List Dt) (s i k : Nat) (d : Dt) (x : Ct), l[i]? = some d → d.cons[k]? = some x → x.name = con → NoneB l con i k → findG con s l = some (s + i, k)
  | [], s, i, k, d, x, hd, _, _, _ => by simp at hd
  | y :: l, s, i, k, d, x, hd, hk, hx, hn => by
    unfold findG
    cases i with
    | zero =>
      rw [List.getElem?_cons_zero] at hd
      injection hd with hd
      subst hd
      have : y.cons.findIdx? (fun c => decide (c.name = con)) = some k := by
        rw [List.findIdx?_eq_some_iff_getElem]
        obtain ⟨hkl, he⟩ := List.getElem?_eq_some_iff.1 hk
        refine ⟨hkl, by rw [he]; exact decide_eq_true hx, fun j hj => ?_⟩
        rw [decide_eq_true_eq]
        exact hn 0 j y _ (by rw [List.getElem?_cons_zero]) (List.getElem?_eq_getElem (by omega)) (.inr ⟨rfl, hj⟩)
      rw [this]
      simp
    | succ i =>
      rw [List.getElem?_cons_succ] at hd
      have : y.cons.findIdx? (fun c => decide (c.name = con)) = none := by
        rw [List.findIdx?_eq_none_iff]
        intro c hc
        rw [decide_eq_false_iff_not]
        obtain ⟨j, hj⟩ := List.mem_iff_getElem?.1 hc
        exact hn 0 j y c (by rw [List.getElem?_cons_zero]) hj (.inl (by omega))
      rw [this]
      dsimp only
      rw [findG_here con l (s + 1) i k d x hd hk hx (fun i' k' d' x' h1 h2 h3 => hn (i' + 1) k' d' x' (by rw [List.getElem?_cons_succ]; exact h1) h2 (by omega))]
      congr 2
      omega
theorem findG_none (con : ByteArray) (l : List Dt) (s : Nat) (h : NoneB l con l.length 0) : findG con s l = none := by
  cases e : findG con s l with
  | none => rfl
  | some r =>
    have hm : con ∈ consNames l := (findG_mem con l s).1 (by rw [e]; rfl)
    obtain ⟨d, hd, hx⟩ := List.mem_flatMap.1 hm
    obtain ⟨x, hx1, hx2⟩ := List.mem_map.1 hx
    obtain ⟨i, hi⟩ := List.mem_iff_getElem?.1 hd
    obtain ⟨k, hk⟩ := List.mem_iff_getElem?.1 hx1
    exact absurd hx2 (h i k d x hi hk (.inl (List.getElem?_eq_some_iff.1 hi).1))
end Go.Proofs.YtinekmjengckdaaGreatDoor
