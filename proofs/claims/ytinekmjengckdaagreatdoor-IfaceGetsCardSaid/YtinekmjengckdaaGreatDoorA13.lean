/-
  Layer 10, the program's side: rows put together: clones, the type of a function, a type's own type. Layer 10, the program's side: the type of a function, and a type's own type. Layer 10, the program's side: what a type takes, and what it comes to.
-/
import Derived.Test.YtinekmjengckdaaGreatDoorA12
import Derived.Test.YtinekmjengckdaaGreatDoorA02
import Derived.Deep.RegionHeld3
namespace Go.Proofs.YtinekmjengckdaaGreatDoor
open Go.RowKit
set_option maxHeartbeats 4000000
set_option maxRecDepth 100000
theorem own_start {w : World} {g e size : Nat} {base : Nat} (h : Blk w g e #[]) (hb : base ≤ g) : w.ownsRow base e size (.slice (some ⟨g, 0, none⟩) 0 0) 0 [] :=
  ⟨by simp, .inr ⟨g, 0, #[], rfl, hb, h, Nat.le_refl _, by simp only [maxLen]; omega, by simp, by simp⟩⟩
def nd4 (n : Nd) : List Value := [.int .i64 n.kind, .string n.text, .int .i64 n.num, .int .i64 n.kids]
theorem nd4_len (l : List Nd) : (l.flatMap nd4).length = l.length * 4 := by
  induction l with
  | nil => rfl
  | cons x l ih => rw [List.flatMap_cons, List.length_append, ih, List.length_cons]; simp [nd4]; omega
theorem nd4_one (l : List Nd) : ∀ u ∈ l.flatMap nd4, u.oneCell' = true := by
  intro u hu
  obtain ⟨x, _, hx⟩ := List.mem_flatMap.1 hu
  simp only [nd4, List.mem_cons, List.not_mem_nil, or_false] at hx
  rcases hx with rfl | rfl | rfl | rfl <;> rfl
theorem RdN.rd {T : Nat → Prop} {w : World} {A : Option Addr} {m c : Nat} {l : List Nd} (h : RdN T w (.slice A m c) l) : m = l.length ∧ Rd T w A (l.flatMap nd4) := by
  obtain ⟨A', c', ps, h1, h2, h3, h4, h5⟩ := h
  injection h1 with e1 e2 e3
  subst e1
  refine ⟨e2, ?_⟩
  have : l.flatMap nd4 = ps.flatMap fun p => ndv p.1 p.2 := by
    rw [← h2, List.flatMap_map]
    rfl
  rw [this]
  exact h3
theorem RdN.mk {T : Nat → Prop} {w : World} {A : Option Addr} {c : Nat} {l : List Nd} (h : Rd T w A (l.flatMap nd4)) (hs : ∀ n ∈ l, ndOk n) (hn : l.length ≤ 1000000) : RdN T w (.slice A l.length c) l := by
  refine ⟨A, c, l.map fun n => (n, undef), rfl, by rw [List.map_map]; exact List.map_id _, ?_, fun p hp => ?_, by omega⟩
  · have : l.flatMap nd4 = (l.map fun n => (n, undef)).flatMap fun p => ndv p.1 p.2 := by
      rw [List.flatMap_map]
      rfl
    rw [← this]
    exact h
  · obtain ⟨n, hn, rfl⟩ := List.mem_map.1 hp
    exact hs n hn
theorem infoNd : (Tryz.prog.info? 59).map (fun i => (i.zero, i.size, i.bytes)) = some (some (.agg #[.int .i64 0, .string ⟨#[]⟩, .int .i64 0, .int .i64 0]), 4, 40) := by kernel_rfl
theorem infoCt : (Tryz.prog.info? 64).map (fun i => (i.zero, i.size, i.bytes)) = some (some (.agg #[.string ⟨#[]⟩, .slice none 0 0]), 2, 40) := by kernel_rfl
theorem clone_n (l : List Nd) (v : Value) (T : Nat → Prop) (w : World) (hr : RdN T w v l) (hn : l.length ≤ 1000000) :
    Calls Tryz.prog 99 #[v] w fun e w' => ∃ v', e = .returned v' ∧ RdN (fun k => w.heap.size ≤ k) w' v' l ∧ Chg (fun _ => False) w w' := by
  obtain ⟨A, c, rfl⟩ := hr.val
  have hsz := hr.oks
  have hrd := hr.rd.2
  rcases A with _ | ad
  · have hl : l = [] := by
      rcases l with _ | ⟨x, l⟩
      · rfl
      · obtain ⟨ad, h, _⟩ := hrd (by simp [nd4])
        cases h
    subst hl
    clear hr hsz hrd
    have qe : ∀ (w : World) (a : Option Addr) (n c n' c' : Nat), (binOp .eql 54 (.slice a n c) (.slice none n' c')).run Tryz.prog w = .ok (.bool a.isNone) w := fun w a n c n' c' => Lib.run_eql_slice_nil w _ _ a n c n' c' Tryz.underlying54
    go_enter Tryz.func99, Tryz.ntmps99
    go_wp2_with fail
    go_ret
    exact ⟨_, rfl, RdR.nil_ _ _ _ _, Chg.refl _ _⟩
  · obtain ⟨i_, hi, hz, hs, hb⟩ := info_parts infoNd
    have hlen := nd4_len l
    have hone := nd4_one l
    have hrd2 := hrd.chg ((Chg.refl (fun _ => False) w).alloc (.cells #[] 59)) (fun _ _ _ => id)
    have hm1 : 0 + l.length ≤ maxLen := by simp only [maxLen]; omega
    have hm2 : (0 + l.length) * 40 ≤ 140737488355328 := by omega
    have ho := own_start (base := w.heap.size) (size := 4) (Blk.new w 59 #[]) (Nat.le_refl _)
    have hbs : w.heap.size ≤ (w.alloc (.cells #[] 59)).heap.size := by rw [size_alloc]; omega
    have HSZ := hH hsz
    clear hr hsz hrd
    have qe : ∀ (w : World) (a : Option Addr) (n c n' c' : Nat), (binOp .eql 54 (.slice a n c) (.slice none n' c')).run Tryz.prog w = .ok (.bool a.isNone) w := fun w a n c n' c' => Lib.run_eql_slice_nil w _ _ a n c n' c' Tryz.underlying54
    go_enter Tryz.func99, Tryz.ntmps99
    go_wp2_with (at_builtin
                 refine wpList_append_rd _ rfl (.tmp 5) (.tmp 6) 54 rfl w.heap.size 59 i_ _ 4 40 Tryz.underlying54 hi hz hs hb rfl (by decide) _ 0 [] rfl ho T (some ad) l.length c (l.flatMap nd4) rfl hlen hrd2 hone hm1 hm2 hbs ?_
                 intro v5 w5 ho5 hc5 hat
                 have HO5 := hH ho5
                 have HC5 := hH (((Chg.refl (fun _ => False) w).alloc (.cells #[] 59)).trans hc5 (fun i hi e => by have := (ho.lt i e).1; omega))
                 clear ho5 hc5 hat)
    go_ret
    have hO := uH HO5
    rw [Nat.zero_add, List.nil_append] at hO
    obtain ⟨B, c5, rfl⟩ := own_val hO
    exact ⟨_, rfl, RdN.mk ((own_rd hO (by omega)).mono (fun k hk => (hO.lt k hk).1)) (uH HSZ) hn, uH HC5⟩
end Go.Proofs.YtinekmjengckdaaGreatDoor

namespace Go.Proofs.YtinekmjengckdaaGreatDoor
open Go.RowKit
set_option maxHeartbeats 4000000
set_option maxRecDepth 100000
def capOk (v : Value) : Prop := ∃ A n c, v = .slice A n c ∧ n ≤ c ∧ c ≤ maxLen
theorem own_cap {w : World} {base : Nat} {e : TypeId} {size n : Nat} {v : Value} {xs : List Value} (h : w.ownsRow base e size v n xs) : capOk v := by
  rcases h.2 with ⟨rfl, rfl⟩ | ⟨g, cap, cur, rfl, _, _, hcap, hmx, _, _⟩
  · exact ⟨none, 0, 0, rfl, Nat.le_refl _, Nat.zero_le _⟩
  · exact ⟨_, _, _, rfl, hcap, hmx⟩
theorem own_one {w : World} {g e : Nat} {base : Nat} {xs : List Value} {n : Nat} (h : Blk w g e xs.toArray) (hb : base ≤ g) (hn : xs.length = n) : w.ownsRow base e n (.slice (some ⟨g, 0, none⟩) 1 1) 1 xs :=
  ⟨by rw [hn, Nat.one_mul], .inr ⟨g, 1, xs.toArray, rfl, hb, h, Nat.le_refl _, by simp only [maxLen]; omega, by simp [hn], by simp [← hn]⟩⟩
end Go.Proofs.YtinekmjengckdaaGreatDoor

namespace Go.Proofs.YtinekmjengckdaaGreatDoor
open Go.RowKit
set_option maxHeartbeats 4000000
set_option maxRecDepth 100000
theorem infoRow : (Tryz.prog.info? 54).map (fun i => (i.zero, i.size, i.bytes)) = some (some (.slice none 0 0), 1, 24) := by kernel_rfl
section
variable {T : Nat → Prop} {w : World}
theorem Rd.drop {A : Option Addr} {b o : Nat} {xs : List Value} (hA : A = some ⟨b, o, none⟩) (h : Rd T w A xs) (n : Nat) : Rd T w (some ⟨b, o + n, none⟩) (xs.drop n) := fun hne => by
  have hx : xs ≠ [] := by rintro rfl; simp at hne
  obtain ⟨b', o', e, ht, hc⟩ := h.flat hx
  subst hA
  injection e with e
  injection e with e1 e2
  subst e1 e2
  refine ⟨_, rfl, ht, fun j u hu => ?_⟩
  rw [List.getElem?_drop] at hu
  rw [add_flat, Nat.add_assoc]
  exact hc _ _ hu
theorem Rd.take {A : Option Addr} {xs : List Value} (h : Rd T w A xs) (n : Nat) : Rd T w A (xs.take n) := fun hne => by
  have hx : xs ≠ [] := by rintro rfl; simp at hne
  obtain ⟨ad, e, ht, hc⟩ := h hx
  exact ⟨ad, e, ht, fun j u hu => hc j u (by
    rw [List.getElem?_take] at hu
    split at hu
    · exact hu
    · cases hu)⟩
theorem nd4_drop : ∀ (k : Nat) (l : List Nd), (l.flatMap nd4).drop (k * 4) = (l.drop k).flatMap nd4
  | 0, l => by simp
  | k + 1, [] => by simp
  | k + 1, x :: l => by
    rw [List.flatMap_cons, Nat.succ_mul, Nat.add_comm, ← List.drop_drop, List.drop_succ_cons, ← nd4_drop k l]
    rfl
theorem nd4_take : ∀ (k : Nat) (l : List Nd), (l.flatMap nd4).take (k * 4) = (l.take k).flatMap nd4
  | 0, l => by simp
  | k + 1, [] => by simp
  | k + 1, x :: l => by
    have h4 : (nd4 x).length = 4 := rfl
    rw [List.flatMap_cons, List.take_append, h4, show (k + 1) * 4 - 4 = k * 4 by omega, nd4_take k l, List.take_of_length_le (by rw [h4]; omega), List.take_succ_cons, List.flatMap_cons]
theorem RdN.sub {b o m c c' : Nat} {l : List Nd} (h : RdN T w (.slice (some ⟨b, o, none⟩) m c) l) (k n : Nat) (hn : k + n ≤ l.length) : RdN T w (.slice (some ⟨b, o + k * 4, none⟩) n c') ((l.drop k).take n) := by
  have hb := RdR.big h
  have h1 := (h.rd.2.drop rfl (k * 4)).take (n * 4)
  rw [nd4_drop, nd4_take] at h1
  have hl : ((l.drop k).take n).length = n := by rw [List.length_take, List.length_drop]; omega
  have hs := h.oks
  obtain ⟨A', c3, ps, e, e2, e3, e4, e5⟩ := h
  have : RdN T w (.slice (some ⟨b, o + k * 4, none⟩) ((l.drop k).take n).length c') ((l.drop k).take n) := by
    refine ⟨_, c', ((l.drop k).take n).map fun n => (n, undef), rfl, by rw [List.map_map]; exact List.map_id _, ?_, fun p hp => ?_, by omega⟩
    · have : ((l.drop k).take n).flatMap nd4 = (((l.drop k).take n).map fun n => (n, undef)).flatMap fun p => ndv p.1 p.2 := by
        rw [List.flatMap_map]
        rfl
      rw [← this]
      exact h1
    · obtain ⟨x, hx, rfl⟩ := List.mem_map.1 hp
      exact hs x (List.mem_of_mem_drop (List.mem_of_mem_take hx))
  rw [hl] at this
  exact this
end
def partsR (l : List Nd) : List (List Nd) × List Nd := if typB l then partsL l else ([], [])
structure PSt (l : List Nd) (T : Nat → Prop) (w : World) (t out : Value) (wr : World) (m : List Nd) (ps : List (List Nd × Value)) (b o c : Nat) : Prop where
  ht : t = .slice (some ⟨b, o, none⟩) m.length c
  hc : m.length ≤ c
  hmx : c ≤ maxLen
  hr : RdN T w t m
  he : eat m 1 = some m.length
  ha : m.all nodeB = true
  hp : partsL l = (ps.map Prod.fst ++ (partsL m).1, (partsL m).2)
  hl : ps.length + m.length ≤ 4000
  ho : wr.ownsRow w.heap.size 54 1 out ps.length (ps.map Prod.snd)
  hn : ∀ p ∈ ps, RdN (fun k => w.heap.size ≤ k ∧ out.ownBlock ≠ some k) wr p.2 p.1
  hch : Chg (fun _ => False) w wr
theorem flat_sing {α β : Type} (f : α → β) : ∀ l : List α, (l.flatMap fun p => [f p]) = l.map f
  | [] => rfl
  | x :: l => by rw [List.flatMap_cons, flat_sing f l]; rfl
theorem rows_mk {T : Nat → Prop} {w : World} {A : Option Addr} {c : Nat} {ps : List (List Nd × Value)} (h : Rd T w A (ps.map Prod.snd)) (hn : ∀ p ∈ ps, RdN T w p.2 p.1) (hl : ps.length ≤ 1000000) : RdNs T w (.slice A ps.length c) (ps.map Prod.fst) :=
  ⟨A, c, ps, by rw [List.length_map], rfl, by rw [flat_sing Prod.snd]; exact h, hn, by rw [List.length_map]; omega⟩
def lenV : Value → Nat
  | .slice _ n _ => n
  | _ => 0
theorem kids_two {m : List Nd} {a : Nat} (h : eat (m.drop 1) 1 = some a) : kidsL m 0 2 = [1, ((1 + a : Nat) : Int)] := by
  rw [show 2 = 0 + 1 + 1 from rfl, kidsL_succ (b := a) h, kidsL_succ (b := 0) (eat_zero _)]
  simp [kidsL]
theorem PSt.next {l : List Nd} {T : Nat → Prop} {w wq w4 w5 : World} {t out v4 v5 : Value} {n : Nd} {m' : List Nd} {ps : List (List Nd × Value)} {b o c a : Nat} {O : Obj} (h : PSt l T w t out wq (n :: m') ps b o c) (hT : n.text = ArrowT) (ha : eat m' 1 = some a) (ha0 : 0 < a) (hal : a < m'.length) (he : eat (m'.drop a) 1 = some (m'.drop a).length)
    (hch : Chg (fun _ => False) wq w4) (hv4 : RdN (fun k => wq.heap.size ≤ k) w4 v4 (m'.take a)) (ho5 : w5.ownsRow w.heap.size 54 1 v5 (ps.length + 1) (ps.map Prod.snd ++ [v4])) (hc5 : Chg (fun k => out.ownBlock = some k) (w4.alloc O) w5) (hat : v5.ownBlock = out.ownBlock ∨ v5.ownBlock = some (w4.alloc O).heap.size) :
    PSt l T w (.slice (some ⟨b, o + (1 + a) * 4, none⟩) (m'.drop a).length (c - (1 + a))) v5 w5 (m'.drop a) (ps ++ [(m'.take a, v4)]) b (o + (1 + a) * 4) (c - (1 + a)) := by
  have hcc := h.hc
  have hmx := h.hmx
  have hl := h.hl
  have hd : (m'.drop a).length = m'.length - a := List.length_drop
  rw [List.length_cons] at hcc hl
  have hz4 := hch.size
  have hz5 := hc5.size
  have hlt : ∀ k, out.ownBlock = some k → w.heap.size ≤ k ∧ k < wq.heap.size := fun k e => ⟨(h.ho.lt k e).1, (h.ho.lt k e).2⟩
  rw [size_alloc] at hz5 hat
  refine ⟨rfl, by rw [hd]; omega, by omega, ?_, he, ?_, ?_, ?_, ?_, ?_, ?_⟩
  · have hr := h.hr
    rw [h.ht] at hr
    have := hr.sub (c' := c - (1 + a)) (1 + a) (m'.length - a) (by rw [List.length_cons]; omega)
    rw [show (n :: m').drop (1 + a) = m'.drop a from by rw [Nat.add_comm, List.drop_succ_cons], List.take_of_length_le (by rw [hd]; exact Nat.le_refl _)] at this
    rw [hd]
    exact this
  · rw [List.all_eq_true]
    intro x hx
    exact List.all_eq_true.1 h.ha x (List.mem_cons_of_mem _ (List.mem_of_mem_drop hx))
  · rw [h.hp, parts_arrow_step hT ha]
    simp
  · rw [List.length_append, hd]
    simp
    omega
  · rw [List.map_append, List.length_append]
    exact ho5
  · intro p hp
    rcases List.mem_append.1 hp with hp | hp
    · have h1 := (h.hn p hp).low
      refine ((h1.chg (hch.trans' ((Chg.refl _ w4).alloc O)) (fun _ _ _ => id)).chg hc5 (fun k hk _ e => hk.1.2 e)).mono fun k hk => ⟨hk.1.1, fun e => ?_⟩
      rcases hat with e2 | e2
      · exact hk.1.2 (e2 ▸ e)
      · rw [e2] at e
        injection e with e
        have := hk.2
        omega
    · obtain rfl := List.mem_singleton.1 hp
      have h1 := hv4.low
      refine ((h1.chg ((Chg.refl (fun _ => False) w4).alloc O) (fun _ _ _ => id)).chg hc5 (fun k hk _ e => by have := (hlt k e).2; have := hk.1; omega)).mono fun k hk => ⟨by have := h.hch.size; have := hk.1; omega, fun e => ?_⟩
      rcases hat with e2 | e2
      · have := (hlt k (e2 ▸ e)).2
        have := hk.1
        omega
      · rw [e2] at e
        injection e with e
        have := hk.2
        omega
  · exact (h.hch.trans' (hch.trans' ((Chg.refl _ w4).alloc O))).trans hc5 (fun i hi e => by have := (hlt i e).1; omega)
theorem parts_any (l : List Nd) (v : Value) (T : Nat → Prop) (w : World) (hr : RdN T w v l) (hcap : capOk v) (lay : Lay w) :
    Calls Tryz.prog 121 #[v] w fun e w' => ∃ v1 v2, e = .returned (.tuple #[v1, v2]) ∧ RdNs (fun k => w.heap.size ≤ k) w' v1 (partsR l).1 ∧ RdN (fun k => w.heap.size ≤ k) w' v2 (partsR l).2 ∧ Chg (fun _ => False) w w' := by
  have HC := hH (check_any l v T w hr lay)
  cases ht : typB l with
  | false =>
    have hP : partsR l = ([], []) := by unfold partsR; rw [ht]; rfl
    have hE : typE l = 90 := by unfold typE; rw [ht]; rfl
    rw [hP]
    rw [hE] at HC
    obtain ⟨A, c, rfl⟩ := hr.val
    clear hr hcap hP hE ht
    go_enter Tryz.func121, Tryz.ntmps121
    go_wp2_with (go_at_call 98; refine (uH HC).mono ?_; rintro e w2 ⟨rfl, hc2⟩; have HC2 := hH hc2; clear hc2)
    go_ret2
    exact ⟨_, _, rfl, RdR.nil_ _ _ _ _, RdR.nil_ _ _ _ _, uH HC2⟩
  | true =>
    have hP : partsR l = partsL l := by unfold partsR; rw [ht]; rfl
    have hE : typE l = 0 := by unfold typE; rw [ht]; rfl
    rw [hP]
    rw [hE] at HC
    unfold typB at ht
    simp only [Bool.and_eq_true, decide_eq_true_eq] at ht
    obtain ⟨⟨hl4, hwh⟩, hall⟩ := ht
    obtain ⟨hne, he⟩ := whole_iff.1 hwh
    obtain ⟨x, l', hxl⟩ := List.exists_cons_of_ne_nil hne
    obtain ⟨b, o, c, hv, _⟩ := hr.at_ (k := 0) (n := x) (by rw [hxl]; rfl)
    obtain ⟨A', n', c', hv', hcc, hcm⟩ := hcap
    rw [hv] at hv'
    injection hv' with e1 e2 e3
    subst e1 e2 e3
    subst hv
    have HST := hH (fun (W : World) (hW : Chg (fun _ => False) w W) => (⟨rfl, hcc, hcm, hr, he, hall, by rfl, by simpa using hl4, World.ownsRow_nil _ _ _ _, fun _ h => absurd h List.not_mem_nil, hW⟩ : PSt l T w (.slice (some ⟨b, o, none⟩) l.length c) (.slice none 0 0) W l [] b o c))
    clear hr hcc hcm he hall hwh hl4 hP hE hxl hne
    obtain ⟨i_, hi, hz, hs, hb⟩ := info_parts infoRow
    go_enter Tryz.func121, Tryz.ntmps121
    go_wp2_with (go_at_call 98; refine (uH HC).mono ?_; rintro e w2 ⟨rfl, hc2⟩; have HC2 := hH hc2; clear hc2)
    go_loopw [0, 4] (fun t out wr => ∃ m ps b o c, PSt l T w t out wr m ps b o c) (fun t _ _ => lenV t)
    case atStart => exact ⟨l, [], b, o, c, uH HST _ (uH HC2)⟩
    case round =>
      clear HST HC2 HC
      obtain ⟨wq, rfl⟩ : ∃ wq : World, wq = wr := ⟨_, rfl⟩
      obtain ⟨m, ps, b, o, c, hst⟩ := hrel
      obtain rfl := hst.ht
      obtain ⟨B, c5, rfl⟩ := own_val hst.ho
      have hml := hst.hl
      have hmc := hst.hc
      have hmx := hst.hmx
      cases m with
      | nil =>
        have := hst.he
        simp [eat] at this
      | cons n m' =>
        have hnb : nodeB n = true := List.all_eq_true.1 hst.ha n List.mem_cons_self
        obtain ⟨b', o', c', hv, _, _, _, c1, _, _⟩ := hst.hr.at_ (k := 0) (n := n) rfl
        injection hv with hv1 hv2 hv3
        injection hv1 with hv1
        injection hv1 with e1 e2
        subst e1 e2
        rw [Nat.zero_mul, Nat.add_zero] at c1
        have q1 := (hst.hch.cell (World.block_lt_of_cell? w _ c1) id).trans c1
        have htx := text_eq n.text [45, 62]
        by_cases ht : n.text = ArrowT
        · rw [decide_eq_true (show n.text = ⟨[45, 62].toArray⟩ from ht)] at htx
          obtain ⟨hk31, hk0, hk2⟩ := node_arrow hnb ht
          obtain ⟨a, ha1, ha2, ha3, ha4, ha5⟩ := arrow_split hst.he hk2
          have hk2n : n.kids.toNat = 2 := by rw [hk2]; rfl
          have HKI := hH (kids_any (n :: m') _ 0 T wq (hst.hr.chg hst.hch (fun _ _ _ => id)) (by omega) n rfl (by omega) m'.length (by rw [hk2n]; exact hk2n ▸ (whole_kids hst.he).2))
          rw [hk2n, kids_two (m := n :: m') (a := a) ha1] at HKI
          obtain ⟨q, hq⟩ : ∃ q : Nat, q = 1 + a := ⟨_, rfl⟩
          rw [← hq] at HKI
          have hq0 : (0 : Int) ≤ (q : Int) := by omega
          have hq1 : (1 : Int) ≤ (q : Int) := by omega
          have hqc : (q : Int) ≤ (c : Int) := by simp only [List.length_cons] at hml hmc; omega
          have hq1n : 1 ≤ q := by omega
          have hc1n : c ≠ 1 := by simp only [List.length_cons] at hmc; omega
          have hcqn : c ≠ q := by simp only [List.length_cons] at hmc; omega
          have hqcn2 : q ≠ c := fun e => hcqn e.symm
          have hne2 : List.map intl [1, (q : Int)] ≠ [] := List.cons_ne_nil _ _
          have hqcn : q ≤ c := by omega
          have hqf1 : 0 < q := by omega
          have hqf2 : (0 : Int) < (q : Int) := by omega
          have hqm : (q : Int) ≤ ((m'.length + 1 : Nat) : Int) := by omega
          have HST := hH hst
          have HA := hH (show eat m' 1 = some a from ha1)
          have HA5 := hH ha5
          have HTX := hH ht
          have hta : (m'.take a).length = a := by rw [List.length_take]; omega
          have HCL := hH (fun W (hW : Chg (fun _ => False) wq W) => clone_n (m'.take a) (.slice (some ⟨b, o + 4, none⟩) (q - 1) (c - 1)) T W (by rw [show q - 1 = a by omega]; exact ((hst.hr.chg hst.hch (fun _ _ _ => id)).chg hW (fun _ _ _ => id)).sub 1 a (by rw [List.length_cons]; omega)) (by rw [hta]; simp only [List.length_cons] at hml; omega))
          have HSZ := hH (fun W (hW : Chg (fun _ => False) wq W) (O : Obj) => show w.heap.size ≤ (W.alloc O).heap.size from by rw [size_alloc]; have := hst.hch.size; have := hW.size; omega)
          have HRN := hH (fun (W : World) (v : Value) => (rd_new W W.heap.size 54 [v] rfl).mono (T' := fun _ => True) (fun _ _ => trivial))
          have ho1 : ∀ (A4 : Option Addr) (c4 : Nat), ∀ u ∈ [Value.slice A4 (m'.take a).length c4], u.oneCell' = true := by intro A4 c4 u hu; simp at hu; subst hu; rfl
          have hm1 : ps.length + 1 ≤ maxLen := by simp only [maxLen]; omega
          have hm2 : (ps.length + 1) * 24 ≤ 140737488355328 := by omega
          have hal : a < m'.length := ha3
          have HQ := hH hq
          obtain ⟨xt, hxt⟩ : ∃ xt : List Nd, xt = m'.take a := ⟨_, rfl⟩
          rw [← hxt] at HCL ho1
          have HXT := hH hxt
          clear hxt
          have hpm : ps.length + m'.length ≤ 4000 := by simp only [List.length_cons] at hml; omega
          clear hst ha1 ha4 ha5 c1 hv2 hv3 hnb ht hq hta hk2 hk2n hk31 hk0
          have htx2 := htx.symm
          clear htx
          simp only [List.length_cons] at hml hmc ⊢
          go_wp2_with (go_at_call 158; refine (uH HKI).mono ?_; rintro e w3 ⟨KA, kc, rfl, hk, hc3⟩; obtain ⟨kb, ko, rfl, hkb, hat⟩ := hk.flat hne2; have HKB := hH hkb; (have z0 := hat 0 _ rfl); (have z1 := hat 1 _ rfl); unfold intl at z0 z1; rw [Nat.add_zero] at z0; have HC3 := hH hc3; clear hat hk hc3 hkb)
          have HCQ : Hid (Chg (fun _ => False) w3 w3.drew) := hH (Chg.drew (Chg.refl _ _))
          have KSW := hH (show ∀ W, Chg (fun _ => False) w3 W → W.cell? ⟨kb, ko, none⟩ = some (.int .i64 1) ∧ W.cell? ⟨kb, ko + 1, none⟩ = some (.int .i64 (q : Int)) from fun W hW => ⟨(hW.cell (World.block_lt_of_cell? w3 _ z0) id).trans z0, (hW.cell (World.block_lt_of_cell? w3 _ z1) id).trans z1⟩)
          have KS5 := hH (show ∀ (W V : World) (O : Obj), Chg (fun _ => False) w3 W → Chg (fun k => (Value.slice B ps.length c5).ownBlock = some k) (W.alloc O) V → V.cell? ⟨kb, ko, none⟩ = some (.int .i64 1) ∧ V.cell? ⟨kb, ko + 1, none⟩ = some (.int .i64 (q : Int)) from fun W V O hW hV => by
            have h1 := uH KSW _ (hW.alloc O)
            have hne : ¬ (Value.slice B ps.length c5).ownBlock = some kb := fun e => by have := ((uH HST).ho.lt kb e).2; have := uH HKB; omega
            exact ⟨(hV.cell (World.block_lt_of_cell? _ _ h1.1) hne).trans h1.1, (hV.cell (World.block_lt_of_cell? _ _ h1.2) hne).trans h1.2⟩)
          have HKK := hH (show w3.drew.cell? ⟨kb, ko, none⟩ = some (.int .i64 1) ∧ w3.drew.cell? ⟨kb, ko + 1, none⟩ = some (.int .i64 (q : Int)) from ⟨z0, z1⟩)
          go_region_held3 (fun W' => W'.cell? ⟨kb, ko, none⟩ = some (.int .i64 1) ∧ W'.cell? ⟨kb, ko + 1, none⟩ = some (.int .i64 (q : Int))) (first | exact uH HKK | go_keep) (first
            | (go_at_call 99; (with_reducible refine (uH HCL _ ((uH HC3).trans' (uH HCQ))).mono ?_); rintro e w4 ⟨v4, rfl, hv4, hc4⟩; obtain ⟨A4, c4, rfl⟩ := hv4.val; have HV4 := hH hv4; have HN_ := hH ((uH HCQ).trans' hc4); clear HCQ; have HCQ := HN_; clear HN_ HKK; have HKK := hH (uH KSW w4 (uH HCQ)); have ho4 := own_chg (uH HST).ho ((uH HC3).trans' (uH HCQ)) (fun _ _ h => h); have hb4 := (uH HSZ) _ ((uH HC3).trans' (uH HCQ)) (.cells #[.slice A4 xt.length c4] 54); clear hv4 hc4)
            | (refine step_append_rd _ rfl (.tmp 16) (.tmp 26) 62 rfl w.heap.size 54 i_ _ 1 24 Tryz.underlying62 hi hz hs hb rfl (Nat.succ_pos 0) _ ps.length _ rfl (ho4.alloc _) (fun _ => True) (some ⟨w4.heap.size, 0, none⟩) 1 1 [.slice A4 xt.length c4] rfl rfl ((uH HRN) w4 _) (ho1 A4 c4) hm1 hm2 hb4 ?_; intro v5 w5 ho5 hc5 hat; have HO5 := hH ho5; have HC5 := hH hc5; have HAT := hH hat; have HKK := hH (uH KS5 _ _ _ (uH HCQ) hc5); clear ho5 hc5 hat))
          go_wp2_with fail
          go_roundw
          case rel =>
            have hxt := uH HXT
            subst hxt
            have hnx := (uH HST).next (uH HTX) (uH HA) ha2 hal (uH HA5) ((uH HC3).trans' (uH HCQ)) ((uH HV4).mono (fun k hk => Nat.le_trans (uH HC3).size hk)) (uH HO5) (uH HC5) (uH HAT)
            rw [List.length_drop, ← uH HQ, show m'.length - a = m'.length + 1 - q by have := uH HQ; omega] at hnx
            exact ⟨_, _, _, _, _, hnx⟩
          case measure => have hq := uH HQ; simp [lenV]; omega
        · rw [decide_eq_false (show ¬ n.text = ⟨[45, 62].toArray⟩ from ht)] at htx
          have hend : partsL (n :: m') = ([], n :: m') := parts_end ht
          have hpl := hst.hp
          rw [hend, List.append_nil] at hpl
          have HPL := hH hpl
          have HST := hH hst
          have HCL := hH (clone_n (n :: m') _ T wq (hst.hr.chg hst.hch (fun _ _ _ => id)) (by omega))
          have htx2 := htx.symm
          clear hst c1 hv2 hv3 hnb ht htx hpl hend
          go_wp2_with (go_at_call 99; refine (uH HCL).mono ?_; rintro e w4 ⟨v4, rfl, hv4, hc4⟩; have HV4 := hH hv4; have HC4 := hH hc4; clear hv4 hc4)
          go_ret2
          rw [uH HPL]
          have hs := uH HST
          refine ⟨_, _, rfl, ?_, (uH HV4).mono (fun k hk => Nat.le_trans hs.hch.size hk), hs.hch.trans' (uH HC4)⟩
          exact RdNs.chg (rows_mk ((own_rd hs.ho (by omega)).mono (fun k hk => (hs.ho.lt k hk).1)) (fun p hp => (hs.hn p hp).mono (fun k hk => hk.1)) (by omega)) (uH HC4) (fun _ _ _ => id)
end Go.Proofs.YtinekmjengckdaaGreatDoor
