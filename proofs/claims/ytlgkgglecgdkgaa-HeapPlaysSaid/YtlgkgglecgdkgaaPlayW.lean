/-
  What the heap's functions do, told by the document's things.
-/
import Derived.Test.YtlgkgglecgdkgaaPlayC
import Derived.Test.YtlgkgglecgdkgaaPlayV
namespace Go.Proofs.Ytlgkgglecgdkgaa
open Go.RowKit
set_option maxHeartbeats 400000
set_option maxRecDepth 100000

theorem numW_back (n : Int) : numW (backV (u64n n)) = numW n := by
  rw [← isNum_num, num_isNum _ (numW_lt n) (numW_odd n)]
theorem clR_num (L : List Int) (n : Int) : ClR L (true, backV (u64n n)) := by
  refine ⟨fun _ => ?_, fun h => by cases h⟩
  show isNumV (numW (backV (u64n n))) = backV (u64n n)
  rw [numW_back, isNum_num]
/-- What a number tells: a number, or one of the references. -/
def pickR (rs : List Rf) (n : Int) : Rf := if 0 ≤ n ∧ 0 < rs.length then rs.getD (n.toNat % rs.length) (true, 0) else (true, backV (u64n n))
theorem pickR_cl {L : List Int} {rs : List Rf} (h : ∀ r ∈ rs, ClR L r) (n : Int) : ClR L (pickR rs n) := by
  unfold pickR
  split
  · rename_i hh
    have hlt : n.toNat % rs.length < rs.length := Nat.mod_lt _ hh.2
    rw [List.getD_eq_getElem?_getD, List.getElem?_eq_getElem hlt]
    exact h _ (List.getElem_mem hlt)
  · exact clR_num L n
theorem pick_one (n : Nat) (words : List Nat) (refs : List (Bool × Int)) (A A2 : Option Addr) (c c2 : Nat) (w : World) (hl : words.length ≤ 1000000) (he : refs.length = words.length) (h0 : 0 < words.length)
    (hw : Rd (fun _ => True) w A (words.map wv)) (hr : Rd (fun _ => True) w A2 (refs.flatMap rfv)) :
    Calls Try.prog 15 #[.int .i64 (n : Int), .slice A words.length c, .slice A2 refs.length c2] w fun e w' =>
      e = .returned (.tuple #[.int .u64 ((words.getD (n % words.length) 0 : Nat) : Int), .agg #[.bool (refs.getD (n % words.length) (true, 0)).1, .int .i64 (refs.getD (n % words.length) (true, 0)).2]]) ∧ Chg (fun _ => False) w w' := by
  have hk : n % words.length < words.length := Nat.mod_lt _ h0
  obtain ⟨b, o, rfl, _, hc⟩ := hw.flat (by intro e; have := congrArg List.length e; rw [List.length_map, List.length_nil] at this; omega)
  obtain ⟨b2, o2, rfl, _, hc2⟩ := hr.flat (by intro e; have := congrArg List.length e; rw [rfv_len, List.length_nil] at this; omega)
  have g0 := hc _ _ (wv_at words hk)
  have hr2 : refs[n % words.length]? = some (refs.getD (n % words.length) (true, 0)) := by rw [List.getD_eq_getElem?_getD, List.getElem?_eq_getElem (by rw [he]; exact hk)]; rfl
  have g1 : w.cell? ⟨b2, o2 + n % words.length * 2, none⟩ = some (.bool (refs.getD (n % words.length) (true, 0)).1) := hc2 _ _ (flat_get rfv 2 (fun _ => rfl) refs _ 0 _ hr2 (by omega))
  have g2 : w.cell? ⟨b2, o2 + n % words.length * 2 + 1, none⟩ = some (.int .i64 (refs.getD (n % words.length) (true, 0)).2) := hc2 _ _ (flat_get rfv 2 (fun _ => rfl) refs _ 1 _ hr2 (by omega))
  rw [he]
  clear hw hr hc hc2 hr2
  have a0 := (World.cell?_alloc_lt w (.cells #[.bool false, .int .i64 0] 51) _ (block_lt_of_cell g0)).trans g0
  have a1 := (World.cell?_alloc_lt w (.cells #[.bool false, .int .i64 0] 51) _ (block_lt_of_cell g1)).trans g1
  have a2 := (World.cell?_alloc_lt w (.cells #[.bool false, .int .i64 0] 51) _ (block_lt_of_cell g2)).trans g2
  generalize refs.getD (n % words.length) (true, 0) = R at *
  obtain ⟨R1, R2⟩ := R
  generalize words.getD (n % words.length) 0 = V at *
  generalize words.length = L at *
  have ht : Int.tmod (n : Int) (L : Int) = ((n % L : Nat) : Int) := rfl
  generalize hK : n % L = K at *
  have HK := hide hK
  clear hK
  have hL0 : ((L : Int) == 0) = false := by rw [beq_eq_false_iff_ne]; omega
  have hn0 : decide ((n : Int) < 0) = false := decide_eq_false (by omega)
  go_enter Try.func15, Try.ntmps15
  go_wp2_with fail
  go_region
  go_wp2_with fail
  refine bodyPost_ret (v := .tuple #[.int .u64 (V : Int), .agg #[.bool R1, .int .i64 R2]]) ?_ rfl ⟨rfl, ?_⟩
  · simp [results, Try.results15, go_sem]
  · exact ((Chg.refl _ w).alloc _).drew
theorem pick_sim (n : Int) (rs : List Rf) (wd : Int → Nat) (A A2 : Option Addr) (c c2 : Nat) (T T2 : Nat → Prop) (w : World) (hl : rs.length ≤ 1000000)
    (hw : Rd T w A ((rs.map (encR wd)).map wv)) (hr : Rd T2 w A2 (rs.flatMap rfv)) :
    Calls Try.prog 15 #[.int .i64 n, .slice A rs.length c, .slice A2 rs.length c2] w fun e w' =>
      e = .returned (.tuple #[.int .u64 ((encR wd (pickR rs n) : Nat) : Int), .agg #[.bool (pickR rs n).1, .int .i64 (pickR rs n).2]]) ∧ Chg (fun _ => False) w w' := by
  by_cases h : 0 ≤ n ∧ 0 < rs.length
  · obtain ⟨m, rfl⟩ := Int.eq_ofNat_of_zero_le h.1
    have h1 := pick_one m (rs.map (encR wd)) rs A A2 c c2 w (by simpa using hl) (by simp) (by simpa using h.2) (hw.mono (fun _ _ => trivial)) (hr.mono (fun _ _ => trivial))
    rw [List.length_map] at h1
    have hp : pickR rs (m : Int) = rs.getD (m % rs.length) (true, 0) := by unfold pickR; rw [if_pos h]; rfl
    have hlt : m % rs.length < rs.length := Nat.mod_lt _ h.2
    have he : (rs.map (encR wd)).getD (m % rs.length) 0 = encR wd (rs.getD (m % rs.length) (true, 0)) := by
      simp only [List.getD_eq_getElem?_getD, List.getElem?_map, List.getElem?_eq_getElem hlt]
      rfl
    rw [hp, ← he]
    exact h1
  · have hp : pickR rs n = (true, backV (u64n n)) := if_neg h
    rw [hp]
    have he : encR wd (true, backV (u64n n)) = numW n := by
      show numW (backV (u64n n)) = numW n
      exact numW_back n
    rw [he]
    exact pick_num n A A2 rs.length c rs.length c2 w (by omega)

theorem L_len {all : List ObjM} {L : List Int} (hn : L.Nodup) (hr : ∀ i ∈ L, 0 ≤ i ∧ i < all.length) : L.length ≤ all.length := by
  have := nodup_leI L ((List.range all.length).map Int.ofNat) hn (fun x hx => by
    obtain ⟨h1, h2⟩ := hr x hx
    exact List.mem_map.2 ⟨x.toNat, List.mem_range.2 (by omega), by show ((x.toNat : Nat) : Int) = x; omega⟩)
  simpa using this

theorem allocT_sim_yes {M : HM} {wd : Int → Nat} {g bn bo bb : Nat} {x : ByteArray} {w : World} (h : HRep w g bn bo bb M) (hx : x.size ≤ 200) (hroom : M.now.length + (x.size + 7) / 8 + 1 ≤ M.size) :
    Calls Try.prog 18 #[.pointer (some ⟨g, 0, none⟩), .string x] w fun e w' =>
      e = .returned (.tuple #[.int .u64 ((2 * M.now.length : Nat) : Int), .bool true]) ∧ HRep w' g bn bo bb (M.put ((x.size : Int).toNat * 65536 + (payW wd ⟨4, x.size, x, []⟩).length * 8 + (4 : Int).toNat) (payW wd ⟨4, x.size, x, []⟩)) ∧ Chg (fun k => k = g ∨ k = bn ∨ k = bb) w w' := by
  have hp : payW wd ⟨4, x.size, x, []⟩ = tws x.data.toList x.size := if_pos rfl
  have h1 := allocT_all M g bn bo bb x w h (by omega)
  have e : M.allocT x = some (M.put (x.size * 65536 + (x.size + 7) / 8 * 8 + 4) (tws x.data.toList x.size)) := if_pos ⟨hx, hroom⟩
  rw [e] at h1
  rw [hp, tws_len]
  have el : x.data.toList.length = x.size := by simp
  rw [el]
  exact h1
theorem allocT_sim_no {M : HM} {g bn bo bb : Nat} {x : ByteArray} {w : World} (h : HRep w g bn bo bb M) (hx : x.size ≤ 1048576) (hroom : ¬ (x.size ≤ 200 ∧ M.now.length + (x.size + 7) / 8 + 1 ≤ M.size)) :
    Calls Try.prog 18 #[.pointer (some ⟨g, 0, none⟩), .string x] w fun e w' =>
      e = .returned (.tuple #[.int .u64 0, .bool false]) ∧ HRep w' g bn bo bb M ∧ Chg (fun k => k = g ∨ k = bn ∨ k = bb) w w' := by
  have h1 := allocT_all M g bn bo bb x w h hx
  have e : M.allocT x = none := if_neg hroom
  rw [e] at h1
  exact h1

section
variable {M : HM} {all : List ObjM} {L : List Int} {wd : Int → Nat} (s : Sim M all L wd)
include s
theorem Sim.cls (ha : all.length ≤ 1000) : Cls all L :=
  ⟨s.rng, s.cl, by have := L_len s.nd s.rng; omega, ha, fun i hi => by have := (s.ok i hi).pl; omega⟩
theorem Sim.needed {rs : List Rf} (hr : ∀ r ∈ rs, ClR L r) (f : Nat) (hf : all.length ≤ f) : ∃ fin, neededR all rs f = some fin ∧ KnownR L fin := by
  obtain ⟨fin, e, hk, _⟩ := needR_some s.cl f (addsR [] rs) 0 (KnownR.adds rs ⟨by simp, by simp⟩ hr) (by have := L_len s.nd s.rng; omega)
  exact ⟨fin, e, hk⟩
theorem alloc_sim_yes {g bn bo bb c : Nat} {A : Option Addr} {k tag : Int} {ps : List Rf} {T : Nat → Prop} {w : World} (h : HRep w g bn bo bb M)
    (hT : ∀ b, T b → b ≠ g ∧ b ≠ bn ∧ b ≠ bb) (hr : Rd T w A ((ps.map (encR wd)).map wv)) (hc : ∀ r ∈ ps, ClR L r) (hl : ps.length ≤ 20) (hk : 1 ≤ k ∧ k ≤ 3 ∧ 0 ≤ tag ∧ tag ≤ 1048576) (hroom : M.now.length + ps.length + 1 ≤ M.size) :
    Calls Try.prog 16 #[.pointer (some ⟨g, 0, none⟩), .int .i64 k, .int .i64 tag, .slice A ps.length c] w fun e w' =>
      e = .returned (.tuple #[.int .u64 ((2 * M.now.length : Nat) : Int), .bool true]) ∧ HRep w' g bn bo bb (M.put (tag.toNat * 65536 + (payW wd ⟨k, tag, ByteArray.empty, ps⟩).length * 8 + k.toNat) (payW wd ⟨k, tag, ByteArray.empty, ps⟩)) ∧ Chg (fun k => k = g ∨ k = bn ∨ k = bb) w w' := by
  have hp : payW wd ⟨k, tag, ByteArray.empty, ps⟩ = ps.map (encR wd) := if_neg (by show ¬ k = 4; omega)
  have h1 := alloc_all M g bn bo bb c A k tag (ps.map (encR wd)) T w h hT hr (fun x hx => by obtain ⟨r, hr2, rfl⟩ := List.mem_map.1 hx; exact s.enc_lt (hc r hr2)) (by rw [List.length_map]; omega)
  rw [List.length_map] at h1
  have ho : M.allocOk k tag (ps.map (encR wd)) := by
    refine ⟨⟨hk.1, hk.2.1, hk.2.2.1, hk.2.2.2, by rw [List.length_map]; omega⟩, List.all_eq_true.2 (fun x hx => ?_), by rw [List.length_map]; exact hroom⟩
    obtain ⟨r, hr2, rfl⟩ := List.mem_map.1 hx
    exact s.vals (hc r hr2)
  have e : M.allocM k tag (ps.map (encR wd)) = some (M.put (tag.toNat * 65536 + (ps.map (encR wd)).length * 8 + k.toNat) (ps.map (encR wd))) := if_pos ho
  rw [e] at h1
  rw [hp]
  exact h1
theorem alloc_sim_no {g bn bo bb c : Nat} {A : Option Addr} {k tag : Int} {ps : List Rf} {T : Nat → Prop} {w : World} (h : HRep w g bn bo bb M)
    (hT : ∀ b, T b → b ≠ g ∧ b ≠ bn ∧ b ≠ bb) (hr : Rd T w A ((ps.map (encR wd)).map wv)) (hc : ∀ r ∈ ps, ClR L r) (hl : ps.length ≤ 20) (hk : ¬ ((1 ≤ k ∧ k ≤ 3 ∧ 0 ≤ tag ∧ tag ≤ 1048576) ∧ M.now.length + ps.length + 1 ≤ M.size)) :
    Calls Try.prog 16 #[.pointer (some ⟨g, 0, none⟩), .int .i64 k, .int .i64 tag, .slice A ps.length c] w fun e w' =>
      e = .returned (.tuple #[.int .u64 0, .bool false]) ∧ HRep w' g bn bo bb M ∧ Chg (fun k => k = g ∨ k = bn ∨ k = bb) w w' := by
  have h1 := alloc_all M g bn bo bb c A k tag (ps.map (encR wd)) T w h hT hr (fun x hx => by obtain ⟨r, hr2, rfl⟩ := List.mem_map.1 hx; exact s.enc_lt (hc r hr2)) (by rw [List.length_map]; omega)
  rw [List.length_map] at h1
  have ho : ¬ M.allocOk k tag (ps.map (encR wd)) := by
    rintro ⟨⟨a1, a2, a3, a4, _⟩, _, a6⟩
    rw [List.length_map] at a6
    exact hk ⟨⟨a1, a2, a3, a4⟩, a6⟩
  have e : M.allocM k tag (ps.map (encR wd)) = none := if_neg ho
  rw [e] at h1
  exact h1
/-- Whether a reference is a thing that has such a part. -/
def hasR (all : List ObjM) (r : Rf) (p : Int) : Bool := !r.1 && decide (0 ≤ p ∧ p < ((objAt all r.2).parts.length : Int))
theorem Sim.has {r : Rf} (hr : ClR L r) (p : Int) : M.has (encR wd r) p = hasR all r p := by
  obtain ⟨b, n⟩ := r
  unfold HM.has hasR encR
  cases b with
  | true =>
    have : M.at (numW n) = none := by unfold HM.at; rw [if_pos (numW_odd n)]
    simp [this]
  | false =>
    have hn : n ∈ L := hr.2 rfl
    simp only [Bool.false_eq_true, if_false]
    rw [s.at_ n hn, s.bn hn]
    rfl
theorem set_sim_no {g bn bo bb : Nat} {r by_ : Rf} {p : Int} {w : World} (h : HRep w g bn bo bb M) (hr : ClR L r) (hn : hasR all r p = false) :
    Calls Try.prog 19 #[.pointer (some ⟨g, 0, none⟩), .int .u64 (encR wd r : Nat), .int .i64 p, .int .u64 (encR wd by_ : Nat)] w fun e w' => e = .returned (.bool false) ∧ w = w' :=
  setPart_no M g bn bo bb _ _ p w h (s.enc_lt hr) (by rw [s.has hr]; exact hn)
theorem set_sim_yes {g bn bo bb p : Nat} {i : Int} {by_ : Rf} {w : World} (h : HRep w g bn bo bb M) (hi : i ∈ L) (hb : ClR L by_) (hp : p < (objAt all i).parts.length) :
    Calls Try.prog 19 #[.pointer (some ⟨g, 0, none⟩), .int .u64 (encR wd (false, i) : Nat), .int .i64 (p : Int), .int .u64 (encR wd by_ : Nat)] w fun e w' =>
      e = .returned (.bool true) ∧ HRep w' g bn bo bb (M.set (wd i / 2 + 1 + p) (encR wd by_)) ∧ Chg (fun k => k = bn) w w' := by
  have hr : ClR L (false, i) := ⟨fun h => absurd h (by simp), fun _ => hi⟩
  have hf := s.fits i hi
  have hn : needO (objAt all i) = (objAt all i).parts.length + 1 := by
    unfold needO
    rw [if_neg (fun h4 => by rw [((s.ok i hi).x4 h4).1] at hp; simp at hp)]
  exact setPart_yes M g bn bo bb (wd i) p (encR wd by_) w h (s.enc_lt hr) (s.enc_lt hb) (s.at_ i hi) (by rw [s.bn hi]; exact hp) (by omega) (s.vals hb)

theorem shape_sim {g bn bo bb c : Nat} {A : Option Addr} {rs : List Rf} {T : Nat → Prop} {w : World} (h : HRep w g bn bo bb M) (hr : Rd T w A ((rs.map (encR wd)).map wv)) (hc : ∀ r ∈ rs, ClR L r) (hT : ∀ b, T b → b < w.heap.size)
    (hl : rs.length ≤ 1000) (ha : all.length ≤ 1000) {f : Nat} {fin : List Int} (e : neededR all rs f = some fin) (hk : KnownR L fin) :
    Calls Try.prog 23 #[.pointer (some ⟨g, 0, none⟩), .slice A rs.length c] w fun e w' =>
      ∃ A1 c1 A2 c2, e = .returned (.tuple #[.slice A1 rs.length c1, .slice A2 fin.length c2]) ∧ Rd (fun _ => True) w' A1 ((rs.map (refR fin)).flatMap rfv) ∧ RdObjs (fun _ => True) w' A2 (fin.map (cellR all fin)) ∧ Chg (fun _ => False) w w' := by
  obtain ⟨cs, hsh, hcs⟩ := s.shape hc e
  have h1 := shape_any M g bn bo bb c f A (rs.map (encR wd)) T _ _ _ w h hr (fun x hx => by obtain ⟨r, hr2, rfl⟩ := List.mem_map.1 hx; exact s.enc_lt (hc r hr2)) hT (by rw [List.length_map]; omega)
    (by rw [List.length_map]; have := nodup_leI fin L hk.1 hk.2; have := L_len s.nd s.rng; omega) s.wf hsh
  rw [List.length_map] at h1
  refine h1.mono ?_
  rintro e w' ⟨v1, v2, rfl, ⟨A1, c1, rfl, hr1⟩, hr2, hch⟩
  obtain ⟨A2, c2, rfl, ho⟩ := cells_objs hr2
  rw [hcs] at ho
  have hlen : (cs.map CellM.obj).length = fin.length := by rw [hcs, List.length_map]
  rw [hlen]
  exact ⟨A1, c1, A2, c2, by simp, hr1, ho, hch⟩
theorem collect_sim {g bn bo bb c : Nat} {A : Option Addr} {rs : List Rf} {T : Nat → Prop} {w : World} (h : HRep w g bn bo bb M) (hpos : 0 < M.size) (hr : Rd T w A ((rs.map (encR wd)).map wv)) (hc : ∀ r ∈ rs, ClR L r)
    (hT : ∀ b, T b → b ≠ g ∧ b ≠ bn ∧ b ≠ bo ∧ b < w.heap.size) (hl : rs.length ≤ 1000) {f : Nat} (hf : all.length ≤ f) {fin : List Int} (e : neededR all rs f = some fin) :
    Calls Try.prog 21 #[.pointer (some ⟨g, 0, none⟩), .slice A rs.length c] w fun e w' =>
      ∃ M' d ob, e = .returned (.slice (some ⟨ob, 0, none⟩) rs.length rs.length) ∧ HRep w' g bo bn d M' ∧ Blk w' ob 26 ((rs.map (encR (wd2 all fin))).map wv).toArray ∧
        w.heap.size ≤ d ∧ w.heap.size ≤ ob ∧ Chg (fun i => i = g ∨ i = bn ∨ i = bo) w w' ∧ Sim M' all fin (wd2 all fin) ∧ (∀ r ∈ rs, ClR fin r) ∧ M'.size = M.size := by
  obtain ⟨M', e1, e2, e3, e4⟩ := s.collect hc e (by have := L_len s.nd s.rng; omega)
  have h1 := collect_any M M' g bn bo bb c f A (rs.map (encR wd)) _ T w h hpos hr (fun x hx => by obtain ⟨r, hr2, rfl⟩ := List.mem_map.1 hx; exact s.enc_lt (hc r hr2)) hT (by rw [List.length_map]; omega) e1
  rw [List.length_map] at h1
  refine h1.mono ?_
  rintro e w' ⟨d, ob, he, q1, q2, q3, q4, q5⟩
  exact ⟨M', d, ob, he, q1, q2, q3, q4, q5, e2, e3, e4⟩
end
end Go.Proofs.Ytlgkgglecgdkgaa
