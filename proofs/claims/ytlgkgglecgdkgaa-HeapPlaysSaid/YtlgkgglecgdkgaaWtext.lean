/-
  Walks of the heap's AllocText and Text.
-/
import Derived.Test.YtlgkgglecgdkgaaWalloc
namespace Go.Proofs.Ytlgkgglecgdkgaa
open Go.RowKit
set_option maxHeartbeats 400000
set_option maxRecDepth 100000

theorem needText_any (s : ByteArray) (w : World) (hs : s.size ≤ 1048576) :
    Calls Try.prog 11 #[.string s] w fun e w' => e = .returned (.int .i64 (((s.size + 7) / 8 : Nat) + 1 : Int)) ∧ w = w' := by
  go_enter Try.func11, Try.ntmps11
  go_wp2_with (go_at_call 10; refine (need_any _ _ (by omega) (by omega)).mono ?_; rintro e w' ⟨rfl, rfl⟩)
  go_ret
  exact ⟨retv (intv (by omega)), rfl⟩

theorem allocText_long (g : Nat) (s : ByteArray) (w : World) (hs : s.size ≤ 1048576) (hl : 200 < s.size) :
    Calls Try.prog 18 #[.pointer (some ⟨g, 0, none⟩), .string s] w fun e w' => e = .returned (.tuple #[.int .u64 0, .bool false]) ∧ w = w' := by
  go_enter Try.func18, Try.ntmps18
  go_wp2_with fail
  go_ret2
  exact ⟨rfl, rfl⟩

/-- The words of a text after its first k bytes. -/
def tws (bs : List UInt8) : Nat → List Nat
  | 0 => List.replicate ((bs.length + 7) / 8) 0
  | k + 1 => (tws bs k).set (k / 8) ((tws bs k).getD (k / 8) 0 + (bs.getD k 0).toNat * 256 ^ (k % 8))

theorem run_make_rowN {P : Program} (t e : TypeId) (i : TypeInfo) (z : Value) (ht : P.underlying t = some (.slice e)) (hi : P.info? e = some i) (hz : i.zero = some z)
    (kl kc : IntKind) (n c : Nat) (hnc : n ≤ c) (hbytes : i.bytes * c ≤ 281474976710656) (h63 : c ≤ 9223372036854775807) (w : World) :
    (Instr.makeSlice t (.int kl (n : Int)) (.int kc (c : Int))).run P w = .ok (.slice (some ⟨w.heap.size, 0, none⟩) n c) (w.alloc (.cells (madeCells z.cells (c * i.size)) e)) := by
  have hb : (i.bytes : Int) * (c : Int) ≤ 281474976710656 := by
    have h : ((i.bytes * c : Nat) : Int) ≤ 281474976710656 := by omega
    rwa [Int.natCast_mul] at h
  have hr := run_make (P := P) w t e i z ht hi hz kl kc n c (by omega) (by omega) hb (by omega)
  simp only [Int.toNat_natCast] at hr
  exact hr
theorem madeCells_one (z : Value) (n : Nat) : madeCells #[z] n = (List.replicate n z).toArray := by
  apply Array.toList_inj.1
  rw [toList_madeCells_one]

theorem tws_len (bs : List UInt8) (k : Nat) : (tws bs k).length = (bs.length + 7) / 8 := by
  induction k with
  | zero => simp [tws]
  | succ k ih => simp [tws, ih]
theorem getD_set (l : List Nat) (i j v : Nat) : (l.set i v).getD j 0 = if i = j ∧ j < l.length then v else l.getD j 0 := by
  rw [List.getD_eq_getElem?_getD, List.getElem?_set, List.getD_eq_getElem?_getD]
  by_cases h : i = j
  · subst h
    by_cases h2 : i < l.length
    · simp [h2]
    · simp [h2]
  · simp [h]
theorem tws_lt (bs : List UInt8) (k : Nat) : ∀ j, (tws bs k).getD j 0 < 256 ^ (min 8 (k - 8 * j)) := by
  induction k with
  | zero =>
    intro j
    simp only [tws, List.getD_eq_getElem?_getD, List.getElem?_replicate]
    split <;> simp
  | succ k ih =>
    intro j
    simp only [tws, getD_set]
    split
    · rename_i h
      obtain ⟨rfl, _⟩ := h
      have h1 := ih (k / 8)
      rw [show min 8 (k - 8 * (k / 8)) = k % 8 from by omega] at h1
      rw [show min 8 (k + 1 - 8 * (k / 8)) = k % 8 + 1 from by omega, Nat.pow_succ]
      have h2 : (bs.getD k 0).toNat ≤ 255 := by have := (bs.getD k 0).toNat_lt; omega
      have h3 := Nat.mul_le_mul_right (256 ^ (k % 8)) h2
      omega
    · exact Nat.lt_of_lt_of_le (ih j) (Nat.pow_le_pow_right (by omega) (by omega))
theorem tws_lt64 (bs : List UInt8) (k : Nat) : ∀ x ∈ tws bs k, x < 18446744073709551616 := by
  intro x hx
  obtain ⟨j, hj, rfl⟩ := List.getElem_of_mem hx
  have h := tws_lt bs k j
  rw [List.getD_eq_getElem?_getD, List.getElem?_eq_getElem hj] at h
  exact Nat.lt_of_lt_of_le h (Nat.le_trans (Nat.pow_le_pow_right (by omega) (Nat.min_le_left 8 _)) (by decide))
theorem or_byte (V k b : Nat) (hV : V < 256 ^ (k % 8)) (hb : b < 256) :
    bits .or .u64 (V : Int) (IntKind.u64.wrap (IntKind.u64.wrap (b : Int) * 2 ^ (8 * (k % 8)))) = ((V + b * 256 ^ (k % 8) : Nat) : Int) := by
  have hp : (2 : Nat) ^ (8 * (k % 8)) = 256 ^ (k % 8) := by rw [Nat.pow_mul]
  have hq : 256 ^ (k % 8) ≤ 256 ^ 7 := Nat.pow_le_pow_right (by omega) (by omega)
  have hm : b * 256 ^ (k % 8) ≤ 255 * 256 ^ (k % 8) := Nat.mul_le_mul_right _ (by omega)
  rw [IntWalk.u64_in (b : Int) (by omega)]
  have e : (b : Int) * 2 ^ (8 * (k % 8)) = ((b * 2 ^ (8 * (k % 8)) : Nat) : Int) := by simp
  rw [e, hp, IntWalk.u64_in _ (by omega)]
  rw [u64_or_nat V _ (by omega) (by omega), Nat.or_comm, nat_join (8 * (k % 8)) _ _ (by rw [hp]; exact Nat.mul_mod_left _ _) (by rw [hp]; exact hV), Nat.add_comm]

set_option maxHeartbeats 1000000 in
theorem allocText_full (M : HM) (g bn bo bb : Nat) (s : ByteArray) (w : World) (h : HRep w g bn bo bb M) (hs : s.size ≤ 200) (hroom : M.size < M.now.length + (s.size + 7) / 8 + 1) :
    Calls Try.prog 18 #[.pointer (some ⟨g, 0, none⟩), .string s] w fun e w' => e = .returned (.tuple #[.int .u64 0, .bool false]) ∧ Chg (fun _ => False) w w' := by
  have Hh := hide h
  have HR := hide hroom
  have hg := h.st.lt
  have hbn := h.rn.lt
  have hbo := h.ro.lt
  have hbb := h.rb.lt
  have Hp : Hid (∀ (first : Nat) (wr : World) (rest : List Nat) (lb : Nat), first < 18446744073709551616 → Chg (fun _ => False) w wr → Blk wr lb 26 (rest.map wv).toArray → (∀ x ∈ rest, x < 18446744073709551616) → w.heap.size ≤ lb → rest.length = (s.size + 7) / 8 →
      Calls Try.prog 36 #[.pointer (some ⟨g, 0, none⟩), .int .u64 (first : Int), .slice (some ⟨lb, 0, none⟩) rest.length rest.length] wr (fun e w' => e = .returned (.tuple #[.int .u64 0, .bool false]) ∧ ∃ n, w' = wr.drewN n)) :=
    hide (fun first wr rest lb hf hc hb hx hlb hl => put_no M g bn bo bb first rest.length rest.length _ wr (h.chg hc id id id id) (by omega) (by omega))
  clear hroom
  obtain ⟨i0, hi0, hz0, hz1, hz2⟩ := info_parts info26
  have hmk : ∀ W, (Instr.makeSlice 46 (.int .i64 (((s.size + 7) / 8 : Nat) : Int)) (.int .i64 (((s.size + 7) / 8 : Nat) : Int))).run Try.prog W = .ok (.slice (some ⟨W.heap.size, 0, none⟩) ((s.size + 7) / 8) ((s.size + 7) / 8)) (W.alloc (.cells (madeCells #[.int .u64 0] ((s.size + 7) / 8)) 26)) := fun W => by
    have := run_make_rowN (P := Try.prog) 46 26 i0 _ Try.underlying46 hi0 hz0 .i64 .i64 ((s.size + 7) / 8) ((s.size + 7) / 8) (Nat.le_refl _) (by rw [hz2]; omega) (by omega) W
    rwa [hz1, Nat.mul_one] at this
  have hN : (s.size + 7) / 8 ≤ 25 := by omega
  have hN2 := hide (show s.data.toList.length = s.size from by simp)
  have Hn := hide (needText_any s w (by omega))
  generalize hNN : (s.size + 7) / 8 = N at *
  have HN := hide hNN
  clear h hz0 hz1 hz2 hi0 hNN
  go_enter Try.func18, Try.ntmps18
  go_wp2_with (first
    | (go_at_call 11; refine (unhide Hn).mono ?_; rintro e w' ⟨rfl, rfl⟩))
  rw [madeCells_one]
  have hB0 := Blk.new w 26 (List.replicate N (Value.int .u64 0)).toArray
  have hC0 := (Chg.refl (fun _ => False) w).alloc (.cells (List.replicate N (Value.int .u64 0)).toArray 26)
  generalize w.alloc (.cells (List.replicate N (Value.int .u64 0)).toArray 26) = w0 at *
  generalize hlb : w.heap.size = lb at *
  have Hlb := hide hlb
  clear hlb
  go_loopw [17] (fun i wr => ∃ k : Nat, k ≤ s.size ∧ i = .int .i64 k ∧ Blk wr lb 26 ((tws s.data.toList k).map wv).toArray ∧ Chg (fun _ => False) w wr) (fun i _ => s.size - (intOf i).toNat)
  case atStart => exact ⟨0, Nat.zero_le _, rfl, by
    simp only [tws, List.map_replicate]; rw [unhide hN2, unhide HN]; exact hB0, hC0⟩
  case round =>
    obtain ⟨k, hk, rfl, hB, hC⟩ := hrel
    by_cases hlt : k < s.size
    · have hkN : k / 8 < N := by have := unhide HN; omega
      have hkI : (k : Int) / 8 < (N : Int) := by omega
      have hlen : (tws s.data.toList k).length = N := by rw [tws_len, unhide hN2, unhide HN]
      have hcell : wr.cell? ⟨lb, k / 8, none⟩ = some (.int .u64 (((tws s.data.toList k).getD (k / 8) 0 : Nat) : Int)) := by
        refine hB.cell' ?_
        rw [List.getElem?_toArray]
        exact wv_at _ (by omega)
      have hfr := hB.frozen (k / 8)
      have HV := hide (tws_lt s.data.toList k (k / 8))
      have HL := hide hlen
      have HS : Hid (tws s.data.toList (k + 1) = (tws s.data.toList k).set (k / 8) ((tws s.data.toList k).getD (k / 8) 0 + s[k].toNat * 256 ^ (k % 8))) := by
        have : s.data.toList.getD k 0 = s[k] := by
          rw [List.getD_eq_getElem?_getD, List.getElem?_eq_getElem (by simpa using hlt)]; rfl
        show tws s.data.toList (k + 1) = _
        rw [tws, this]
      have HB := hide hB
      have HC := hide hC
      clear hB hC hlen
      generalize (tws s.data.toList k).getD (k / 8) 0 = V at *
      go_wp2
      go_region
      go_wp2
      go_roundw
      case rel => 
        have hV := unhide HV
        rw [show min 8 (k - 8 * (k / 8)) = k % 8 from by omega] at hV
        rw [or_byte V k s[k].toNat hV (by have := s[k].toNat_lt; omega)]
        refine ⟨k + 1, by omega, by go_num, Blk.drew ?_, Chg.drew ((unhide HC).setCell (p := ⟨lb, k / 8, none⟩) (fun hl => by have := unhide Hlb; simp at hl; omega) _)⟩
        have := (unhide HB).set_ (k / 8) (.int .u64 ((V + s[k].toNat * 256 ^ (k % 8) : Nat) : Int))
        rw [unhide HS]
        rw [← List.append_nil (tws s.data.toList k), wvs_set _ [] _ _ (by rw [unhide HL]; exact hkN), List.append_nil] at this
        exact this
      case measure => simp [intOf]; omega
    · obtain rfl : k = s.size := by omega
      have hlen : (tws s.data.toList s.size).length = N := by rw [tws_len, unhide hN2, unhide HN]
      have hput := (unhide Hp) (s.size * 65536 + N * 8 + 4) wr (tws s.data.toList s.size) lb (by omega) hC hB (tws_lt64 _ _) (by have := unhide Hlb; omega) hlen
      have HF := hide hlen
      rw [hlen] at hput
      have HP := hide hput
      have HCC := hide hC
      clear hput hlen hB hC hlt hk
      go_wp2_with (first
        | (go_at_call 37; refine (head_any 4 s.size N _ (by omega) (by omega) (by omega)).mono ?_; rintro e w' ⟨rfl, rfl⟩)
        | (go_at_call 36; refine (unhide HP).mono ?_; rintro e w' ⟨rfl, nn, rfl⟩))
      go_ret2
      exact ⟨rfl, (unhide HCC).drewN _⟩

set_option maxHeartbeats 1000000 in
theorem allocText_good (M : HM) (g bn bo bb : Nat) (s : ByteArray) (w : World) (h : HRep w g bn bo bb M) (hs : s.size ≤ 200) (hroom : M.now.length + (s.size + 7) / 8 + 1 ≤ M.size) :
    Calls Try.prog 18 #[.pointer (some ⟨g, 0, none⟩), .string s] w fun e w' => e = .returned (.tuple #[.int .u64 ((2 * M.now.length : Nat) : Int), .bool true]) ∧ HRep w' g bn bo bb (M.put (s.size * 65536 + (s.size + 7) / 8 * 8 + 4) (tws s.data.toList s.size)) ∧ Chg (fun k => k = g ∨ k = bn ∨ k = bb) w w' := by
  have Hh := hide h
  have HR := hide hroom
  have hg := h.st.lt
  have hbn := h.rn.lt
  have hbo := h.ro.lt
  have hbb := h.rb.lt
  have Hp : Hid (∀ (first : Nat) (wr : World) (rest : List Nat) (lb : Nat), first < 18446744073709551616 → Chg (fun _ => False) w wr → Blk wr lb 26 (rest.map wv).toArray → (∀ x ∈ rest, x < 18446744073709551616) → w.heap.size ≤ lb → rest.length = (s.size + 7) / 8 →
      Calls Try.prog 36 #[.pointer (some ⟨g, 0, none⟩), .int .u64 (first : Int), .slice (some ⟨lb, 0, none⟩) rest.length rest.length] wr (fun e w' => e = .returned (.tuple #[.int .u64 ((2 * M.now.length : Nat) : Int), .bool true]) ∧ HRep w' g bn bo bb (M.put first rest) ∧ Chg (fun k => k = g ∨ k = bn ∨ k = bb) wr w')) :=
    hide (fun first wr rest lb hf hc hb hx hlb hl => put_yes M g bn bo bb first rest.length _ rest (· = lb) wr (h.chg hc id id id id) (by rintro b rfl; omega) (Rd.blk hb (fun j u hu => by simpa using hu)) (by omega) hf hx)
  clear hroom
  obtain ⟨i0, hi0, hz0, hz1, hz2⟩ := info_parts info26
  have hmk : ∀ W, (Instr.makeSlice 46 (.int .i64 (((s.size + 7) / 8 : Nat) : Int)) (.int .i64 (((s.size + 7) / 8 : Nat) : Int))).run Try.prog W = .ok (.slice (some ⟨W.heap.size, 0, none⟩) ((s.size + 7) / 8) ((s.size + 7) / 8)) (W.alloc (.cells (madeCells #[.int .u64 0] ((s.size + 7) / 8)) 26)) := fun W => by
    have := run_make_rowN (P := Try.prog) 46 26 i0 _ Try.underlying46 hi0 hz0 .i64 .i64 ((s.size + 7) / 8) ((s.size + 7) / 8) (Nat.le_refl _) (by rw [hz2]; omega) (by omega) W
    rwa [hz1, Nat.mul_one] at this
  have hN : (s.size + 7) / 8 ≤ 25 := by omega
  have hN2 := hide (show s.data.toList.length = s.size from by simp)
  have Hn := hide (needText_any s w (by omega))
  generalize hNN : (s.size + 7) / 8 = N at *
  have HN := hide hNN
  clear h hz0 hz1 hz2 hi0 hNN
  go_enter Try.func18, Try.ntmps18
  go_wp2_with (first
    | (go_at_call 11; refine (unhide Hn).mono ?_; rintro e w' ⟨rfl, rfl⟩))
  rw [madeCells_one]
  have hB0 := Blk.new w 26 (List.replicate N (Value.int .u64 0)).toArray
  have hC0 := (Chg.refl (fun _ => False) w).alloc (.cells (List.replicate N (Value.int .u64 0)).toArray 26)
  generalize w.alloc (.cells (List.replicate N (Value.int .u64 0)).toArray 26) = w0 at *
  generalize hlb : w.heap.size = lb at *
  have Hlb := hide hlb
  clear hlb
  go_loopw [17] (fun i wr => ∃ k : Nat, k ≤ s.size ∧ i = .int .i64 k ∧ Blk wr lb 26 ((tws s.data.toList k).map wv).toArray ∧ Chg (fun _ => False) w wr) (fun i _ => s.size - (intOf i).toNat)
  case atStart => exact ⟨0, Nat.zero_le _, rfl, by
    simp only [tws, List.map_replicate]; rw [unhide hN2, unhide HN]; exact hB0, hC0⟩
  case round =>
    obtain ⟨k, hk, rfl, hB, hC⟩ := hrel
    by_cases hlt : k < s.size
    · have hkN : k / 8 < N := by have := unhide HN; omega
      have hkI : (k : Int) / 8 < (N : Int) := by omega
      have hlen : (tws s.data.toList k).length = N := by rw [tws_len, unhide hN2, unhide HN]
      have hcell : wr.cell? ⟨lb, k / 8, none⟩ = some (.int .u64 (((tws s.data.toList k).getD (k / 8) 0 : Nat) : Int)) := by
        refine hB.cell' ?_
        rw [List.getElem?_toArray]
        exact wv_at _ (by omega)
      have hfr := hB.frozen (k / 8)
      have HV := hide (tws_lt s.data.toList k (k / 8))
      have HL := hide hlen
      have HS : Hid (tws s.data.toList (k + 1) = (tws s.data.toList k).set (k / 8) ((tws s.data.toList k).getD (k / 8) 0 + s[k].toNat * 256 ^ (k % 8))) := by
        have : s.data.toList.getD k 0 = s[k] := by
          rw [List.getD_eq_getElem?_getD, List.getElem?_eq_getElem (by simpa using hlt)]; rfl
        show tws s.data.toList (k + 1) = _
        rw [tws, this]
      have HB := hide hB
      have HC := hide hC
      clear hB hC hlen
      generalize (tws s.data.toList k).getD (k / 8) 0 = V at *
      go_wp2
      go_region
      go_wp2
      go_roundw
      case rel => 
        have hV := unhide HV
        rw [show min 8 (k - 8 * (k / 8)) = k % 8 from by omega] at hV
        rw [or_byte V k s[k].toNat hV (by have := s[k].toNat_lt; omega)]
        refine ⟨k + 1, by omega, by go_num, Blk.drew ?_, Chg.drew ((unhide HC).setCell (p := ⟨lb, k / 8, none⟩) (fun hl => by have := unhide Hlb; simp at hl; omega) _)⟩
        have := (unhide HB).set_ (k / 8) (.int .u64 ((V + s[k].toNat * 256 ^ (k % 8) : Nat) : Int))
        rw [unhide HS]
        rw [← List.append_nil (tws s.data.toList k), wvs_set _ [] _ _ (by rw [unhide HL]; exact hkN), List.append_nil] at this
        exact this
      case measure => simp [intOf]; omega
    · obtain rfl : k = s.size := by omega
      have hlen : (tws s.data.toList s.size).length = N := by rw [tws_len, unhide hN2, unhide HN]
      have hput := (unhide Hp) (s.size * 65536 + N * 8 + 4) wr (tws s.data.toList s.size) lb (by omega) hC hB (tws_lt64 _ _) (by have := unhide Hlb; omega) hlen
      have HF := hide hlen
      rw [hlen] at hput
      have HP := hide hput
      have HCC : Hid (Chg (fun k => k = g ∨ k = bn ∨ k = bb) w wr) := hC.mono (fun _ _ h => h.elim)
      clear hput hlen hB hC hlt hk
      go_wp2_with (first
        | (go_at_call 37; refine (head_any 4 s.size N _ (by omega) (by omega) (by omega)).mono ?_; rintro e w' ⟨rfl, rfl⟩)
        | (go_at_call 36; refine (unhide HP).mono ?_; rintro e w' ⟨rfl, hq1, hq2⟩; have Hq1 := hide hq1; have Hq2 := hide hq2; clear hq1 hq2))
      go_ret2
      exact ⟨rfl, unhide Hq1, (unhide HCC).trans (unhide Hq2) (fun _ _ h => h)⟩

/-- The bytes of a text, out of its words. -/
def textBytes (now : List Nat) (a n : Nat) : List UInt8 := (List.range n).map fun i => UInt8.ofNat (now.getD (a + 1 + i / 8) 0 / 256 ^ (i % 8))

theorem text_none (M : HM) (g bn bo bb x : Nat) (w : World) (h : HRep w g bn bo bb M) (hx : x < 18446744073709551616) (hk : (M.at x).isSome = false ∨ M.bk x ≠ 4) :
    Calls Try.prog 30 #[.pointer (some ⟨g, 0, none⟩), .int .u64 x] w fun e w' => e = .returned (.tuple #[.string ByteArray.empty, .bool false]) ∧ w = w' := by
  have Hc := hide (block_any M g bn bo bb x w h hx)
  clear h
  generalize M.bk x = K at *
  generalize M.bt x = T at *
  generalize M.bn x = N at *
  generalize (M.at x).isSome = B at *
  cases B
  · clear hk
    go_enter Try.func30, Try.ntmps30
    go_wp2_with (go_at_call 29; refine (unhide Hc).mono ?_; rintro e w' ⟨rfl, rfl⟩)
    go_ret2
    exact ⟨rfl, rfl⟩
  · have hb : ((K : Int) != 4) = true := by
      rcases hk with h | h
      · cases h
      · rw [bne_iff_ne]; omega
    clear hk
    go_enter Try.func30, Try.ntmps30
    go_wp2_with (go_at_call 29; refine (unhide Hc).mono ?_; rintro e w' ⟨rfl, rfl⟩)
    go_ret2
    exact ⟨rfl, rfl⟩

theorem fill_set (l : List UInt8) (n k : Nat) (b : UInt8) (hk : l.length = k) (hn : k < n) :
    ((l.map byv ++ List.replicate (n - k) (Value.int .u8 0)).toArray).setIfInBounds k (byv b) = ((l ++ [b]).map byv ++ List.replicate (n - (k + 1)) (Value.int .u8 0)).toArray := by
  subst hk
  rw [List.setIfInBounds_toArray, List.set_append_right _ _ (by simp)]
  rw [show n - l.length = (n - (l.length + 1)) + 1 from by omega, List.replicate_succ]
  simp
theorem textBytes_succ (now : List Nat) (a k : Nat) : textBytes now a (k + 1) = textBytes now a k ++ [UInt8.ofNat (now.getD (a + 1 + k / 8) 0 / 256 ^ (k % 8))] := by
  simp [textBytes, List.range_succ]
theorem textBytes_len (now : List Nat) (a k : Nat) : (textBytes now a k).length = k := by simp [textBytes]
theorem shr_byte (V k : Nat) : Value.int .u8 ((V : Int) / 2 ^ (8 * (k % 8)) % 256) = byv (UInt8.ofNat (V / 256 ^ (k % 8))) := by
  unfold byv
  congr 1
  have hp : (2 : Nat) ^ (8 * (k % 8)) = 256 ^ (k % 8) := by rw [Nat.pow_mul]
  have : ((V : Int) / 2 ^ (8 * (k % 8)) % 256) = ((V / 2 ^ (8 * (k % 8)) % 256 : Nat) : Int) := by simp
  rw [this, hp]
  simp

theorem info5 : (Try.prog.info? 5).map (fun i => (i.zero, i.size, i.bytes)) = some (some (.int .u8 0), 1, 1) := by kernel_rfl

set_option maxHeartbeats 1000000 in
theorem text_yes (M : HM) (g bn bo bb x n : Nat) (w : World) (h : HRep w g bn bo bb M) (hx : x < 18446744073709551616) (hs : (M.at x).isSome = true) (hk : M.bk x = 4) (hn : M.bt x = n) (hN : n ≤ 1048576)
    (hin : x / 2 + 1 + (n + 7) / 8 ≤ M.now.length) :
    Calls Try.prog 30 #[.pointer (some ⟨g, 0, none⟩), .int .u64 x] w fun e w' =>
      e = .returned (.tuple #[.string ⟨(textBytes M.now (x / 2) n).toArray⟩, .bool true]) ∧ Chg (fun _ => False) w w' := by
  have hc := block_any M g bn bo bb x w h hx
  rw [hs, hk, hn] at hc
  have Hc := hide hc
  obtain ⟨i0, hi0, hz0, hz1, hz2⟩ := info_parts info5
  have hmk : ∀ W, (Instr.makeSlice 98 (.int .i64 (n : Int)) (.int .i64 (n : Int))).run Try.prog W = .ok (.slice (some ⟨W.heap.size, 0, none⟩) n n) (W.alloc (.cells (madeCells #[.int .u8 0] n) 5)) := fun W => by
    have := run_make_rowN (P := Try.prog) 98 5 i0 _ Try.underlying98 hi0 hz0 .i64 .i64 n n (Nat.le_refl _) (by rw [hz2]; omega) (by omega) W
    rwa [hz1, Nat.mul_one] at this
  have c0 := h.c0
  have hl := h.len
  have hsz := h.ok.s
  have hlt := h.st.lt
  have hlt2 := h.rn.lt
  have Hh := hide h
  clear h hs hk hc hn hz0 hz1 hz2 hi0
  generalize M.bn x = N at *
  have hb4 : ((4 : Int) != 4) = false := by decide
  go_enter Try.func30, Try.ntmps30
  go_wp2_with (go_at_call 29; refine (unhide Hc).mono ?_; rintro e w' ⟨rfl, rfl⟩)
  rw [madeCells_one]
  have hB0 := Blk.new w 5 (List.replicate n (Value.int .u8 0)).toArray
  have hC0 := (Chg.refl (fun _ => False) w).alloc (.cells (List.replicate n (Value.int .u8 0)).toArray 5)
  generalize w.alloc (.cells (List.replicate n (Value.int .u8 0)).toArray 5) = w0 at *
  generalize hlb : w.heap.size = lb at *
  have Hlb := hide hlb
  clear hlb
  go_loopw [30] (fun i wr => ∃ k : Nat, k ≤ n ∧ i = .int .i64 k ∧ Blk wr lb 5 ((textBytes M.now (x / 2) k).map byv ++ List.replicate (n - k) (Value.int .u8 0)).toArray ∧ Chg (fun _ => False) w wr) (fun i _ => n - (intOf i).toNat)
  case atStart => exact ⟨0, Nat.zero_le _, rfl, by simpa [textBytes] using hB0, hC0⟩
  case round =>
    obtain ⟨k, hk, rfl, hB, hC⟩ := hrel
    by_cases hlt : k < n
    · have h := (unhide Hh).chg hC id id id id
      have c0r := h.c0
      have hcell := h.cn (i := x / 2 + 1 + k / 8) (by omega)
      have hk8 : (k : Int) / 8 < 1048576 := by omega
      have hcb : wr.cell? ⟨lb, k, none⟩ = some (.int .u8 0) := by
        refine hB.cell' ?_
        rw [List.getElem?_toArray, List.getElem?_append_right (by simp [textBytes])]
        simp only [textBytes, List.length_map, List.length_range, Nat.sub_self]
        rw [List.getElem?_replicate, if_pos (by omega)]
      have hfr := hB.frozen k
      have HB := hide hB
      have HC := hide hC
      have hx2 : x / 2 + 1 + k / 8 < M.now.length := by omega
      have hV := h.ok.getD (x / 2 + 1 + k / 8)
      clear hB hC h
      generalize hVV : M.now.getD (x / 2 + 1 + k / 8) 0 = V at *
      have HVV := hide hVV
      clear hVV
      go_wp2
      go_roundw
      case rel => 
        rw [shr_byte]
        refine ⟨k + 1, by omega, by go_num, ?_, (unhide HC).setCell (p := ⟨lb, k, none⟩) (fun hl => by have := unhide Hlb; simp at hl; omega) _⟩
        have := (unhide HB).set_ k (byv (UInt8.ofNat (V / 256 ^ (k % 8))))
        rw [fill_set _ n k _ (textBytes_len _ _ _) hlt] at this
        rw [textBytes_succ, unhide HVV]
        exact this
      case measure => simp [intOf]; omega
    · obtain rfl : k = n := by omega
      have hcv := run_str_of_bytes (P := Try.prog) wr 98 9 5 ⟨lb, 0, none⟩ k k (textBytes M.now (x / 2) k) (textBytes_len _ _ _).symm Try.underlying98 Try.underlying5 Try.underlying9
        (fun j v hj => by rw [add_flat, Nat.zero_add]; exact hB.cell' (by rw [List.getElem?_toArray, Nat.sub_self, List.replicate_zero, List.append_nil]; exact hj))
      have HC := hide hC
      clear hB hC hlt hk
      generalize hBB : textBytes M.now (x / 2) k = B at *
      have HBB := hide hBB
      clear hBB
      go_wp2
      go_ret2
      rw [unhide HBB]
      exact ⟨rfl, unhide HC⟩
end Go.Proofs.Ytlgkgglecgdkgaa
