/-
  Layer 23: numbers and texts put behind bytes. Layer 23: texts and nodes put behind bytes. Layer 23: bytes put behind a slice that is full (a constant's bytes).
-/
import Derived.Test.YtinekmjengckdaaGreatDoorA04
import Derived.Test.YtinekmjengckdaaGreatDoorA03
import Derived.Lib.AppendStr
import Derived.Deep.RegionHeld3
import Derived.Test.YtinekmjengckdaaGreatDoorA16
namespace Go.Proofs.YtinekmjengckdaaGreatDoor
open Go.RowKit
set_option maxHeartbeats 4000000
set_option maxRecDepth 100000
def OwB (w : World) (base : Nat) (v : Value) (bs : List UInt8) : Prop := w.ownsRow base 5 1 v bs.length (bs.map byv)
def PutOut (base : Nat) (w : World) (v : Value) (bs : List UInt8) (e : Ending) (w' : World) : Prop :=
  ∃ v', e = .returned v' ∧ OwB w' base v' bs ∧ Chg (fun k => v.ownBlock = some k) w w' ∧ ∀ k, v'.ownBlock = some k → v.ownBlock = some k ∨ w.heap.size ≤ k
theorem OwB.val {w : World} {base : Nat} {v : Value} {bs : List UInt8} (h : OwB w base v bs) : ∃ A c, v = .slice A bs.length c := own_val h
theorem OwB.base {w : World} {base : Nat} {v : Value} {bs : List UInt8} (h : OwB w base v bs) : ∀ k, v.ownBlock = some k → base ≤ k ∧ k < w.heap.size := fun k hk => World.ownsRow.lt h k hk
theorem OwB.chg {w w' : World} {base : Nat} {v : Value} {bs : List UInt8} {S : Nat → Prop} (h : OwB w base v bs) (hc : Chg S w w') (hS : ∀ k, v.ownBlock = some k → ¬ S k) : OwB w' base v bs := own_chg h hc hS
theorem infoU8 : (Tryz.prog.info? 5).map (fun i => (i.zero, i.size, i.bytes)) = some (some (.int .u8 0), 1, 1) := by kernel_rfl
theorem run_append_str {P : Program} (w : World) (base : Nat) (t u ty e : TypeId) (i : TypeInfo) (ht : P.underlying t = some (.slice e)) (hu : P.underlying u = some .string) (hi : P.info? e = some i) (hz : i.zero = some (.int .u8 0))
    (hsize : i.size = 1) (hby : i.bytes = 1) (v : Value) (n : Nat) (xs : List Value) (hown : w.ownsRow base e 1 v n xs) (s : ByteArray) (h63 : n + s.size ≤ maxLen) (hbytes : n + s.size ≤ 140737488355328) (hbase : base ≤ w.heap.size) :
    ∃ v' w', (Builtin.append_ #[t, u] ty #[v, .string s]).run P w = .ok v' w' ∧ w'.ownsRow base e 1 v' (n + s.size) (xs ++ s.data.toList.map byv) ∧ Chg (fun k => v.ownBlock = some k) w w' ∧ (v'.ownBlock = v.ownBlock ∨ v'.ownBlock = some w.heap.size) := by
  obtain ⟨v', w', hr, h2, h3, h4⟩ := Go.Lib.run_append_own_string (P := P) w base t u ty e i ht hu hi hz hsize hby v n xs hown s h63 hbytes hbase
  refine ⟨v', w', hr, h2, ⟨h3.os, h3.tape, h3.output, h3.size, fun k hk hne => h3.block k hk (fun e => hne e.symm)⟩, ?_⟩
  have hxl : xs.length = n := by simpa using hown.1
  have hsm : n + s.size ≤ 9223372036854775807 := by simp only [maxLen] at h63; omega
  rcases hown.2 with ⟨rfl, rfl⟩ | ⟨g, cap, cur, rfl, hbg, hg, hnc, hcm, hcs, htake⟩
  · by_cases hm : s.size = 0
    · left
      rw [h4.2 ⟨rfl, hm⟩]
    · right
      have hr2 := run_append_nil_string (P := P) w t u ty e i (.int .u8 0) ht hu hi hz s (by omega) (by omega) (by rw [hby]; omega)
      rw [hr2] at hr
      injection hr with e1 _
      rw [← e1]
      rfl
  · by_cases hroom : n + s.size ≤ cap
    · left
      have hr2 := Go.Lib.run_append_room_string (P := P) (w := w) t u ty e i ht hu hi hsize g n cap cur hg s hroom (by omega)
      rw [hr2] at hr
      injection hr with e1 _
      rw [← e1]
      rfl
    · right
      have holds : ∀ j u, xs[j]? = some u → w.cell? ((⟨g, 0, none⟩ : Addr).add j) = some u := hown.cells (g := g) rfl
      have hr2 := Go.Lib.run_append_grow_string (P := P) (w := w) t u ty e i (.int .u8 0) ht hu hi hz ⟨g, 0, none⟩ n cap xs (by rw [hsize]; simpa using hxl) holds s (by omega) (by omega) (by rw [hby]; exact growslice_fits (by omega) (by omega))
      rw [hr2] at hr
      injection hr with e1 _
      rw [← e1]
      rfl
theorem wp_append_str {P : Program} (w : World) {o : Oper} {a : Act} {K : Act → World → Prop} {Q : Exit → Act → World → Prop} (s x : Operand) (t u : TypeId)
    (ho : o.op = .call { callee := .builtin .append, args := #[s, x], argTypes := #[t, u] }) (base : Nat) (e : TypeId) (i : TypeInfo) (ht : P.underlying t = some (.slice e)) (hu : P.underlying u = some .string) (hi : P.info? e = some i) (hz : i.zero = some (.int .u8 0))
    (hsize : i.size = 1) (hby : i.bytes = 1) (v : Value) (n : Nat) (xs : List Value) (hs : a.eval s = v) (hown : w.ownsRow base e 1 v n xs) (b : ByteArray) (hx : a.eval x = .string b) (h63 : n + b.size ≤ maxLen) (hbytes : n + b.size ≤ 140737488355328) (hbase : base ≤ w.heap.size)
    (h : ∀ v' w', w'.ownsRow base e 1 v' (n + b.size) (xs ++ b.data.toList.map byv) → Chg (fun k => v.ownBlock = some k) w w' → (v'.ownBlock = v.ownBlock ∨ v'.ownBlock = some w.heap.size) → K (a.put o.dst v') w') : o.wp P a w K Q := by
  obtain ⟨v', w', hrun, h2, h3, h4⟩ := run_append_str (P := P) w base t u o.type e i ht hu hi hz hsize hby v n xs hown b h63 hbytes hbase
  unfold Oper.wp execOp
  simp only [ho, resolve, invoke, builtin, Sem.run_bind, Sem.run_pure, Result.andThen_ok, List.map_toArray, List.map_cons, List.map_nil, hs, hx, hrun]
  exact h v' w' h2 h3 h4
theorem wpList_append_str {P : Program} (w : World) {ops : Array Oper} {rest : List Oper} {o : Oper} {a : Act} {Q : Exit → Act → World → Prop} (hgd : o.guard = none) (s x : Operand) (t u : TypeId)
    (ho : o.op = .call { callee := .builtin .append, args := #[s, x], argTypes := #[t, u] }) (base : Nat) (e : TypeId) (i : TypeInfo) (ht : P.underlying t = some (.slice e)) (hu : P.underlying u = some .string) (hi : P.info? e = some i) (hz : i.zero = some (.int .u8 0))
    (hsize : i.size = 1) (hby : i.bytes = 1) (v : Value) (n : Nat) (xs : List Value) (hs : a.eval s = v) (hown : w.ownsRow base e 1 v n xs) (b : ByteArray) (hx : a.eval x = .string b) (h63 : n + b.size ≤ maxLen) (hbytes : n + b.size ≤ 140737488355328) (hbase : base ≤ w.heap.size)
    (h : ∀ v' w', w'.ownsRow base e 1 v' (n + b.size) (xs ++ b.data.toList.map byv) → Chg (fun k => v.ownBlock = some k) w w' → (v'.ownBlock = v.ownBlock ∨ v'.ownBlock = some w.heap.size) → wpList P ops Q rest (a.put o.dst v') w') : wpList P ops Q (o :: rest) a w :=
  wpList_plain hgd fun _ hK => wp_append_str w s x t u ho base e i ht hu hi hz hsize hby v n xs hs hown b hx h63 hbytes hbase fun v' w' h2 h3 h4 => hK _ _ (h v' w' h2 h3 h4)
theorem low_succ : ∀ (k n : Nat), low (k + 1) n = low k n ++ [UInt8.ofNat (n / 256 ^ k % 256)]
  | 0, n => by simp [low]
  | k + 1, n => by
    rw [low, low_succ k, low, List.cons_append, Nat.div_div_eq_div_mul, Nat.pow_succ, Nat.mul_comm 256]
theorem byt_low (n k : Nat) : Value.int .u8 ((n : Int) / 2 ^ (8 * k) % 256) = byv (UInt8.ofNat (n / 256 ^ k % 256)) := by
  unfold byv
  have e : (2 : Nat) ^ (8 * k) = 256 ^ k := by rw [Nat.pow_mul]
  have h : (UInt8.ofNat (n / 256 ^ k % 256)).toNat = n / 256 ^ k % 256 := by
    rw [UInt8.toNat_ofNat']
    exact Nat.mod_eq_of_lt (Nat.mod_lt _ (by omega))
  rw [h, ← e]
  push_cast
  rfl
theorem low_snoc (bs : List UInt8) (k n : Nat) (q : Nat) (hq : q = (bs ++ low k n).length) (W : World) (v : Value) (base : Nat) (h : W.ownsRow base 5 1 v (q + 1) ((bs ++ low k n).map byv ++ [.int .u8 ((n : Int) / 2 ^ (8 * k) % 256)])) : OwB W base v (bs ++ low (k + 1) n) := by
  subst hq
  have e : bs ++ low (k + 1) n = (bs ++ low k n) ++ [UInt8.ofNat (n / 256 ^ k % 256)] := by rw [low_succ, List.append_assoc]
  unfold OwB
  rw [e, List.length_append (bs := [UInt8.ofNat (n / 256 ^ k % 256)]), List.map_append (l₂ := [UInt8.ofNat (n / 256 ^ k % 256)]), List.map_singleton, ← byt_low]
  exact h
theorem num_any (bs : List UInt8) (n m : Nat) (v : Value) (base : Nat) (w : World) (h : OwB w base v bs) (hb : base ≤ w.heap.size) (_hn : n < 4611686018427387904) (hm : m ≤ 4) (hl : bs.length + m ≤ 1000000000) :
    Calls Tryz.prog 24 #[v, .int .i64 (n : Int), .int .i64 (m : Int)] w (PutOut base w v (bs ++ low m n)) := by
  obtain ⟨A, c, rfl⟩ := h.val
  obtain ⟨i_, hi, hz, hs, hbb⟩ := info_parts infoU8
  have hlt0 := h.base
  have HI0 := hH (show PutOut base w (.slice A bs.length c) (bs ++ low 0 n) (.returned (.slice A bs.length c)) w from ⟨_, rfl, by rw [low, List.append_nil]; exact h, Chg.refl _ _, fun k hk => .inl hk⟩)
  have HLT0 := hH hlt0
  clear h hlt0
  go_enter Tryz.func24, Tryz.ntmps24
  go_wp2_with fail
  go_loopw [0, 9] (fun b i wr => ∃ k : Nat, i = .int .i64 (k : Int) ∧ k ≤ m ∧ PutOut base w (.slice A bs.length c) (bs ++ low k n) (.returned b) wr) (fun _ i _ => m - (intOf i).toNat)
  case atStart => exact ⟨0, rfl, Nat.zero_le _, uH HI0⟩
  case round =>
    clear HI0
    obtain ⟨wq, rfl⟩ : ∃ wq : World, wq = wr := ⟨_, rfl⟩
    obtain ⟨k, rfl, hk, vo, he, ho, hc, hk2⟩ := hrel
    injection he with he
    subst he
    have hll : (bs ++ low k n).length = bs.length + k := by rw [List.length_append, low_len]
    by_cases hlt : k < m
    · have hki : (k : Int) < (m : Int) := by omega
      obtain ⟨A2, c2, hu0⟩ := ho.val
      have HO := hH ho
      have HST := hH (fun W5 v5 (h5 : OwB W5 base v5 (bs ++ low (k + 1) n)) (hc5 : Chg (fun j => u0.ownBlock = some j) (wq.alloc (.cells #[.int .u8 ((n : Int) / 2 ^ (8 * k) % 256)] 5)) W5) (hat : v5.ownBlock = u0.ownBlock ∨ v5.ownBlock = some (wq.alloc (.cells #[.int .u8 ((n : Int) / 2 ^ (8 * k) % 256)] 5)).heap.size) => show PutOut base w (.slice A bs.length c) (bs ++ low (k + 1) n) (.returned v5) W5 from by
        have z1 := hc.size
        rw [size_alloc] at hat
        refine ⟨v5, rfl, h5, hc.trans (((Chg.refl _ wq).alloc _).trans' hc5) (fun i hi hs => ?_), fun j hj => ?_⟩
        · rcases hk2 i hs with h | h
          · exact h
          · omega
        · rcases hat with h | h
          · rw [h] at hj
            exact hk2 j hj
          · rw [h] at hj
            injection hj with hj
            right
            omega)
      have hbw : base ≤ (wq.alloc (.cells #[.int .u8 ((n : Int) / 2 ^ (8 * k) % 256)] 5)).heap.size := by rw [size_alloc]; have := hc.size; omega
      have HRN := hH ((rd_new wq wq.heap.size 5 [.int .u8 ((n : Int) / 2 ^ (8 * k) % 256)] rfl).mono (T' := fun _ => True) (fun _ _ => trivial))
      have HOW := hH ((show wq.ownsRow base 5 1 u0 (bs ++ low k n).length ((bs ++ low k n).map byv) from ho).alloc (.cells #[.int .u8 ((n : Int) / 2 ^ (8 * k) % 256)] 5))
      have hm1 : (bs ++ low k n).length + 1 ≤ maxLen := by simp only [maxLen]; omega
      have hm2 : ((bs ++ low k n).length + 1) * 1 ≤ 140737488355328 := by omega
      have ho1 : ∀ u ∈ [Value.int .u8 ((n : Int) / 2 ^ (8 * k) % 256)], u.oneCell' = true := by intro u hu; simp at hu; subst hu; rfl
      have hls := low_snoc bs k n
      generalize bs ++ low k n = B at *
      subst hu0
      clear ho hc hk2
      go_wp2_with (first
        | (at_builtin
           refine wpList_append_rd _ rfl (.tmp 12) (.tmp 18) 46 rfl base 5 i_ (.int .u8 0) 1 1 Tryz.underlying46 hi hz hs hbb rfl (Nat.succ_pos 0) _ B.length _ rfl (uH HOW) (fun _ => True) (some ⟨wq.heap.size, 0, none⟩) 1 1 [.int .u8 ((n : Int) / 2 ^ (8 * k) % 256)] rfl rfl (uH HRN) ho1 hm1 hm2 hbw ?_
           intro v5 w5 ho5 hc5 hat
           have HP5 := hH (uH HST w5 v5 (hls B.length rfl w5 v5 base ho5) hc5 hat)
           clear ho5 hc5 hat))
      go_roundw
      case rel => exact ⟨k + 1, by go_num, by omega, uH HP5⟩
      case measure => simp [intOf]; omega
    · obtain rfl : k = m := by omega
      have hki : ¬ (k : Int) < (k : Int) := by omega
      have HX := hH (show PutOut base w (.slice A bs.length c) (bs ++ low k n) (.returned u0) wq from ⟨u0, rfl, ho, hc, hk2⟩)
      clear ho hc hk2
      go_wp2_with fail
      go_ret
      exact uH HX
end Go.Proofs.YtinekmjengckdaaGreatDoor

namespace Go.Proofs.YtinekmjengckdaaGreatDoor
open Go.RowKit
set_option maxHeartbeats 4000000
set_option maxRecDepth 100000
def Pt (base : Nat) (w : World) (v : Value) (w' : World) (v' : Value) (bs : List UInt8) : Prop :=
  OwB w' base v' bs ∧ Chg (fun k => v.ownBlock = some k) w w' ∧ ∀ k, v'.ownBlock = some k → v.ownBlock = some k ∨ w.heap.size ≤ k
section
variable {base : Nat} {w w1 w2 : World} {v v1 v2 : Value} {bs bs1 bs2 : List UInt8}
theorem Pt.refl (h : OwB w base v bs) : Pt base w v w v bs := ⟨h, Chg.refl _ _, fun _ hk => .inl hk⟩
theorem Pt.chg (h : Pt base w v w1 v1 bs) (hc : Chg (fun _ => False) w1 w2) : Pt base w v w2 v1 bs :=
  ⟨h.1.chg hc (fun _ _ => id), h.2.1.trans hc (fun _ _ e => e.elim), h.2.2⟩
theorem Pt.alloc (h : Pt base w v w1 v1 bs) (O : Obj) : Pt base w v (w1.alloc O) v1 bs := h.chg ((Chg.refl _ _).alloc O)
theorem Pt.drew (h : Pt base w v w1 v1 bs) : Pt base w v w1.drew v1 bs := h.chg (Chg.drew (Chg.refl _ _))
theorem Pt.trans (h : Pt base w v w1 v1 bs1) (k : Pt base w1 v1 w2 v2 bs2) : Pt base w v w2 v2 bs2 := by
  have z := h.2.1.size
  refine ⟨k.1, h.2.1.trans k.2.1 (fun i hi hs => ?_), fun j hj => ?_⟩
  · rcases h.2.2 i hs with e | e
    · exact e
    · omega
  · rcases k.2.2 j hj with e | e
    · exact h.2.2 j e
    · exact .inr (by omega)
theorem Pt.app (h : Pt base w v w1 v1 bs1) (ho : OwB w2 base v2 bs2) (hc : Chg (fun k => v1.ownBlock = some k) w1 w2) (hat : v2.ownBlock = v1.ownBlock ∨ v2.ownBlock = some w1.heap.size) : Pt base w v w2 v2 bs2 :=
  h.trans ⟨ho, hc, fun k hk => by
    rcases hat with e | e
    · exact .inl (e ▸ hk)
    · rw [e] at hk
      injection hk with hk
      exact .inr (by omega)⟩
theorem Pt.low (p : Pt base w v w1 v1 bs1) (h : OwB w base v bs) : Chg (fun k => base ≤ k) w w1 := p.2.1.mono fun k _ hk => (h.base k hk).1
theorem Pt.blk (p : Pt base w v w1 v1 bs1) (h : OwB w base v bs) {g : Nat} {t : TypeId} {cs : Array Value} (hg : Blk w g t cs) (ht : 5 ≠ t) : Blk w1 g t cs := hg.chg p.2.1 (fun e => own_blk_ne h hg ht e)
theorem OwB.put {n : Nat} (hn : n = bs.length) {m : Nat} {news : List UInt8} (hm : m = news.length) (h : w.ownsRow base 5 1 v (n + m) (bs.map byv ++ news.map byv)) : OwB w base v (bs ++ news) := by
  subst hn hm
  unfold OwB
  rw [List.length_append, List.map_append]
  exact h
end
theorem num2_any (bs : List UInt8) (n : Nat) (v : Value) (base : Nat) (w : World) (h : OwB w base v bs) (hb : base ≤ w.heap.size) (hn : n < 4611686018427387904) (hl : bs.length + 2 ≤ 1000000000) :
    Calls Tryz.prog 24 #[v, .int .i64 (n : Int), .int .i64 2] w (PutOut base w v (bs ++ low 2 n)) := num_any bs n 2 v base w h hb hn (by omega) hl
theorem num4_any (bs : List UInt8) (n : Nat) (v : Value) (base : Nat) (w : World) (h : OwB w base v bs) (hb : base ≤ w.heap.size) (hn : n < 4611686018427387904) (hl : bs.length + 4 ≤ 1000000000) :
    Calls Tryz.prog 24 #[v, .int .i64 (n : Int), .int .i64 4] w (PutOut base w v (bs ++ low 4 n)) := num_any bs n 4 v base w h hb hn (by omega) hl
theorem text_any (bs : List UInt8) (s : ByteArray) (v : Value) (base : Nat) (w : World) (h : OwB w base v bs) (hb : base ≤ w.heap.size) (hl : bs.length + (2 + s.size) ≤ 1000000000) :
    Calls Tryz.prog 71 #[v, .string s] w (PutOut base w v (bs ++ textP s)) := by
  obtain ⟨A, c, rfl⟩ := h.val
  obtain ⟨i_, hi, hz, hs, hbb⟩ := info_parts infoU8
  have HN := hH (num2_any bs s.size _ base w h hb (by omega) (by omega))
  have hsz : s.data.toList.length = s.size := by rw [Array.length_toList]; rfl
  have hll : (bs ++ low 2 s.size).length = bs.length + 2 := by rw [List.length_append, low_len]
  have hm1 : (bs ++ low 2 s.size).length + s.size ≤ maxLen := by simp only [maxLen]; omega
  have hm2 : (bs ++ low 2 s.size).length + s.size ≤ 140737488355328 := by omega
  have HSZ := hH hsz
  have hT : bs ++ textP s = (bs ++ low 2 s.size) ++ s.data.toList := by unfold textP; rw [List.append_assoc]
  rw [hT]
  generalize bs ++ low 2 s.size = B at *
  clear h hT hsz hll
  go_enter Tryz.func71, Tryz.ntmps71
  go_wp2_with (first
    | (go_at_call 24; (with_reducible refine (uH HN).mono ?_); rintro e w2 ⟨v2, rfl, h2⟩; (obtain ⟨A2, c2, rfl⟩ := h2.1.val); (have H2 : Hid (Pt base w _ w2 _ B) := hH h2); clear h2)
    | (at_builtin
       refine wpList_append_str _ rfl (.tmp 8) (.tmp 9) 46 9 rfl base 5 i_ Tryz.underlying46 Tryz.underlying9 hi hz hs hbb _ B.length _ rfl (uH H2).1 s rfl hm1 hm2 (Nat.le_trans hb (uH H2).2.1.size) ?_
       intro v3 w3 ho3 hc3 hat
       have H3 := hH (Pt.app (uH H2) (OwB.put rfl (uH HSZ).symm ho3) hc3 hat)
       clear ho3 hc3 hat))
  go_ret
  exact ⟨_, rfl, uH H3⟩
theorem node_var (bs : List UInt8) (n : Nd) (m : Nat) (v : Value) (base : Nat) (w : World) (h : OwB w base v bs) (hb : base ≤ w.heap.size) (hm : m < 4294967296) (hl : bs.length + 5 ≤ 1000000000) :
    Calls Tryz.prog 129 #[v, .agg #[.int .i64 31, .string n.text, .int .i64 (m : Int), .int .i64 n.kids]] w (PutOut base w v (bs ++ 0 :: low 4 m)) := by
  obtain ⟨A, c, rfl⟩ := h.val
  obtain ⟨i_, hi, hz, hs, hbb⟩ := info_parts infoU8
  have b0 := Blk.new w 59 #[.int .i64 31, .string n.text, .int .i64 (m : Int), .int .i64 n.kids]
  have p0 := (Pt.refl h).alloc (.cells #[.int .i64 31, .string n.text, .int .i64 (m : Int), .int .i64 n.kids] 59)
  have b1 := b0.alloc (.cells #[.int .u8 0] 5)
  have p1 := p0.alloc (.cells #[.int .u8 0] 5)
  have hz1 : base ≤ ((w.alloc (.cells #[.int .i64 31, .string n.text, .int .i64 (m : Int), .int .i64 n.kids] 59)).alloc (.cells #[.int .u8 0] 5)).heap.size := Nat.le_trans hb p1.2.1.size
  have h1 := p0.1
  have KS0 := hH (b0.cell 2)
  have KS1 := hH (b1.cell 2)
  have KSW := hH (show ∀ W v1 bs1, Pt base ((w.alloc (.cells #[.int .i64 31, .string n.text, .int .i64 (m : Int), .int .i64 n.kids] 59)).alloc (.cells #[.int .u8 0] 5)).drew (.slice A bs.length c) W v1 bs1 → W.cell? ⟨w.heap.size, 2, none⟩ = some (.int .i64 (m : Int)) from fun W v1 bs1 hp => (hp.blk p1.drew.1 b1.drew (by decide)).cell 2)
  have KSX := hH (show ∀ W v1 bs1, Pt base w (.slice A bs.length c) W v1 bs1 → True from fun _ _ _ _ => trivial)
  have HNM := hH (fun W v1 (hp : Pt base w (.slice A bs.length c) W v1 (bs ++ [0])) => num4_any (bs ++ [0]) m v1 base W hp.1 (Nat.le_trans hb hp.2.1.size) (by omega) (by simp; omega))
  have HOW := hH (show ((w.alloc (.cells #[.int .i64 31, .string n.text, .int .i64 (m : Int), .int .i64 n.kids] 59)).alloc (.cells #[.int .u8 0] 5)).drew.ownsRow base 5 1 (.slice A bs.length c) bs.length (bs.map byv) from p1.drew.1)
  have HRN := hH ((rd_new (w.alloc (.cells #[.int .i64 31, .string n.text, .int .i64 (m : Int), .int .i64 n.kids] 59)) (w.heap.size + 1) 5 [.int .u8 0] (size_alloc _ _).symm).mono (T' := fun _ => True) (fun _ _ => trivial))
  have HP1 := hH p1.drew
  have hz2 : base ≤ ((w.alloc (.cells #[.int .i64 31, .string n.text, .int .i64 (m : Int), .int .i64 n.kids] 59)).alloc (.cells #[.int .u8 0] 5)).drew.heap.size := hz1
  have hm1 : bs.length + 1 ≤ maxLen := by simp only [maxLen]; omega
  have hm2 : (bs.length + 1) * 1 ≤ 140737488355328 := by omega
  have ho1 : ∀ u ∈ [Value.int .u8 0], u.oneCell' = true := by intro u hu; simp at hu; subst hu; rfl
  have hT : bs ++ 0 :: low 4 m = (bs ++ [0]) ++ low 4 m := by simp
  rw [hT]
  clear h b0 b1 p0 p1 h1 hT hz1
  go_enter Tryz.func129, Tryz.ntmps129
  go_wp2_with fail
  refine wp_region_ab (fun W' => W'.cell? ⟨w.heap.size, 2, none⟩ = some (.int .i64 (m : Int))) 6 7 (by kernel_rfl) (by kernel_rfl) ?_
  refine AB.tk (i := 0) (v := ?_) rfl (by kernel_rfl) (by kernel_rfl) (fun _ _ _ h => h) ?_ (uH KS0) ?_
  rotate_left
  · intro W' hS'; (try dsimp only at hS'); go_simp; try with_reducible rfl
  try simp only [Act.put, List.setIfInBounds_toArray]
  refine AB.tk (i := 3) (v := ?_) rfl (by kernel_rfl) (by kernel_rfl) (fun _ _ _ h => h) ?_ (uH KS0) ?_
  rotate_left
  · intro W' hS'; (try dsimp only at hS'); go_simp; try with_reducible rfl
  try simp only [Act.put]
  refine AB.tk (i := 4) (v := ?_) rfl (by kernel_rfl) (by kernel_rfl) (fun _ _ _ h => h) ?_ (uH KS0) ?_
  rotate_left
  · intro W' hS'; (try dsimp only at hS'); go_simp; try with_reducible rfl
  try simp only [Act.put]
  refine AB.step (i := 1) (by kernel_rfl) rfl (fun K hK => ?_)
  go_simp
  refine hK.out _ _ (fun _ => uH KS1) ?_
  clear hK K
  try simp only [Act.put, List.setIfInBounds_toArray, List.set_cons_zero, List.set_cons_succ]
  refine AB.step (i := 2) (by kernel_rfl) rfl (fun K hK => ?_)
  refine step_append_rd _ rfl (.tmp 8) (.tmp 9) 46 rfl base 5 i_ (.int .u8 0) 1 1 Tryz.underlying46 hi hz hs hbb rfl (Nat.succ_pos 0) _ bs.length _ rfl (uH HOW) (fun _ => True) (some ⟨w.heap.size + 1, 0, none⟩) 1 1 [.int .u8 0] rfl rfl (uH HRN) ho1 hm1 hm2 hz2 ?_
  intro v5 w5 ho5 hc5 hat
  have HP2 := hH (Pt.app (uH HP1) (OwB.put (news := [0]) rfl rfl ho5) hc5 hat)
  have HK2 := hH (uH KSW w5 v5 (bs ++ [0]) (Pt.app (Pt.refl (uH HOW)) (OwB.put (news := [0]) rfl rfl ho5) hc5 hat))
  have HPX := hH (Pt.app (Pt.refl (uH HOW)) (OwB.put (news := [0]) rfl rfl ho5) hc5 hat)
  clear ho5 hc5 hat
  refine hK.out _ _ (fun _ => uH HK2) ?_
  clear hK K
  try simp only [Act.put, List.setIfInBounds_toArray]
  refine AB.step (i := 5) (by kernel_rfl) rfl (fun K hK => ?_)
  go_simp
  go_at_call 24
  refine (uH HNM _ _ (uH HP2)).mono ?_
  rintro e w6 ⟨v6, rfl, h6⟩
  have HP3 := hH (Pt.trans (uH HP2) h6)
  have HK3 := hH (uH KSW w6 v6 _ ((uH HPX).trans h6))
  clear h6
  go_wp2_with fail
  refine hK.out _ _ (fun _ => uH HK3) ?_
  clear hK K
  try simp only [Act.put, List.setIfInBounds_toArray, List.set_cons_zero, List.set_cons_succ]
  refine AB.step (i := 6) (by kernel_rfl) rfl (fun K hK => ?_)
  go_simp
  refine hK.out _ _ (fun h => absurd rfl h) ?_
  clear hK K
  try simp only [Act.put, List.setIfInBounds_toArray, List.set_cons_zero, List.set_cons_succ]
  refine AB.done (by kernel_rfl) ?_ _
  go_wp2_with fail
  go_ret
  exact ⟨_, rfl, uH HP3⟩
end Go.Proofs.YtinekmjengckdaaGreatDoor

namespace Go.Proofs.YtinekmjengckdaaGreatDoor
open Go.RowKit
set_option maxHeartbeats 4000000
set_option maxRecDepth 100000
theorem run_append_full {P : Program} (w : World) (base : Nat) (t ty e : TypeId) (i : TypeInfo) (z : Value) (ht : P.underlying t = some (.slice e)) (hi : P.info? e = some i) (hz : i.zero = some z) (hsize : i.size = 1) (hby : i.bytes = 1) (hzs : z.cells.size = 1)
    (g n : Nat) (xs : List Value) (hx : xs.length = n) (holds : ∀ j u, xs[j]? = some u → w.cell? ((⟨g, 0, none⟩ : Addr).add j) = some u) (a : Addr) (m c : Nat) (news : List Value) (hl : news.length = m) (hnews : ∀ j u, news[j]? = some u → w.cell? (a.add j) = some u) (hm : 0 < m)
    (h63 : n + m ≤ maxLen) (hbytes : n + m ≤ 140737488355328) (hbase : base ≤ w.heap.size) :
    ∃ v' w', (Builtin.append_ #[t, t] ty #[.slice (some ⟨g, 0, none⟩) n n, .slice (some a) m c]).run P w = .ok v' w' ∧ w'.ownsRow base e 1 v' (n + m) (xs ++ news) ∧ Chg (fun _ => False) w w' ∧ v'.ownBlock = some w.heap.size := by
  have hsm : n + m ≤ 9223372036854775807 := by simp only [maxLen] at h63; omega
  have hr := run_append_grow (P := P) w t ty e i z ht hi hz ⟨g, 0, none⟩ n n xs (by rw [hsize]; omega) holds a m c news (by rw [hsize]; omega) hnews (by omega) (by omega) (by rw [hby]; exact growslice_fits (by omega) (by omega))
  have hge := grownCap_ge w (n + m) n e
  have hcm : grownCap w (n + m) n e ≤ maxLen := grownCap_le_maxLen w (n + m) n e h63
  have hlen : (xs ++ news).length = (n + m) * 1 := by rw [List.length_append, hx, hl, Nat.mul_one]
  refine ⟨_, _, hr, ⟨hlen, .inr ⟨w.heap.size, _, _, rfl, hbase, heap_alloc_new w.drew _, hge, hcm, ?_, ?_⟩⟩, (Chg.refl _ w).drew.alloc _, rfl⟩
  · simp only [Array.size_append, List.size_toArray, size_zeroCells, hzs, hx, hl]
    omega
  · simp only [Array.toList_append, List.append_assoc]
    rw [← List.append_assoc, ← hlen]
    exact List.take_left
theorem wpList_append_full {P : Program} (w : World) {ops : Array Oper} {rest : List Oper} {o : Oper} {a : Act} {Q : Exit → Act → World → Prop} (hgd : o.guard = none) (s x : Operand) (t : TypeId)
    (ho : o.op = .call { callee := .builtin .append, args := #[s, x], argTypes := #[t, t] }) (base : Nat) (e : TypeId) (i : TypeInfo) (z : Value) (ht : P.underlying t = some (.slice e)) (hi : P.info? e = some i) (hz : i.zero = some z) (hsize : i.size = 1) (hby : i.bytes = 1) (hzs : z.cells.size = 1)
    (g n : Nat) (xs : List Value) (hs : a.eval s = .slice (some ⟨g, 0, none⟩) n n) (hx : xs.length = n) (holds : ∀ j u, xs[j]? = some u → w.cell? ((⟨g, 0, none⟩ : Addr).add j) = some u) (ad : Addr) (m c : Nat) (news : List Value) (hxx : a.eval x = .slice (some ad) m c) (hl : news.length = m) (hnews : ∀ j u, news[j]? = some u → w.cell? (ad.add j) = some u) (hm : 0 < m)
    (h63 : n + m ≤ maxLen) (hbytes : n + m ≤ 140737488355328) (hbase : base ≤ w.heap.size)
    (h : ∀ v' w', w'.ownsRow base e 1 v' (n + m) (xs ++ news) → Chg (fun _ => False) w w' → v'.ownBlock = some w.heap.size → wpList P ops Q rest (a.put o.dst v') w') : wpList P ops Q (o :: rest) a w :=
  wpList_plain hgd fun K hK => by
    obtain ⟨v', w', hrun, h2, h3, h4⟩ := run_append_full (P := P) w base t o.type e i z ht hi hz hsize hby hzs g n xs hx holds ad m c news hl hnews hm h63 hbytes hbase
    unfold Oper.wp execOp
    simp only [ho, resolve, invoke, builtin, Sem.run_bind, Sem.run_pure, Result.andThen_ok, List.map_toArray, List.map_cons, List.map_nil, hs, hxx, hrun]
    exact hK _ _ (h v' w' h2 h3 h4)
def FullOut (base : Nat) (w : World) (bs : List UInt8) (e : Ending) (w' : World) : Prop :=
  ∃ v', e = .returned v' ∧ OwB w' base v' bs ∧ Chg (fun _ => False) w w' ∧ ∀ k, v'.ownBlock = some k → w.heap.size ≤ k
theorem byt0 (n : Nat) : Value.int .u8 ((n : Int) % 256) = byv (UInt8.ofNat (n % 256)) := by
  unfold byv
  have h : (UInt8.ofNat (n % 256)).toNat = n % 256 := by
    rw [UInt8.toNat_ofNat']
    exact Nat.mod_eq_of_lt (Nat.mod_lt _ (by omega))
  rw [h]
  push_cast
  rfl
theorem num2_full (bs : List UInt8) (n g : Nat) (base : Nat) (w : World) (hc : ∀ j u, (bs.map byv)[j]? = some u → w.cell? ((⟨g, 0, none⟩ : Addr).add j) = some u) (hb : base ≤ w.heap.size) (_hn : n < 4611686018427387904) (hl : bs.length ≤ 1000000) :
    Calls Tryz.prog 24 #[.slice (some ⟨g, 0, none⟩) bs.length bs.length, .int .i64 (n : Int), .int .i64 2] w (FullOut base w (bs ++ low 2 n)) := by
  obtain ⟨i_, hi, hz, hs, hbb⟩ := info_parts infoU8
  have HC := hH hc
  clear hc
  go_enter Tryz.func24, Tryz.ntmps24
  go_wp2_with fail
  go_loopw [0, 9] (fun b i wr => (i = .int .i64 0 ∧ b = .slice (some ⟨g, 0, none⟩) bs.length bs.length ∧ wr = w) ∨ ∃ k : Nat, i = .int .i64 (k : Int) ∧ 1 ≤ k ∧ k ≤ 2 ∧ FullOut base w (bs ++ low k n) (.returned b) wr) (fun _ i _ => 2 - (intOf i).toNat)
  case atStart => exact .inl ⟨rfl, rfl, rfl⟩
  case round =>
    obtain ⟨wq, rfl⟩ : ∃ wq : World, wq = wr := ⟨_, rfl⟩
    rcases hrel with ⟨rfl, rfl, rfl⟩ | ⟨k, rfl, h1, hk, vo, he, ho, hcc, hk2⟩
    · have hvals : ∀ j u, [Value.int .u8 ((n : Int) % 256)][j]? = some u → (wq.alloc (.cells #[.int .u8 ((n : Int) % 256)] 5)).cell? ((⟨wq.heap.size, 0, none⟩ : Addr).add j) = some u := fun j u hu => by
        rw [add_flat, Nat.zero_add]
        exact ((Blk.new wq 5 #[.int .u8 ((n : Int) % 256)]).cell j).trans (by simpa using hu)
      have hold2 : ∀ j u, (bs.map byv)[j]? = some u → (wq.alloc (.cells #[.int .u8 ((n : Int) % 256)] 5)).cell? ((⟨g, 0, none⟩ : Addr).add j) = some u := fun j u hu => by
        have := (uH HC) j u hu
        exact (((Chg.refl (fun _ => False) wq).alloc (.cells #[.int .u8 ((n : Int) % 256)] 5)).cell (World.block_lt_of_cell? wq _ this) id).trans this
      have hb2 : base ≤ (wq.alloc (.cells #[.int .u8 ((n : Int) % 256)] 5)).heap.size := by rw [size_alloc]; omega
      have hm1 : bs.length + 1 ≤ maxLen := by simp only [maxLen]; omega
      have hm2 : bs.length + 1 ≤ 140737488355328 := by omega
      have hml : (bs.map byv).length = bs.length := List.length_map _
      have HV := hH hvals
      have HO := hH hold2
      clear hvals hold2
      go_wp2_with (at_builtin
                   refine wpList_append_full _ rfl (.tmp 12) (.tmp 18) 46 rfl base 5 i_ (.int .u8 0) Tryz.underlying46 hi hz hs hbb rfl g bs.length (bs.map byv) rfl hml (uH HO) ⟨wq.heap.size, 0, none⟩ 1 1 [.int .u8 ((n : Int) % 256)] rfl rfl (uH HV) (by decide) hm1 hm2 hb2 ?_
                   intro v5 w5 ho5 hc5 hat
                   have HO5 := hH (show OwB w5 base v5 (bs ++ low 1 n) from by
                     rw [byt0] at ho5
                     exact OwB.put (news := [UInt8.ofNat (n % 256)]) rfl rfl ho5)
                   have HC5 := hH (((Chg.refl (fun _ => False) wq).alloc (.cells #[.int .u8 ((n : Int) % 256)] 5)).trans' hc5)
                   have HAT := hH hat
                   clear ho5 hc5 hat)
      go_roundw
      case rel => exact .inr ⟨1, by go_num, by omega, by omega, _, rfl, uH HO5, uH HC5, fun k hk => by
        rw [uH HAT, size_alloc] at hk
        injection hk with hk
        omega⟩
      case measure => simp [intOf]
    · injection he with he
      subst he
      have hll : (bs ++ low k n).length = bs.length + k := by rw [List.length_append, low_len]
      by_cases hlt : k < 2
      · have hki : (k : Int) < 2 := by omega
        have hk8 : k = 0 ∨ k = 1 ∨ k = 2 ∨ k = 3 := by omega
        obtain ⟨A2, c2, hu0⟩ := ho.val
        have hbw : base ≤ (wq.alloc (.cells #[.int .u8 ((n : Int) / 2 ^ (8 * k) % 256)] 5)).heap.size := by rw [size_alloc]; have := hcc.size; omega
        have HRN := hH ((rd_new wq wq.heap.size 5 [.int .u8 ((n : Int) / 2 ^ (8 * k) % 256)] rfl).mono (T' := fun _ => True) (fun _ _ => trivial))
        have HP := hH ((Pt.refl ho).alloc (.cells #[.int .u8 ((n : Int) / 2 ^ (8 * k) % 256)] 5))
        have HOW := hH (show (wq.alloc (.cells #[.int .u8 ((n : Int) / 2 ^ (8 * k) % 256)] 5)).ownsRow base 5 1 u0 (bs ++ low k n).length ((bs ++ low k n).map byv) from (uH HP).1)
        have hm1 : (bs ++ low k n).length + 1 ≤ maxLen := by simp only [maxLen]; omega
        have hm2 : ((bs ++ low k n).length + 1) * 1 ≤ 140737488355328 := by omega
        have ho1 : ∀ u ∈ [Value.int .u8 ((n : Int) / 2 ^ (8 * k) % 256)], u.oneCell' = true := by intro u hu; simp at hu; subst hu; rfl
        have HLS := hH (low_snoc bs k n)
        generalize bs ++ low k n = B at *
        subst hu0
        have HCC := hH hcc
        have HK2 := hH hk2
        clear ho hcc hk2
        go_wp2_with (at_builtin
                     refine wpList_append_rd _ rfl (.tmp 12) (.tmp 18) 46 rfl base 5 i_ (.int .u8 0) 1 1 Tryz.underlying46 hi hz hs hbb rfl (Nat.succ_pos 0) _ B.length _ rfl (uH HOW) (fun _ => True) (some ⟨wq.heap.size, 0, none⟩) 1 1 [.int .u8 ((n : Int) / 2 ^ (8 * k) % 256)] rfl rfl (uH HRN) ho1 hm1 hm2 hbw ?_
                     intro v5 w5 ho5 hc5 hat
                     have HP5 := hH (Pt.app (uH HP) (uH HLS B.length rfl w5 v5 base ho5) hc5 hat)
                     clear ho5 hc5 hat)
        go_roundw
        case rel =>
          exact .inr ⟨k + 1, by go_num, by omega, by omega, _, rfl, (uH HP5).1, (uH HCC).trans (uH HP5).2.1 (fun i hi e => by have := (uH HK2) i e; omega), fun j hj => by
            rcases (uH HP5).2.2 j hj with e | e
            · exact (uH HK2) j e
            · have := (uH HCC).size
              omega⟩
        case measure => simp [intOf]; omega
      · obtain rfl : k = 2 := by omega
        have HX := hH (show FullOut base w (bs ++ low 2 n) (.returned u0) wq from ⟨u0, rfl, ho, hcc, hk2⟩)
        clear ho hcc hk2
        go_wp2_with fail
        go_ret
        exact uH HX
theorem text_full (bs : List UInt8) (s : ByteArray) (g : Nat) (base : Nat) (w : World) (hc : ∀ j u, (bs.map byv)[j]? = some u → w.cell? ((⟨g, 0, none⟩ : Addr).add j) = some u) (hb : base ≤ w.heap.size) (hl : bs.length ≤ 1000000) (hs : s.size ≤ 1000000000) :
    Calls Tryz.prog 71 #[.slice (some ⟨g, 0, none⟩) bs.length bs.length, .string s] w (FullOut base w (bs ++ textP s)) := by
  obtain ⟨i_, hi, hz, hs1, hbb⟩ := info_parts infoU8
  have HN := hH (num2_full bs s.size g base w hc hb (by omega) hl)
  have hsz : s.data.toList.length = s.size := by rw [Array.length_toList]; rfl
  have hll : (bs ++ low 2 s.size).length = bs.length + 2 := by rw [List.length_append, low_len]
  have hm1 : (bs ++ low 2 s.size).length + s.size ≤ maxLen := by simp only [maxLen]; omega
  have hm2 : (bs ++ low 2 s.size).length + s.size ≤ 140737488355328 := by omega
  have HSZ := hH hsz
  have hT : bs ++ textP s = (bs ++ low 2 s.size) ++ s.data.toList := by unfold textP; rw [List.append_assoc]
  rw [hT]
  generalize bs ++ low 2 s.size = B at *
  clear hc hT hsz hll
  go_enter Tryz.func71, Tryz.ntmps71
  go_wp2_with (first
    | (go_at_call 24; (with_reducible refine (uH HN).mono ?_); rintro e w2 ⟨v2, rfl, ho2, hc2, hk2⟩; (obtain ⟨A2, c2, rfl⟩ := ho2.val); have HO := hH ho2; have HC := hH hc2; have HK := hH hk2; clear ho2 hc2 hk2)
    | (at_builtin
       refine wpList_append_str _ rfl (.tmp 8) (.tmp 9) 46 9 rfl base 5 i_ Tryz.underlying46 Tryz.underlying9 hi hz hs1 hbb _ B.length _ rfl (uH HO) s rfl hm1 hm2 (Nat.le_trans hb (uH HC).size) ?_
       intro v3 w3 ho3 hc3 hat
       have H3 := hH (Pt.app (Pt.refl (uH HO)) (OwB.put rfl (uH HSZ).symm ho3) hc3 hat)
       clear ho3 hc3 hat))
  go_ret
  exact ⟨_, rfl, (uH H3).1, (uH HC).trans (uH H3).2.1 (fun i hi e => by have := (uH HK) i e; omega), fun j hj => by
    rcases (uH H3).2.2 j hj with e | e
    · exact (uH HK) j e
    · have := (uH HC).size
      omega⟩
end Go.Proofs.YtinekmjengckdaaGreatDoor
