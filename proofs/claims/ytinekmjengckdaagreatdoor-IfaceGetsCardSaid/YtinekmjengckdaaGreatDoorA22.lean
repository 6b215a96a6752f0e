/-
  Layer 23: nodes put behind bytes.
-/
import Derived.Test.YtinekmjengckdaaGreatDoorA21
import Derived.Test.YtinekmjengckdaaGreatDoorA03
namespace Go.Proofs.YtinekmjengckdaaGreatDoor
open Go.RowKit
set_option maxHeartbeats 4000000
set_option maxRecDepth 100000
theorem byw (n : Nat) : Value.int .u8 (IntKind.u8.wrap (n : Int)) = byv (UInt8.ofNat (n % 256)) := by
  rw [← byt0]
  congr 1
theorem Hold.new {base : Nat} {w : World} {v : Value} {bs : List UInt8} {cs : Array Value} (N : Nat) (hN : N = w.heap.size) (h : OwB w base v bs) : Blk (w.alloc (.cells cs 5)) N 5 cs ∧ ¬ v.ownBlock = some N :=
  ⟨Blk.new_at w N 5 cs hN, fun e => by have := (h.base _ e).2; omega⟩
theorem Hold.step {base N : Nat} {w w2 : World} {v v2 : Value} {bs : List UInt8} {cs : Array Value} (h : Blk w N 5 cs ∧ ¬ v.ownBlock = some N) (p : Pt base w v w2 v2 bs) : Blk w2 N 5 cs ∧ ¬ v2.ownBlock = some N :=
  ⟨h.1.chg p.2.1 h.2, fun e => by
    rcases p.2.2 N e with k | k
    · exact h.2 k
    · have := h.1.lt
      omega⟩
theorem flat_pos {α : Type} (f : α → List UInt8) (hf : ∀ x, 0 < (f x).length) : ∀ l : List α, l.length ≤ (l.flatMap f).length
  | [] => Nat.le_refl _
  | x :: l => by
    have := flat_pos f hf l
    have := hf x
    rw [List.flatMap_cons, List.length_append, List.length_cons]
    omega
theorem take_flat {α : Type} (f : α → List UInt8) {l : List α} {k : Nat} {x : α} (h : l[k]? = some x) : (l.take (k + 1)).flatMap f = (l.take k).flatMap f ++ f x := by
  rw [List.take_add_one, h, List.flatMap_append]
  simp
theorem flat_le {α : Type} (f : α → List UInt8) {l : List α} {k : Nat} {x : α} (h : l[k]? = some x) : ((l.take k).flatMap f).length + (f x).length ≤ (l.flatMap f).length := by
  have h2 : (l.flatMap f).length = ((l.take (k + 1)).flatMap f).length + ((l.drop (k + 1)).flatMap f).length := by
    rw [← List.length_append, ← List.flatMap_append, List.take_append_drop]
  rw [h2, take_flat f h, List.length_append]
  omega
theorem nodeP_pos (n : Nd) : 0 < (nodeP n).length := by unfold nodeP; split <;> simp
theorem rowP_pos {α : Type} (f : α → List UInt8) (l : List α) : 0 < (rowP f l).length := by unfold rowP; rw [List.length_append, low_len]; omega
theorem typP_pos (t : List Nd) : 0 < (typP t).length := rowP_pos _ _
theorem ctP_pos (c : Ct) : 0 < (ctP c).length := by unfold ctP; rw [List.length_append, text_plen]; omega
theorem dtP_pos (d : Dt) : 0 < (dtP d).length := by unfold dtP; rw [List.length_append, text_plen]; omega
theorem opnP_pos (o : Opn) : 0 < (opnP o).length := by unfold opnP; rw [List.length_append, text_plen]; omega
theorem fxP_pos (o : Fx) : 0 < (fxP o).length := by unfold fxP; rw [List.length_append, text_plen]; omega
theorem sgP_pos (o : Sg) : 0 < (sgP o).length := by unfold sgP; rw [List.length_append, text_plen]; omega
theorem node_con (bs : List UInt8) (n : Nd) (m : Nat) (v : Value) (base : Nat) (w : World) (h : OwB w base v bs) (hb : base ≤ w.heap.size)  (hl : bs.length + (1 :: (textP n.text ++ low 1 m)).length ≤ 1000000000) :
    Calls Tryz.prog 129 #[v, .agg #[.int .i64 32, .string n.text, .int .i64 n.num, .int .i64 (m : Int)]] w (PutOut base w v (bs ++ (1 :: (textP n.text ++ low 1 m)))) := by
  obtain ⟨A, c, rfl⟩ := h.val
  obtain ⟨i_, hi, hz, hs, hbb⟩ := info_parts infoU8
  have b0 := Blk.new w 59 #[.int .i64 32, .string n.text, .int .i64 n.num, .int .i64 (m : Int)]
  have p0 := ((Pt.refl h).alloc (.cells #[.int .i64 32, .string n.text, .int .i64 n.num, .int .i64 (m : Int)] 59)).drew
  have hz1 : base ≤ (w.alloc (.cells #[.int .i64 32, .string n.text, .int .i64 n.num, .int .i64 (m : Int)] 59)).drew.heap.size := Nat.le_trans hb p0.2.1.size
  have KSW := hH (show ∀ W v1 bs1, Pt base (w.alloc (.cells #[.int .i64 32, .string n.text, .int .i64 n.num, .int .i64 (m : Int)] 59)).drew (.slice A bs.length c) W v1 bs1 → W.cell? ⟨w.heap.size, 0, none⟩ = some (.int .i64 32) ∧ W.cell? ⟨w.heap.size, 1, none⟩ = some (.string n.text) ∧ W.cell? ⟨w.heap.size, 2, none⟩ = some (.int .i64 n.num) ∧ W.cell? ⟨w.heap.size, 3, none⟩ = some (.int .i64 (m : Int)) from fun W v1 bs1 hp => by
    have hB := hp.blk p0.1 b0.drew (by decide)
    exact ⟨hB.cell 0, hB.cell 1, hB.cell 2, hB.cell 3⟩)
  have HQ := hH (Pt.refl p0.1)
  have HK := hH (uH KSW _ _ _ (uH HQ))
  have HP0 := hH p0
  simp only [List.length_cons, List.length_append, text_plen, low_len] at hl
  clear h b0 p0
  go_enter Tryz.func129, Tryz.ntmps129
  go_wp2_with fail
  refine wp_region_ab (fun W' => W'.cell? ⟨w.heap.size, 0, none⟩ = some (.int .i64 32) ∧ W'.cell? ⟨w.heap.size, 1, none⟩ = some (.string n.text) ∧ W'.cell? ⟨w.heap.size, 2, none⟩ = some (.int .i64 n.num) ∧ W'.cell? ⟨w.heap.size, 3, none⟩ = some (.int .i64 (m : Int))) 11 12 (by kernel_rfl) (by kernel_rfl) ?_
  refine AB.tk (i := 0) (v := ?_) rfl (by kernel_rfl) (by kernel_rfl) (fun _ _ _ h => h) ?_ (uH HK) ?_
  rotate_left
  · intro W' hS'; (try dsimp only at hS'); go_simp; try with_reducible rfl
  try simp only [Act.put, List.setIfInBounds_toArray]
  refine AB.tk (i := 3) (v := ?_) rfl (by kernel_rfl) (by kernel_rfl) (fun _ _ _ h => h) ?_ (uH HK) ?_
  rotate_left
  · intro W' hS'; (try dsimp only at hS'); go_simp; try with_reducible rfl
  try simp only [Act.put]
  refine AB.tk (i := 4) (v := ?_) rfl (by kernel_rfl) (by kernel_rfl) (fun _ _ _ h => h) ?_ (uH HK) ?_
  rotate_left
  · intro W' hS'; (try dsimp only at hS'); go_simp; try with_reducible rfl
  try simp only [Act.put]
  refine AB.tk (i := 6) (v := ?_) rfl (by kernel_rfl) (by kernel_rfl) (fun _ _ _ h => h) ?_ (uH HK) ?_
  rotate_left
  · intro W' hS'; (try dsimp only at hS'); go_simp; try with_reducible rfl
  try simp only [Act.put]
  refine AB.tk (i := 7) (v := ?_) rfl (by kernel_rfl) (by kernel_rfl) (fun _ _ _ h => h) ?_ (uH HK) ?_
  rotate_left
  · intro W' hS'; (try dsimp only at hS'); go_simp; try with_reducible rfl
  try simp only [Act.put]
  refine AB.tk (i := 8) (v := ?_) rfl (by kernel_rfl) (by kernel_rfl) (fun _ _ _ h => h) ?_ (uH HK) ?_
  rotate_left
  · intro W' hS'; (try dsimp only at hS'); go_simp; try with_reducible rfl
  try simp only [Act.put]
  refine AB.two (i := 1) (j := 9) (by kernel_rfl) rfl rfl (fun K hK => ?_) (fun K hK => ?_)
  · have HN_ := hH (Hold.new (cs := #[.int .u8 1]) (w.heap.size + 1) (by first | rfl | exact (size_alloc _ _).symm | (symm; refine (size_alloc _ _).trans ?_; rw [size_alloc])) (uH HQ).1)
    have HA1 := HN_
    clear HN_
    have HN_ := hH (show Pt base (w.alloc (.cells #[.int .i64 32, .string n.text, .int .i64 n.num, .int .i64 (m : Int)] 59)).drew _ ((w.alloc (.cells #[.int .i64 32, .string n.text, .int .i64 n.num, .int .i64 (m : Int)] 59)).alloc (.cells #[.int .u8 1] 5)).drew _ _ from (uH HQ).alloc (.cells #[.int .u8 1] 5))
    clear HQ
    have HQ := HN_
    clear HN_
    have HN_ := hH (uH KSW _ _ _ (uH HQ))
    clear HK
    have HK := HN_
    clear HN_
    go_simp
    refine hK.out _ _ (fun _ => uH HK) ?_
    clear hK K
    try simp only [Act.put, List.setIfInBounds_toArray, List.set_cons_zero, List.set_cons_succ]
    refine AB.two (i := 2) (j := 9) (by kernel_rfl) rfl rfl (fun K hK => ?_) (fun K hK => ?_)
    · have hown := (uH HQ).1
      unfold OwB at hown
      have HRN := (Rd.blk (uH HA1).1 (xs := [.int .u8 1]) (fun j u hu => by simpa using hu)).mono (T' := fun _ => True) (fun _ _ => trivial)
      refine step_append_rd _ rfl (.tmp 14) (.tmp 15) 46 rfl base 5 i_ (.int .u8 0) 1 1 Tryz.underlying46 hi hz hs hbb rfl (Nat.succ_pos 0) _ _ _ rfl hown (fun _ => True) _ 1 1 [.int .u8 1] rfl rfl HRN (by intro u hu; simp at hu; rcases hu with rfl <;> rfl) (by (try simp only [maxLen]); omega) (by (try simp only [List.length_append, List.length_cons, List.length_nil, text_plen, low_len]); omega) (Nat.le_trans hz1 (uH HQ).2.1.size) ?_
      intro wv2v wv2 ho5 hc5 hat
      have h2_ := Pt.app (Pt.refl (uH HQ).1) (OwB.put (news := [1]) rfl rfl ho5) hc5 hat
      clear HRN hown ho5 hc5 hat HA1
      have HN_ := hH (Pt.trans (uH HQ) h2_)
      clear HQ
      have HQ := HN_
      clear HN_
      have HN_ := hH (uH KSW _ _ _ (uH HQ))
      clear HK
      have HK := HN_
      clear HN_
      clear h2_
      refine hK.out _ _ (fun _ => uH HK) ?_
      clear hK K
      try simp only [Act.put, List.setIfInBounds_toArray]
      refine AB.two (i := 5) (j := 9) (by kernel_rfl) rfl rfl (fun K hK => ?_) (fun K hK => ?_)
      · go_simp
        go_at_call 71
        refine (text_any ((bs) ++ [1]) n.text _ base _ (uH HQ).1 (Nat.le_trans hz1 (uH HQ).2.1.size) (by (try simp only [List.length_append, List.length_cons, List.length_nil]); omega)).mono ?_
        rintro e wv3 ⟨wv3v, rfl, h2_⟩
        have HN_ := hH (Pt.trans (uH HQ) h2_)
        clear HQ
        have HQ := HN_
        clear HN_
        have HN_ := hH (uH KSW _ _ _ (uH HQ))
        clear HK
        have HK := HN_
        clear HN_
        clear h2_
        go_wp2_with fail
        refine hK.out _ _ (fun _ => uH HK) ?_
        clear hK K
        try simp only [Act.put, List.setIfInBounds_toArray, List.set_cons_zero, List.set_cons_succ]
        refine AB.step (i := 9) (by kernel_rfl) rfl (fun K hK => ?_)
        have HN_ := hH (Hold.new (cs := #[.int .u8 (IntKind.u8.wrap (m : Int))]) (wv3.heap.size) (by first | rfl | exact (size_alloc _ _).symm | (symm; refine (size_alloc _ _).trans ?_; rw [size_alloc])) (uH HQ).1)
        have HA9 := HN_
        clear HN_
        have HN_ := hH (show Pt base (w.alloc (.cells #[.int .i64 32, .string n.text, .int .i64 n.num, .int .i64 (m : Int)] 59)).drew _ (wv3.alloc (.cells #[.int .u8 (IntKind.u8.wrap (m : Int))] 5)) _ _ from (uH HQ).alloc (.cells #[.int .u8 (IntKind.u8.wrap (m : Int))] 5))
        clear HQ
        have HQ := HN_
        clear HN_
        have HN_ := hH (uH KSW _ _ _ (uH HQ))
        clear HK
        have HK := HN_
        clear HN_
        go_simp
        refine hK.out _ _ (fun _ => uH HK) ?_
        clear hK K
        try simp only [Act.put, List.setIfInBounds_toArray, List.set_cons_zero, List.set_cons_succ]
        refine AB.step (i := 10) (by kernel_rfl) rfl (fun K hK => ?_)
        have hown := (uH HQ).1
        unfold OwB at hown
        have HRN := (Rd.blk (uH HA9).1 (xs := [.int .u8 (IntKind.u8.wrap (m : Int))]) (fun j u hu => by simpa using hu)).mono (T' := fun _ => True) (fun _ _ => trivial)
        refine step_append_rd _ rfl (.tmp 19) (.tmp 23) 46 rfl base 5 i_ (.int .u8 0) 1 1 Tryz.underlying46 hi hz hs hbb rfl (Nat.succ_pos 0) _ _ _ rfl hown (fun _ => True) _ 1 1 [.int .u8 (IntKind.u8.wrap (m : Int))] rfl rfl HRN (by intro u hu; simp at hu; rcases hu with rfl <;> rfl) (by (try simp only [maxLen, List.length_append, List.length_cons, List.length_nil, text_plen]); omega) (by (try simp only [List.length_append, List.length_cons, List.length_nil, text_plen]); omega) (Nat.le_trans hz1 (uH HQ).2.1.size) ?_
        intro wv5v wv5 ho5 hc5 hat
        rw [byw] at ho5
        have h2_ := Pt.app (Pt.refl (uH HQ).1) (OwB.put (news := low 1 m) rfl rfl ho5) hc5 hat
        clear HRN hown ho5 hc5 hat HA9
        have HN_ := hH (Pt.trans (uH HQ) h2_)
        clear HQ
        have HQ := HN_
        clear HN_
        have HN_ := hH (uH KSW _ _ _ (uH HQ))
        clear HK
        have HK := HN_
        clear HN_
        clear h2_
        refine hK.out _ _ (fun _ => uH HK) ?_
        clear hK K
        try simp only [Act.put, List.setIfInBounds_toArray]
        refine AB.step (i := 11) (by kernel_rfl) rfl (fun K hK => ?_)
        go_simp
        refine hK.out _ _ (fun h => absurd rfl h) ?_
        clear hK K
        try simp only [Act.put, List.setIfInBounds_toArray, List.set_cons_zero, List.set_cons_succ]
        refine AB.done (by kernel_rfl) ?_ _
        (go_wp2_with fail; go_ret; refine ⟨_, rfl, ?_⟩; show Pt base w _ _ _ _; simpa [List.append_assoc, low] using (uH HP0).trans (uH HQ))
      · have HN_ := hH (Hold.new (cs := #[.int .u8 (IntKind.u8.wrap (m : Int))]) (wv2.heap.size) (by first | rfl | exact (size_alloc _ _).symm | (symm; refine (size_alloc _ _).trans ?_; rw [size_alloc])) (uH HQ).1)
        have HA9 := HN_
        clear HN_
        have HN_ := hH (show Pt base (w.alloc (.cells #[.int .i64 32, .string n.text, .int .i64 n.num, .int .i64 (m : Int)] 59)).drew _ (wv2.alloc (.cells #[.int .u8 (IntKind.u8.wrap (m : Int))] 5)) _ _ from (uH HQ).alloc (.cells #[.int .u8 (IntKind.u8.wrap (m : Int))] 5))
        clear HQ
        have HQ := HN_
        clear HN_
        have HN_ := hH (uH KSW _ _ _ (uH HQ))
        clear HK
        have HK := HN_
        clear HN_
        go_simp
        refine hK.out _ _ (fun _ => uH HK) ?_
        clear hK K
        try simp only [Act.put, List.setIfInBounds_toArray, List.set_cons_zero, List.set_cons_succ]
        refine AB.step (i := 5) (by kernel_rfl) rfl (fun K hK => ?_)
        go_simp
        go_at_call 71
        refine (text_any ((bs) ++ [1]) n.text _ base _ (uH HQ).1 (Nat.le_trans hz1 (uH HQ).2.1.size) (by (try simp only [List.length_append, List.length_cons, List.length_nil]); omega)).mono ?_
        rintro e wv4 ⟨wv4v, rfl, h2_⟩
        have HN_ := hH (Hold.step (uH HA9) h2_)
        clear HA9
        have HA9 := HN_
        clear HN_
        have HN_ := hH (Pt.trans (uH HQ) h2_)
        clear HQ
        have HQ := HN_
        clear HN_
        have HN_ := hH (uH KSW _ _ _ (uH HQ))
        clear HK
        have HK := HN_
        clear HN_
        clear h2_
        go_wp2_with fail
        refine hK.out _ _ (fun _ => uH HK) ?_
        clear hK K
        try simp only [Act.put, List.setIfInBounds_toArray, List.set_cons_zero, List.set_cons_succ]
        refine AB.step (i := 10) (by kernel_rfl) rfl (fun K hK => ?_)
        have hown := (uH HQ).1
        unfold OwB at hown
        have HRN := (Rd.blk (uH HA9).1 (xs := [.int .u8 (IntKind.u8.wrap (m : Int))]) (fun j u hu => by simpa using hu)).mono (T' := fun _ => True) (fun _ _ => trivial)
        refine step_append_rd _ rfl (.tmp 19) (.tmp 23) 46 rfl base 5 i_ (.int .u8 0) 1 1 Tryz.underlying46 hi hz hs hbb rfl (Nat.succ_pos 0) _ _ _ rfl hown (fun _ => True) _ 1 1 [.int .u8 (IntKind.u8.wrap (m : Int))] rfl rfl HRN (by intro u hu; simp at hu; rcases hu with rfl <;> rfl) (by (try simp only [maxLen, List.length_append, List.length_cons, List.length_nil, text_plen]); omega) (by (try simp only [List.length_append, List.length_cons, List.length_nil, text_plen]); omega) (Nat.le_trans hz1 (uH HQ).2.1.size) ?_
        intro wv5v wv5 ho5 hc5 hat
        rw [byw] at ho5
        have h2_ := Pt.app (Pt.refl (uH HQ).1) (OwB.put (news := low 1 m) rfl rfl ho5) hc5 hat
        clear HRN hown ho5 hc5 hat HA9
        have HN_ := hH (Pt.trans (uH HQ) h2_)
        clear HQ
        have HQ := HN_
        clear HN_
        have HN_ := hH (uH KSW _ _ _ (uH HQ))
        clear HK
        have HK := HN_
        clear HN_
        clear h2_
        refine hK.out _ _ (fun _ => uH HK) ?_
        clear hK K
        try simp only [Act.put, List.setIfInBounds_toArray]
        refine AB.step (i := 11) (by kernel_rfl) rfl (fun K hK => ?_)
        go_simp
        refine hK.out _ _ (fun h => absurd rfl h) ?_
        clear hK K
        try simp only [Act.put, List.setIfInBounds_toArray, List.set_cons_zero, List.set_cons_succ]
        refine AB.done (by kernel_rfl) ?_ _
        (go_wp2_with fail; go_ret; refine ⟨_, rfl, ?_⟩; show Pt base w _ _ _ _; simpa [List.append_assoc, low] using (uH HP0).trans (uH HQ))
    · have HN_ := hH (Hold.new (cs := #[.int .u8 (IntKind.u8.wrap (m : Int))]) (w.heap.size + 1 + 1) (by first | rfl | exact (size_alloc _ _).symm | (symm; refine (size_alloc _ _).trans ?_; rw [size_alloc])) (uH HQ).1)
      have HA9 := HN_
      clear HN_
      have HN_ := hH (And.intro ((uH HA1).1.alloc (.cells #[.int .u8 (IntKind.u8.wrap (m : Int))] 5)) (uH HA1).2)
      clear HA1
      have HA1 := HN_
      clear HN_
      have HN_ := hH (show Pt base (w.alloc (.cells #[.int .i64 32, .string n.text, .int .i64 n.num, .int .i64 (m : Int)] 59)).drew _ (((w.alloc (.cells #[.int .i64 32, .string n.text, .int .i64 n.num, .int .i64 (m : Int)] 59)).alloc (.cells #[.int .u8 1] 5)).alloc (.cells #[.int .u8 (IntKind.u8.wrap (m : Int))] 5)).drew _ _ from (uH HQ).alloc (.cells #[.int .u8 (IntKind.u8.wrap (m : Int))] 5))
      clear HQ
      have HQ := HN_
      clear HN_
      have HN_ := hH (uH KSW _ _ _ (uH HQ))
      clear HK
      have HK := HN_
      clear HN_
      go_simp
      refine hK.out _ _ (fun _ => uH HK) ?_
      clear hK K
      try simp only [Act.put, List.setIfInBounds_toArray, List.set_cons_zero, List.set_cons_succ]
      refine AB.step (i := 2) (by kernel_rfl) rfl (fun K hK => ?_)
      have hown := (uH HQ).1
      unfold OwB at hown
      have HRN := (Rd.blk (uH HA1).1 (xs := [.int .u8 1]) (fun j u hu => by simpa using hu)).mono (T' := fun _ => True) (fun _ _ => trivial)
      refine step_append_rd _ rfl (.tmp 14) (.tmp 15) 46 rfl base 5 i_ (.int .u8 0) 1 1 Tryz.underlying46 hi hz hs hbb rfl (Nat.succ_pos 0) _ _ _ rfl hown (fun _ => True) _ 1 1 [.int .u8 1] rfl rfl HRN (by intro u hu; simp at hu; rcases hu with rfl <;> rfl) (by (try simp only [maxLen]); omega) (by (try simp only [List.length_append, List.length_cons, List.length_nil, text_plen, low_len]); omega) (Nat.le_trans hz1 (uH HQ).2.1.size) ?_
      intro wv3v wv3 ho5 hc5 hat
      have h2_ := Pt.app (Pt.refl (uH HQ).1) (OwB.put (news := [1]) rfl rfl ho5) hc5 hat
      clear HRN hown ho5 hc5 hat HA1
      have HN_ := hH (Hold.step (uH HA9) h2_)
      clear HA9
      have HA9 := HN_
      clear HN_
      have HN_ := hH (Pt.trans (uH HQ) h2_)
      clear HQ
      have HQ := HN_
      clear HN_
      have HN_ := hH (uH KSW _ _ _ (uH HQ))
      clear HK
      have HK := HN_
      clear HN_
      clear h2_
      refine hK.out _ _ (fun _ => uH HK) ?_
      clear hK K
      try simp only [Act.put, List.setIfInBounds_toArray]
      refine AB.step (i := 5) (by kernel_rfl) rfl (fun K hK => ?_)
      go_simp
      go_at_call 71
      refine (text_any ((bs) ++ [1]) n.text _ base _ (uH HQ).1 (Nat.le_trans hz1 (uH HQ).2.1.size) (by (try simp only [List.length_append, List.length_cons, List.length_nil]); omega)).mono ?_
      rintro e wv4 ⟨wv4v, rfl, h2_⟩
      have HN_ := hH (Hold.step (uH HA9) h2_)
      clear HA9
      have HA9 := HN_
      clear HN_
      have HN_ := hH (Pt.trans (uH HQ) h2_)
      clear HQ
      have HQ := HN_
      clear HN_
      have HN_ := hH (uH KSW _ _ _ (uH HQ))
      clear HK
      have HK := HN_
      clear HN_
      clear h2_
      go_wp2_with fail
      refine hK.out _ _ (fun _ => uH HK) ?_
      clear hK K
      try simp only [Act.put, List.setIfInBounds_toArray, List.set_cons_zero, List.set_cons_succ]
      refine AB.step (i := 10) (by kernel_rfl) rfl (fun K hK => ?_)
      have hown := (uH HQ).1
      unfold OwB at hown
      have HRN := (Rd.blk (uH HA9).1 (xs := [.int .u8 (IntKind.u8.wrap (m : Int))]) (fun j u hu => by simpa using hu)).mono (T' := fun _ => True) (fun _ _ => trivial)
      refine step_append_rd _ rfl (.tmp 19) (.tmp 23) 46 rfl base 5 i_ (.int .u8 0) 1 1 Tryz.underlying46 hi hz hs hbb rfl (Nat.succ_pos 0) _ _ _ rfl hown (fun _ => True) _ 1 1 [.int .u8 (IntKind.u8.wrap (m : Int))] rfl rfl HRN (by intro u hu; simp at hu; rcases hu with rfl <;> rfl) (by (try simp only [maxLen, List.length_append, List.length_cons, List.length_nil, text_plen]); omega) (by (try simp only [List.length_append, List.length_cons, List.length_nil, text_plen]); omega) (Nat.le_trans hz1 (uH HQ).2.1.size) ?_
      intro wv5v wv5 ho5 hc5 hat
      rw [byw] at ho5
      have h2_ := Pt.app (Pt.refl (uH HQ).1) (OwB.put (news := low 1 m) rfl rfl ho5) hc5 hat
      clear HRN hown ho5 hc5 hat HA9
      have HN_ := hH (Pt.trans (uH HQ) h2_)
      clear HQ
      have HQ := HN_
      clear HN_
      have HN_ := hH (uH KSW _ _ _ (uH HQ))
      clear HK
      have HK := HN_
      clear HN_
      clear h2_
      refine hK.out _ _ (fun _ => uH HK) ?_
      clear hK K
      try simp only [Act.put, List.setIfInBounds_toArray]
      refine AB.step (i := 11) (by kernel_rfl) rfl (fun K hK => ?_)
      go_simp
      refine hK.out _ _ (fun h => absurd rfl h) ?_
      clear hK K
      try simp only [Act.put, List.setIfInBounds_toArray, List.set_cons_zero, List.set_cons_succ]
      refine AB.done (by kernel_rfl) ?_ _
      (go_wp2_with fail; go_ret; refine ⟨_, rfl, ?_⟩; show Pt base w _ _ _ _; simpa [List.append_assoc, low] using (uH HP0).trans (uH HQ))
  · have HN_ := hH (Hold.new (cs := #[.int .u8 (IntKind.u8.wrap (m : Int))]) (w.heap.size + 1) (by first | rfl | exact (size_alloc _ _).symm | (symm; refine (size_alloc _ _).trans ?_; rw [size_alloc])) (uH HQ).1)
    have HA9 := HN_
    clear HN_
    have HN_ := hH (show Pt base (w.alloc (.cells #[.int .i64 32, .string n.text, .int .i64 n.num, .int .i64 (m : Int)] 59)).drew _ ((w.alloc (.cells #[.int .i64 32, .string n.text, .int .i64 n.num, .int .i64 (m : Int)] 59)).alloc (.cells #[.int .u8 (IntKind.u8.wrap (m : Int))] 5)).drew _ _ from (uH HQ).alloc (.cells #[.int .u8 (IntKind.u8.wrap (m : Int))] 5))
    clear HQ
    have HQ := HN_
    clear HN_
    have HN_ := hH (uH KSW _ _ _ (uH HQ))
    clear HK
    have HK := HN_
    clear HN_
    go_simp
    refine hK.out _ _ (fun _ => uH HK) ?_
    clear hK K
    try simp only [Act.put, List.setIfInBounds_toArray, List.set_cons_zero, List.set_cons_succ]
    refine AB.step (i := 1) (by kernel_rfl) rfl (fun K hK => ?_)
    have HN_ := hH (Hold.new (cs := #[.int .u8 1]) (w.heap.size + 1 + 1) (by first | rfl | exact (size_alloc _ _).symm | (symm; refine (size_alloc _ _).trans ?_; rw [size_alloc])) (uH HQ).1)
    have HA1 := HN_
    clear HN_
    have HN_ := hH (And.intro ((uH HA9).1.alloc (.cells #[.int .u8 1] 5)) (uH HA9).2)
    clear HA9
    have HA9 := HN_
    clear HN_
    have HN_ := hH (show Pt base (w.alloc (.cells #[.int .i64 32, .string n.text, .int .i64 n.num, .int .i64 (m : Int)] 59)).drew _ (((w.alloc (.cells #[.int .i64 32, .string n.text, .int .i64 n.num, .int .i64 (m : Int)] 59)).alloc (.cells #[.int .u8 (IntKind.u8.wrap (m : Int))] 5)).alloc (.cells #[.int .u8 1] 5)).drew _ _ from (uH HQ).alloc (.cells #[.int .u8 1] 5))
    clear HQ
    have HQ := HN_
    clear HN_
    have HN_ := hH (uH KSW _ _ _ (uH HQ))
    clear HK
    have HK := HN_
    clear HN_
    go_simp
    refine hK.out _ _ (fun _ => uH HK) ?_
    clear hK K
    try simp only [Act.put, List.setIfInBounds_toArray, List.set_cons_zero, List.set_cons_succ]
    refine AB.step (i := 2) (by kernel_rfl) rfl (fun K hK => ?_)
    have hown := (uH HQ).1
    unfold OwB at hown
    have HRN := (Rd.blk (uH HA1).1 (xs := [.int .u8 1]) (fun j u hu => by simpa using hu)).mono (T' := fun _ => True) (fun _ _ => trivial)
    refine step_append_rd _ rfl (.tmp 14) (.tmp 15) 46 rfl base 5 i_ (.int .u8 0) 1 1 Tryz.underlying46 hi hz hs hbb rfl (Nat.succ_pos 0) _ _ _ rfl hown (fun _ => True) _ 1 1 [.int .u8 1] rfl rfl HRN (by intro u hu; simp at hu; rcases hu with rfl <;> rfl) (by (try simp only [maxLen]); omega) (by (try simp only [List.length_append, List.length_cons, List.length_nil, text_plen, low_len]); omega) (Nat.le_trans hz1 (uH HQ).2.1.size) ?_
    intro wv3v wv3 ho5 hc5 hat
    have h2_ := Pt.app (Pt.refl (uH HQ).1) (OwB.put (news := [1]) rfl rfl ho5) hc5 hat
    clear HRN hown ho5 hc5 hat HA1
    have HN_ := hH (Hold.step (uH HA9) h2_)
    clear HA9
    have HA9 := HN_
    clear HN_
    have HN_ := hH (Pt.trans (uH HQ) h2_)
    clear HQ
    have HQ := HN_
    clear HN_
    have HN_ := hH (uH KSW _ _ _ (uH HQ))
    clear HK
    have HK := HN_
    clear HN_
    clear h2_
    refine hK.out _ _ (fun _ => uH HK) ?_
    clear hK K
    try simp only [Act.put, List.setIfInBounds_toArray]
    refine AB.step (i := 5) (by kernel_rfl) rfl (fun K hK => ?_)
    go_simp
    go_at_call 71
    refine (text_any ((bs) ++ [1]) n.text _ base _ (uH HQ).1 (Nat.le_trans hz1 (uH HQ).2.1.size) (by (try simp only [List.length_append, List.length_cons, List.length_nil]); omega)).mono ?_
    rintro e wv4 ⟨wv4v, rfl, h2_⟩
    have HN_ := hH (Hold.step (uH HA9) h2_)
    clear HA9
    have HA9 := HN_
    clear HN_
    have HN_ := hH (Pt.trans (uH HQ) h2_)
    clear HQ
    have HQ := HN_
    clear HN_
    have HN_ := hH (uH KSW _ _ _ (uH HQ))
    clear HK
    have HK := HN_
    clear HN_
    clear h2_
    go_wp2_with fail
    refine hK.out _ _ (fun _ => uH HK) ?_
    clear hK K
    try simp only [Act.put, List.setIfInBounds_toArray, List.set_cons_zero, List.set_cons_succ]
    refine AB.step (i := 10) (by kernel_rfl) rfl (fun K hK => ?_)
    have hown := (uH HQ).1
    unfold OwB at hown
    have HRN := (Rd.blk (uH HA9).1 (xs := [.int .u8 (IntKind.u8.wrap (m : Int))]) (fun j u hu => by simpa using hu)).mono (T' := fun _ => True) (fun _ _ => trivial)
    refine step_append_rd _ rfl (.tmp 19) (.tmp 23) 46 rfl base 5 i_ (.int .u8 0) 1 1 Tryz.underlying46 hi hz hs hbb rfl (Nat.succ_pos 0) _ _ _ rfl hown (fun _ => True) _ 1 1 [.int .u8 (IntKind.u8.wrap (m : Int))] rfl rfl HRN (by intro u hu; simp at hu; rcases hu with rfl <;> rfl) (by (try simp only [maxLen, List.length_append, List.length_cons, List.length_nil, text_plen]); omega) (by (try simp only [List.length_append, List.length_cons, List.length_nil, text_plen]); omega) (Nat.le_trans hz1 (uH HQ).2.1.size) ?_
    intro wv5v wv5 ho5 hc5 hat
    rw [byw] at ho5
    have h2_ := Pt.app (Pt.refl (uH HQ).1) (OwB.put (news := low 1 m) rfl rfl ho5) hc5 hat
    clear HRN hown ho5 hc5 hat HA9
    have HN_ := hH (Pt.trans (uH HQ) h2_)
    clear HQ
    have HQ := HN_
    clear HN_
    have HN_ := hH (uH KSW _ _ _ (uH HQ))
    clear HK
    have HK := HN_
    clear HN_
    clear h2_
    refine hK.out _ _ (fun _ => uH HK) ?_
    clear hK K
    try simp only [Act.put, List.setIfInBounds_toArray]
    refine AB.step (i := 11) (by kernel_rfl) rfl (fun K hK => ?_)
    go_simp
    refine hK.out _ _ (fun h => absurd rfl h) ?_
    clear hK K
    try simp only [Act.put, List.setIfInBounds_toArray, List.set_cons_zero, List.set_cons_succ]
    refine AB.done (by kernel_rfl) ?_ _
    (go_wp2_with fail; go_ret; refine ⟨_, rfl, ?_⟩; show Pt base w _ _ _ _; simpa [List.append_assoc, low] using (uH HP0).trans (uH HQ))
theorem node_any (bs : List UInt8) (n : Nd) (v : Value) (base : Nat) (w : World) (h : OwB w base v bs) (hb : base ≤ w.heap.size) (hf : NdFit n) (hl : bs.length + (nodeP n).length ≤ 1000000000) :
    Calls Tryz.prog 129 #[v, .agg #[.int .i64 n.kind, .string n.text, .int .i64 n.num, .int .i64 n.kids]] w (PutOut base w v (bs ++ nodeP n)) := by
  rcases hf with ⟨hk, ht, hn0, hn1, hk0⟩ | ⟨hk, hn0, hk0, hk1, ht⟩
  · obtain ⟨m, hm⟩ : ∃ m : Nat, n.num = (m : Int) := ⟨n.num.toNat, by omega⟩
    have hP : nodeP n = 0 :: low 4 m := by unfold nodeP; rw [if_pos hk, hm]; rfl
    rw [hP] at hl ⊢
    rw [hk, hm]
    exact node_var bs n m v base w h hb (by omega) (by simpa [low_len] using hl)
  · obtain ⟨m, hm⟩ : ∃ m : Nat, n.kids = (m : Int) := ⟨n.kids.toNat, by omega⟩
    have hP : nodeP n = 1 :: (textP n.text ++ low 1 m) := by unfold nodeP; rw [if_neg (by omega), hm]; rfl
    rw [hP] at hl ⊢
    rw [hk, hm]
    exact node_con bs n m v base w h hb hl
theorem row_nodes (bs : List UInt8) (l : List Nd) (va v : Value) (T : Nat → Prop) (base : Nat) (w : World) (h : OwB w base v bs) (hb : base ≤ w.heap.size) (hr : RdN T w va l) (hT : ∀ b, T b → b < base) (hfit : ∀ x ∈ l, NdFit x) (hl : bs.length + (rowP nodeP l).length ≤ 1000000000) :
    Calls Tryz.prog 128 #[v, va, .func (.func 129) #[] #[]] w (PutOut base w v (bs ++ rowP nodeP l)) := by
  obtain ⟨A, c, rfl⟩ := h.val
  obtain ⟨A1, c1, rfl⟩ := RdR.val hr
  have hbig : l.length ≤ 1000000000 := by
    have := flat_pos nodeP nodeP_pos l
    unfold rowP at hl
    rw [List.length_append] at hl
    omega
  have HNM := hH (num2_any bs l.length _ base w h hb (by omega) (by unfold rowP at hl; rw [List.length_append, low_len] at hl; omega))
  have HR := hH (fun W v1 bs1 (hp : Pt base w (.slice A bs.length c) W v1 bs1) => RdN.chg hr (hp.low h) (fun b hb _ hk => by have := hT b hb; omega))
  have HL := hH hl
  clear hr h
  go_enter Tryz.func128, Tryz.ntmps128
  go_wp2_with (go_at_call 24; (with_reducible refine (uH HNM).mono ?_); rintro e w2 ⟨v2, rfl, h2⟩; have HP0 : Hid (Pt base w _ w2 v2 (bs ++ low 2 l.length)) := hH h2; clear h2)
  go_loopw [0, 15] (fun b i wr => ∃ k : Nat, i = .int .i64 (k : Int) ∧ k ≤ l.length ∧ Pt base w (.slice A bs.length c) wr b (bs ++ (low 2 l.length ++ (l.take k).flatMap nodeP))) (fun _ i _ => l.length - (intOf i).toNat)
  case atStart => exact ⟨0, rfl, Nat.zero_le _, by simpa using uH HP0⟩
  case round =>
    clear HP0 HNM
    obtain ⟨wq, rfl⟩ : ∃ wq : World, wq = wr := ⟨_, rfl⟩
    obtain ⟨k, rfl, hk, hp⟩ := hrel
    by_cases hlt : k < l.length
    · have hki : (k : Int) < (l.length : Int) := by omega
      have hx : l[k]? = some l[k] := List.getElem?_eq_getElem hlt
      have hmem := List.getElem_mem hlt
      have hst := take_flat nodeP hx
      have hle := flat_le nodeP hx
      generalize l[k] = x at *
      obtain ⟨b, o, c3, hv, _, hok, d0, d1, d2, d3⟩ := RdN.at_ (uH HR _ _ _ hp) hx
      injection hv with hv1 hv2 hv3
      subst hv1 hv3
      have hL := uH HL
      unfold rowP at hL
      rw [List.length_append, low_len] at hL
      have HE := hH (node_any (bs ++ (low 2 l.length ++ (l.take k).flatMap nodeP)) x u0 base _ (hp.alloc (.cells #[.int .i64 x.kind, .string x.text, .int .i64 x.num, .int .i64 x.kids] 59)).1 (Nat.le_trans hb (hp.alloc _).2.1.size) (hfit x hmem) (by rw [List.length_append, List.length_append, low_len]; omega))
      have HP := hH hp
      have HST := hH hst
      clear hp hst hv2 hx hmem hle hL
      go_wp2_with (go_at_call 129; (with_reducible refine (uH HE).mono ?_); rintro e w3 ⟨v3, rfl, h3⟩; have HP3 := hH (Pt.trans ((uH HP).alloc _) h3); clear h3)
      go_roundw
      case rel => exact ⟨k + 1, by go_num, by omega, by rw [uH HST, ← List.append_assoc (low 2 l.length), ← List.append_assoc bs]; exact uH HP3⟩
      case measure => simp [intOf]; omega
    · obtain rfl : k = l.length := by omega
      have hki : ¬ (l.length : Int) < (l.length : Int) := by omega
      have HP := hH hp
      clear hp
      go_wp2_with fail
      go_ret
      refine ⟨_, rfl, ?_⟩
      have := uH HP
      rw [List.take_length] at this
      exact this
end Go.Proofs.YtinekmjengckdaaGreatDoor
