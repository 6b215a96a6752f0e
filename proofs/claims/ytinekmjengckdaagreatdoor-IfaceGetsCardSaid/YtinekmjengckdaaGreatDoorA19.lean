/-
  Layer 23: whether fixities may be, together.
-/
import Derived.Test.YtinekmjengckdaaGreatDoorA15
import Derived.Test.YtinekmjengckdaaGreatDoorA16
namespace Go.Proofs.YtinekmjengckdaaGreatDoor
open Go.RowKit
set_option maxHeartbeats 4000000
set_option maxRecDepth 100000
theorem run_neq_fx (x y : Fx) (w : World) : (binOp .neq 53 (.agg #[.string x.op, .int .i64 x.level, .int .i64 x.side]) (.agg #[.string y.op, .int .i64 y.level, .int .i64 y.side])).run Tryz.prog w = .ok (.bool (!(x.op.toList == y.op.toList && x.level == y.level && x.side == y.side))) w := by
  cases h2 : x.op.toList == y.op.toList <;> cases h3 : x.level == y.level <;> cases h4 : x.side == y.side <;> go_simp
theorem fix_dup {l : List Fx} {i : Nat} {x : Fx} (hx : l[i]? = some x) (h : ((l.take i).any fun y => decide (y.op = x.op)) = true) : ¬ (l.map Fx.op).Nodup := fun hn => by
  obtain ⟨y, hy, e⟩ := List.any_eq_true.1 h
  obtain ⟨j, hj⟩ := List.mem_iff_getElem?.1 hy
  have hjl := (List.getElem?_eq_some_iff.1 hj).1
  rw [List.length_take] at hjl
  rw [List.getElem?_take_of_lt (by omega)] at hj
  exact (nodup_iff_first _).1 hn i x.op (by rw [List.getElem?_map, hx]; rfl) j (by omega) (by rw [List.getElem?_map, hj]; simpa using e)
theorem fix_nodup {l : List Fx} (h : ∀ i x, l[i]? = some x → ((l.take i).any fun y => decide (y.op = x.op)) = false) : (l.map Fx.op).Nodup := by
  rw [nodup_iff_first]
  intro i op hi j hj hjo
  rw [List.getElem?_map, Option.map_eq_some_iff] at hi hjo
  obtain ⟨x, hx, rfl⟩ := hi
  obtain ⟨y, hy, e⟩ := hjo
  have := List.any_eq_false.1 (h i x hx) y (List.mem_iff_getElem?.2 ⟨j, by rw [List.getElem?_take_of_lt hj]; exact hy⟩)
  exact this (by simpa using e)
theorem fixCheck_any (l : List Fx) (v : Value) (T : Nat → Prop) (w : World) (hr : RdF T w v l) (hcp : capOk v) (hn : l.length ≤ 1000000) (lay : Lay w) :
    Calls Tryz.prog 50 #[v] w fun e w' => e = .returned (.int .i64 (fixE l)) ∧ Chg (fun _ => False) w w' := by
  have HH := hH (has_fr l v T w (fun x => !fxB x) hr hn (fun W hW x _ hs => fixOdd_any x W hs (lay.chg hW (fun _ _ => id))))
  obtain ⟨A, c, rfl⟩ := RdR.val hr
  have hlc : l.length ≤ c := by
    obtain ⟨_, _, _, e, h, _⟩ := hcp
    injection e with _ e2 e3
    omega
  have hob : (l.any fun x => !fxB x) = !l.all fxB := by rw [List.not_all_eq_any_not]
  rw [hob] at HH
  clear hob
  by_cases h4 : 400 < l.length
  · have h4' : (400 : Int) < (l.length : Int) := by omega
    have hE : fixE l = 40 := by unfold fixE; rw [if_pos (.inl h4)]
    have HE := hH hE
    generalize fixE l = E at *
    clear hr hE
    go_enter Tryz.func50, Tryz.ntmps50
    go_wp2_with fail
    go_ret
    exact ⟨retv (intv (uH HE).symm), Chg.refl _ _⟩
  have h4' : ¬ (400 : Int) < (l.length : Int) := by omega
  cases ha : l.all fxB
  · have hE : fixE l = 40 := by unfold fixE; rw [if_pos (.inr ha)]
    have HE := hH hE
    rw [ha] at HH
    generalize fixE l = E at *
    clear hr hE ha
    go_enter Tryz.func50, Tryz.ntmps50
    go_wp2_with (go_at_call 116; refine (uH HH).mono ?_; rintro e w2 ⟨rfl, hc2⟩; have HC2 := hH hc2; clear hc2)
    go_ret
    exact ⟨retv (intv (uH HE).symm), uH HC2⟩
  · have HE := hH (show fixE l = if ¬ (l.map Fx.op).Nodup then 41 else 0 from by unfold fixE; rw [if_neg (by rw [ha]; simp; omega)])
    rw [ha] at HH
    have HOK := hH (fun x (hx : x ∈ l) => show x.op ≠ ⟨#[]⟩ from fun e => by
      have h1 := List.all_eq_true.1 ha x hx
      unfold fxB opB at h1
      rw [e] at h1
      have he : (⟨#[]⟩ : ByteArray).toList.isEmpty = true := by decide +kernel
      rw [he] at h1
      exact absurd h1 (by simp))
    have HD1 := hH (fun i x => fix_dup (l := l) (i := i) (x := x))
    have HD2 := hH (fix_nodup (l := l))
    generalize fixE l = E at *
    have HR := hH hr
    clear hr ha
    go_enter Tryz.func50, Tryz.ntmps50
    go_wp2_with (go_at_call 116; refine (uH HH).mono ?_; rintro e w1 ⟨rfl, hc1⟩; have HC1 := hH hc1; clear hc1)
    go_loopw [16] (fun i wr => ∃ k : Nat, i = .int .i64 (k : Int) ∧ k ≤ l.length ∧ (∀ j y, j < k → l[j]? = some y → ((l.take j).any fun z => decide (z.op = y.op)) = false) ∧ Chg (fun _ => False) w wr) (fun i _ => l.length - (intOf i).toNat)
    case atStart => exact ⟨0, rfl, Nat.zero_le _, fun j y h => absurd h (Nat.not_lt_zero _), uH HC1⟩
    case round =>
      clear HC1
      obtain ⟨wq, rfl⟩ : ∃ wq : World, wq = wr := ⟨_, rfl⟩
      obtain ⟨k, rfl, hk, hall, hch⟩ := hrel
      by_cases hlt : k < l.length
      · have hki : (k : Int) < (l.length : Int) := by omega
        have hx : l[k]? = some l[k] := List.getElem?_eq_getElem hlt
        have hxe := (uH HOK) l[k] (List.getElem_mem hlt)
        have hd1 := uH HD1 k l[k] hx
        generalize l[k] = x at *
        have hrq := RdF.chg (uH HR) hch (fun _ _ _ => id)
        obtain ⟨b, o, c3, hv, _, hxs, d0, d1, d2⟩ := RdF.at_ hrq hx
        injection hv with hv1 hv2 hv3
        subst hv1 hv3
        have hbx := Blk.new wq 53 #[.string x.op, .int .i64 x.level, .int .i64 x.side]
        have HBX := hH hbx
        have HFI := hH (fun W (hW : Chg (fun _ => False) (wq.alloc (.cells #[.string x.op, .int .i64 x.level, .int .i64 x.side] 53)) W) => fixFind_any (l.take k) (.slice (some ⟨b, o, none⟩) k c) x.op T W (RdF.take (RdF.chg (RdF.chg hrq ((Chg.refl (fun _ => False) wq).alloc _) (fun _ _ _ => id)) hW (fun _ _ _ => id)) k c (by omega)) (by rw [List.length_take]; omega))
        have HCH := hH hch
        have HALL := hH hall
        have HX := hH hx
        have HXE := hH hxe
        have HD := hH ((Chg.refl (fun _ => False) (wq.alloc (.cells #[.string x.op, .int .i64 x.level, .int .i64 x.side] 53))).drew)
        have HK := hH (hbx.drew.cell 0)
        have hcap : (k : Int) ≤ (c : Int) := by omega
        have hkl2 : (k : Int) ≤ (l.length : Int) := by omega
        clear hch hall hx hv2 hrq hbx
        cases hdup : (l.take k).any fun y => decide (y.op = x.op)
        · rw [hdup] at HFI
          have HN := hH hdup
          clear hd1 hdup hxe
          go_upto_region 6 with fail
          refine wp_region_ab (fun W' => W'.cell? ⟨wq.heap.size, 0, none⟩ = some (.string x.op)) 11 12 (by kernel_rfl) (by kernel_rfl) ?_
          refine AB.tk (i := 0) (v := ?_) rfl (by kernel_rfl) (by kernel_rfl) (fun _ _ _ h => h) ?_ (uH HK) ?_
          rotate_left
          · intro W' hS'; (try dsimp only at hS'); go_simp; try with_reducible rfl
          try simp only [Act.put, List.setIfInBounds_toArray]
          refine AB.tk (i := 1) (v := ?_) rfl (by kernel_rfl) (by kernel_rfl) (fun _ _ _ h => h) ?_ (uH HK) ?_
          rotate_left
          · intro W' hS'; (try dsimp only at hS'); go_simp; try with_reducible rfl
          try simp only [Act.put]
          refine AB.tk (i := 2) (v := ?_) rfl (by kernel_rfl) (by kernel_rfl) (fun _ _ _ h => h) ?_ (uH HK) ?_
          rotate_left
          · intro W' hS'; (try dsimp only at hS'); go_simp; try with_reducible rfl
          try simp only [Act.put]
          refine AB.tk (i := 3) (v := ?_) rfl (by kernel_rfl) (by kernel_rfl) (fun _ _ _ h => h) ?_ (uH HK) ?_
          rotate_left
          · intro W' hS'; (try dsimp only at hS'); go_simp; try with_reducible rfl
          try simp only [Act.put]
          refine AB.tk (i := 4) (v := ?_) rfl (by kernel_rfl) (by kernel_rfl) (fun _ _ _ h => h) ?_ (uH HK) ?_
          rotate_left
          · intro W' hS'; (try dsimp only at hS'); go_simp; try with_reducible rfl
          try simp only [Act.put]
          refine AB.two (i := 5) (j := 9) (by kernel_rfl) rfl rfl (fun K hK => ?_) (fun K hK => ?_)
          · go_simp
            go_at_call 119
            refine (uH HFI _ (uH HD)).mono ?_
            rintro e w2 ⟨y, rfl, hy1, hy2, hc2⟩
            obtain rfl := hy2 rfl
            dsimp only at *
            have qn : ∀ W, (binOp .neq 53 (.agg #[.string ⟨#[]⟩, .int .i64 0, .int .i64 0]) (.agg #[.string ⟨#[]⟩, .int .i64 0, .int .i64 0])).run Tryz.prog W = .ok (.bool false) W := fun W => by
              have h := run_neq_fx ⟨⟨#[]⟩, 0, 0⟩ ⟨⟨#[]⟩, 0, 0⟩ W
              simpa using h
            have HW2 := hH ((uH HD).trans' hc2)
            have HK2 := hH (((uH HBX).chg (uH HW2) id).cell 0)
            clear hc2 hy1 hy2
            go_wp2_with fail
            refine hK.out _ _ (fun _ => uH HK2) ?_
            clear hK K
            try simp only [Act.put, List.setIfInBounds_toArray, List.set_cons_zero, List.set_cons_succ]
            refine AB.tk (i := 6) (v := ?_) rfl (by kernel_rfl) (by kernel_rfl) (fun _ _ _ h => h) ?_ (uH HK2) ?_
            rotate_left
            · intro W' hS'; (try dsimp only at hS'); go_simp; try with_reducible rfl
            try simp only [Act.put, List.setIfInBounds_toArray]
            refine AB.tk (i := 7) (v := ?_) rfl (by kernel_rfl) (by kernel_rfl) (fun _ _ _ h => h) ?_ (uH HK2) ?_
            rotate_left
            · intro W' hS'; (try dsimp only at hS'); go_simp; try with_reducible rfl
            try simp only [Act.put]
            refine AB.tk (i := 8) (v := ?_) rfl (by kernel_rfl) (by kernel_rfl) (fun _ _ _ h => h) ?_ (uH HK2) ?_
            rotate_left
            · intro W' hS'; (try dsimp only at hS'); go_simp; try with_reducible rfl
            try simp only [Act.put]
            have HK3 := hH (((uH HBX).chg ((uH HW2).alloc (.cells #[.string ⟨#[]⟩, .int .i64 0, .int .i64 0] 53)) id).cell 0)
            refine AB.step (i := 9) (by kernel_rfl) rfl (fun K hK => ?_)
            go_simp
            refine hK.out _ _ (fun _ => uH HK3) ?_
            clear hK K
            try simp only [Act.put, List.setIfInBounds_toArray, List.set_cons_zero, List.set_cons_succ]
            have HK4 := hH (((uH HBX).chg ((uH HW2).alloc (.cells #[.string ⟨#[]⟩, .int .i64 0, .int .i64 0] 53)) id).cell 0)
            refine AB.step (i := 10) (by kernel_rfl) rfl (fun K hK => ?_)
            go_simp
            refine hK.out _ _ (fun _ => uH HK4) ?_
            clear hK K
            try simp only [Act.put, List.setIfInBounds_toArray, List.set_cons_zero, List.set_cons_succ]
            refine AB.step (i := 11) (by kernel_rfl) rfl (fun K hK => ?_)
            go_simp
            refine hK.out _ _ (fun h => absurd rfl h) ?_
            clear hK K
            try simp only [Act.put, List.setIfInBounds_toArray, List.set_cons_zero, List.set_cons_succ]
            refine AB.done (by kernel_rfl) ?_ _
            go_wp2_with fail
            go_roundw
            case rel =>
              exact ⟨k + 1, by go_num, by omega, fun j y hj hy => by
                rcases Nat.lt_or_ge j k with h | h
                · exact (uH HALL) j y h hy
                · obtain rfl : j = k := by omega
                  have := (uH HX).symm.trans hy
                  injection this with this
                  rw [← this]
                  exact uH HN, ((((uH HCH).trans' ((Chg.refl (fun _ => False) wq).alloc _)).trans' (uH HW2)).alloc _)⟩
            case measure => simp [intOf]; omega
          · have HZB := hH (Blk.new_at (wq.alloc (.cells #[.string x.op, .int .i64 x.level, .int .i64 x.side] 53)) (wq.heap.size + 1) 53 #[.string ⟨#[]⟩, .int .i64 0, .int .i64 0] (size_alloc _ _).symm)
            have HDB := hH ((((Chg.refl (fun _ => False) (wq.alloc (.cells #[.string x.op, .int .i64 x.level, .int .i64 x.side] 53))).alloc (.cells #[.string ⟨#[]⟩, .int .i64 0, .int .i64 0] 53))).drew)
            have HKB := hH (((uH HBX).chg (uH HDB) id).cell 0)
            go_simp
            refine hK.out _ _ (fun _ => uH HKB) ?_
            clear hK K
            try simp only [Act.put, List.setIfInBounds_toArray, List.set_cons_zero, List.set_cons_succ]
            refine AB.step (i := 5) (by kernel_rfl) rfl (fun K hK => ?_)
            go_simp
            go_at_call 119
            refine (uH HFI _ (uH HDB)).mono ?_
            rintro e w2 ⟨y, rfl, hy1, hy2, hc2⟩
            obtain rfl := hy2 rfl
            dsimp only at *
            have qn : ∀ W, (binOp .neq 53 (.agg #[.string ⟨#[]⟩, .int .i64 0, .int .i64 0]) (.agg #[.string ⟨#[]⟩, .int .i64 0, .int .i64 0])).run Tryz.prog W = .ok (.bool false) W := fun W => by
              have h := run_neq_fx ⟨⟨#[]⟩, 0, 0⟩ ⟨⟨#[]⟩, 0, 0⟩ W
              simpa using h
            have HW2 := hH ((uH HDB).trans' hc2)
            have HK2 := hH (((uH HBX).chg (uH HW2) id).cell 0)
            have HZ2 := hH ((uH HZB).drew.chg hc2 id)
            (have q0 := (uH HZ2).cell 0; have q1 := (uH HZ2).cell 1; have q2 := (uH HZ2).cell 2; have f0 := (uH HZ2).frozen 0; have f1 := (uH HZ2).frozen 1; have f2 := (uH HZ2).frozen 2)
            simp only [List.getElem?_toArray, List.getElem?_cons_zero, List.getElem?_cons_succ] at q0 q1 q2
            have HK4 := hH ((((((uH HBX).chg (uH HW2) id).far (p := ⟨wq.heap.size + 1, 0, none⟩) (by dsimp only; omega) (.string ⟨#[]⟩)).far (p := ⟨wq.heap.size + 1, 1, none⟩) (by dsimp only; omega) (.int .i64 0)).far (p := ⟨wq.heap.size + 1, 2, none⟩) (by dsimp only; omega) (.int .i64 0)).cell 0)
            clear hc2 hy1 hy2
            go_wp2_with fail
            refine hK.out _ _ (fun _ => uH HK2) ?_
            clear hK K
            try simp only [Act.put, List.setIfInBounds_toArray, List.set_cons_zero, List.set_cons_succ]
            refine AB.tk (i := 6) (v := ?_) rfl (by kernel_rfl) (by kernel_rfl) (fun _ _ _ h => h) ?_ (uH HK2) ?_
            rotate_left
            · intro W' hS'; (try dsimp only at hS'); go_simp; try with_reducible rfl
            try simp only [Act.put, List.setIfInBounds_toArray]
            refine AB.tk (i := 7) (v := ?_) rfl (by kernel_rfl) (by kernel_rfl) (fun _ _ _ h => h) ?_ (uH HK2) ?_
            rotate_left
            · intro W' hS'; (try dsimp only at hS'); go_simp; try with_reducible rfl
            try simp only [Act.put]
            refine AB.tk (i := 8) (v := ?_) rfl (by kernel_rfl) (by kernel_rfl) (fun _ _ _ h => h) ?_ (uH HK2) ?_
            rotate_left
            · intro W' hS'; (try dsimp only at hS'); go_simp; try with_reducible rfl
            try simp only [Act.put]
            refine AB.step (i := 10) (by kernel_rfl) rfl (fun K hK => ?_)
            go_simp
            refine hK.out _ _ (fun _ => uH HK4) ?_
            clear hK K
            try simp only [Act.put, List.setIfInBounds_toArray, List.set_cons_zero, List.set_cons_succ]
            refine AB.step (i := 11) (by kernel_rfl) rfl (fun K hK => ?_)
            go_simp
            refine hK.out _ _ (fun h => absurd rfl h) ?_
            clear hK K
            try simp only [Act.put, List.setIfInBounds_toArray, List.set_cons_zero, List.set_cons_succ]
            refine AB.done (by kernel_rfl) ?_ _
            go_wp2_with fail
            go_roundw
            case rel =>
              exact ⟨k + 1, by go_num, by omega, fun j y hj hy => by
                rcases Nat.lt_or_ge j k with h | h
                · exact (uH HALL) j y h hy
                · obtain rfl : j = k := by omega
                  have := (uH HX).symm.trans hy
                  injection this with this
                  rw [← this]
                  exact uH HN, ((((((uH HCH).trans' ((Chg.refl (fun _ => False) wq).alloc _)).trans' (uH HW2)).setCell (fun h => by have := (uH HCH).size; dsimp only at h; omega) _).setCell (fun h => by have := (uH HCH).size; dsimp only at h; omega) _).setCell (fun h => by have := (uH HCH).size; dsimp only at h; omega) _)⟩
            case measure => simp [intOf]; omega
        · rw [hdup] at HFI
          have HN := hH (hd1 hdup)
          clear hd1 hdup hxe
          go_upto_region 6 with fail
          refine wp_region_ab (fun W' => W'.cell? ⟨wq.heap.size, 0, none⟩ = some (.string x.op)) 11 12 (by kernel_rfl) (by kernel_rfl) ?_
          refine AB.tk (i := 0) (v := ?_) rfl (by kernel_rfl) (by kernel_rfl) (fun _ _ _ h => h) ?_ (uH HK) ?_
          rotate_left
          · intro W' hS'; (try dsimp only at hS'); go_simp; try with_reducible rfl
          try simp only [Act.put, List.setIfInBounds_toArray]
          refine AB.tk (i := 1) (v := ?_) rfl (by kernel_rfl) (by kernel_rfl) (fun _ _ _ h => h) ?_ (uH HK) ?_
          rotate_left
          · intro W' hS'; (try dsimp only at hS'); go_simp; try with_reducible rfl
          try simp only [Act.put]
          refine AB.tk (i := 2) (v := ?_) rfl (by kernel_rfl) (by kernel_rfl) (fun _ _ _ h => h) ?_ (uH HK) ?_
          rotate_left
          · intro W' hS'; (try dsimp only at hS'); go_simp; try with_reducible rfl
          try simp only [Act.put]
          refine AB.tk (i := 3) (v := ?_) rfl (by kernel_rfl) (by kernel_rfl) (fun _ _ _ h => h) ?_ (uH HK) ?_
          rotate_left
          · intro W' hS'; (try dsimp only at hS'); go_simp; try with_reducible rfl
          try simp only [Act.put]
          refine AB.tk (i := 4) (v := ?_) rfl (by kernel_rfl) (by kernel_rfl) (fun _ _ _ h => h) ?_ (uH HK) ?_
          rotate_left
          · intro W' hS'; (try dsimp only at hS'); go_simp; try with_reducible rfl
          try simp only [Act.put]
          refine AB.two (i := 5) (j := 9) (by kernel_rfl) rfl rfl (fun K hK => ?_) (fun K hK => ?_)
          · go_simp
            go_at_call 119
            refine (uH HFI _ (uH HD)).mono ?_
            rintro e w2 ⟨y, rfl, hy1, hy2, hc2⟩
            have hyo := (hy1 rfl).2
            have qn : ∀ W, (binOp .neq 53 (.agg #[.string y.op, .int .i64 y.level, .int .i64 y.side]) (.agg #[.string ⟨#[]⟩, .int .i64 0, .int .i64 0])).run Tryz.prog W = .ok (.bool true) W := fun W => by
              rw [run_neq_fx y ⟨⟨#[]⟩, 0, 0⟩ W]
              have hbb : (y.op.toList == (⟨#[]⟩ : ByteArray).toList) = false := by
                rw [beq_eq_false_iff_ne]
                exact fun e => uH HXE (hyo ▸ bytes_eq e)
              rw [hbb]
              rfl
            clear hyo
            have HW2 := hH ((uH HD).trans' hc2)
            have HK2 := hH (((uH HBX).chg (uH HW2) id).cell 0)
            clear hc2 hy1 hy2
            go_wp2_with fail
            refine hK.out _ _ (fun _ => uH HK2) ?_
            clear hK K
            try simp only [Act.put, List.setIfInBounds_toArray, List.set_cons_zero, List.set_cons_succ]
            refine AB.tk (i := 6) (v := ?_) rfl (by kernel_rfl) (by kernel_rfl) (fun _ _ _ h => h) ?_ (uH HK2) ?_
            rotate_left
            · intro W' hS'; (try dsimp only at hS'); go_simp; try with_reducible rfl
            try simp only [Act.put, List.setIfInBounds_toArray]
            refine AB.tk (i := 7) (v := ?_) rfl (by kernel_rfl) (by kernel_rfl) (fun _ _ _ h => h) ?_ (uH HK2) ?_
            rotate_left
            · intro W' hS'; (try dsimp only at hS'); go_simp; try with_reducible rfl
            try simp only [Act.put]
            refine AB.tk (i := 8) (v := ?_) rfl (by kernel_rfl) (by kernel_rfl) (fun _ _ _ h => h) ?_ (uH HK2) ?_
            rotate_left
            · intro W' hS'; (try dsimp only at hS'); go_simp; try with_reducible rfl
            try simp only [Act.put]
            have HK3 := hH (((uH HBX).chg ((uH HW2).alloc (.cells #[.string ⟨#[]⟩, .int .i64 0, .int .i64 0] 53)) id).cell 0)
            refine AB.step (i := 9) (by kernel_rfl) rfl (fun K hK => ?_)
            go_simp
            refine hK.out _ _ (fun _ => uH HK3) ?_
            clear hK K
            try simp only [Act.put, List.setIfInBounds_toArray, List.set_cons_zero, List.set_cons_succ]
            have HK4 := hH (((uH HBX).chg ((uH HW2).alloc (.cells #[.string y.op, .int .i64 y.level, .int .i64 y.side] 53)) id).cell 0)
            refine AB.step (i := 10) (by kernel_rfl) rfl (fun K hK => ?_)
            go_simp
            refine hK.out _ _ (fun _ => uH HK4) ?_
            clear hK K
            try simp only [Act.put, List.setIfInBounds_toArray, List.set_cons_zero, List.set_cons_succ]
            refine AB.step (i := 11) (by kernel_rfl) rfl (fun K hK => ?_)
            go_simp
            refine hK.out _ _ (fun h => absurd rfl h) ?_
            clear hK K
            try simp only [Act.put, List.setIfInBounds_toArray, List.set_cons_zero, List.set_cons_succ]
            refine AB.done (by kernel_rfl) ?_ _
            go_wp2_with fail
            go_ret
            exact ⟨retv (intv (by rw [uH HE, if_pos (uH HN)])), ((((uH HCH).trans' ((Chg.refl (fun _ => False) wq).alloc _)).trans' (uH HW2)).alloc _)⟩
          · have HZB := hH (Blk.new_at (wq.alloc (.cells #[.string x.op, .int .i64 x.level, .int .i64 x.side] 53)) (wq.heap.size + 1) 53 #[.string ⟨#[]⟩, .int .i64 0, .int .i64 0] (size_alloc _ _).symm)
            have HDB := hH ((((Chg.refl (fun _ => False) (wq.alloc (.cells #[.string x.op, .int .i64 x.level, .int .i64 x.side] 53))).alloc (.cells #[.string ⟨#[]⟩, .int .i64 0, .int .i64 0] 53))).drew)
            have HKB := hH (((uH HBX).chg (uH HDB) id).cell 0)
            go_simp
            refine hK.out _ _ (fun _ => uH HKB) ?_
            clear hK K
            try simp only [Act.put, List.setIfInBounds_toArray, List.set_cons_zero, List.set_cons_succ]
            refine AB.step (i := 5) (by kernel_rfl) rfl (fun K hK => ?_)
            go_simp
            go_at_call 119
            refine (uH HFI _ (uH HDB)).mono ?_
            rintro e w2 ⟨y, rfl, hy1, hy2, hc2⟩
            have hyo := (hy1 rfl).2
            have qn : ∀ W, (binOp .neq 53 (.agg #[.string y.op, .int .i64 y.level, .int .i64 y.side]) (.agg #[.string ⟨#[]⟩, .int .i64 0, .int .i64 0])).run Tryz.prog W = .ok (.bool true) W := fun W => by
              rw [run_neq_fx y ⟨⟨#[]⟩, 0, 0⟩ W]
              have hbb : (y.op.toList == (⟨#[]⟩ : ByteArray).toList) = false := by
                rw [beq_eq_false_iff_ne]
                exact fun e => uH HXE (hyo ▸ bytes_eq e)
              rw [hbb]
              rfl
            clear hyo
            have HW2 := hH ((uH HDB).trans' hc2)
            have HK2 := hH (((uH HBX).chg (uH HW2) id).cell 0)
            have HZ2 := hH ((uH HZB).drew.chg hc2 id)
            (have q0 := (uH HZ2).cell 0; have q1 := (uH HZ2).cell 1; have q2 := (uH HZ2).cell 2; have f0 := (uH HZ2).frozen 0; have f1 := (uH HZ2).frozen 1; have f2 := (uH HZ2).frozen 2)
            simp only [List.getElem?_toArray, List.getElem?_cons_zero, List.getElem?_cons_succ] at q0 q1 q2
            have HK4 := hH ((((((uH HBX).chg (uH HW2) id).far (p := ⟨wq.heap.size + 1, 0, none⟩) (by dsimp only; omega) (.string y.op)).far (p := ⟨wq.heap.size + 1, 1, none⟩) (by dsimp only; omega) (.int .i64 y.level)).far (p := ⟨wq.heap.size + 1, 2, none⟩) (by dsimp only; omega) (.int .i64 y.side)).cell 0)
            clear hc2 hy1 hy2
            go_wp2_with fail
            refine hK.out _ _ (fun _ => uH HK2) ?_
            clear hK K
            try simp only [Act.put, List.setIfInBounds_toArray, List.set_cons_zero, List.set_cons_succ]
            refine AB.tk (i := 6) (v := ?_) rfl (by kernel_rfl) (by kernel_rfl) (fun _ _ _ h => h) ?_ (uH HK2) ?_
            rotate_left
            · intro W' hS'; (try dsimp only at hS'); go_simp; try with_reducible rfl
            try simp only [Act.put, List.setIfInBounds_toArray]
            refine AB.tk (i := 7) (v := ?_) rfl (by kernel_rfl) (by kernel_rfl) (fun _ _ _ h => h) ?_ (uH HK2) ?_
            rotate_left
            · intro W' hS'; (try dsimp only at hS'); go_simp; try with_reducible rfl
            try simp only [Act.put]
            refine AB.tk (i := 8) (v := ?_) rfl (by kernel_rfl) (by kernel_rfl) (fun _ _ _ h => h) ?_ (uH HK2) ?_
            rotate_left
            · intro W' hS'; (try dsimp only at hS'); go_simp; try with_reducible rfl
            try simp only [Act.put]
            refine AB.step (i := 10) (by kernel_rfl) rfl (fun K hK => ?_)
            go_simp
            refine hK.out _ _ (fun _ => uH HK4) ?_
            clear hK K
            try simp only [Act.put, List.setIfInBounds_toArray, List.set_cons_zero, List.set_cons_succ]
            refine AB.step (i := 11) (by kernel_rfl) rfl (fun K hK => ?_)
            go_simp
            refine hK.out _ _ (fun h => absurd rfl h) ?_
            clear hK K
            try simp only [Act.put, List.setIfInBounds_toArray, List.set_cons_zero, List.set_cons_succ]
            refine AB.done (by kernel_rfl) ?_ _
            go_wp2_with fail
            go_ret
            exact ⟨retv (intv (by rw [uH HE, if_pos (uH HN)])), ((((((uH HCH).trans' ((Chg.refl (fun _ => False) wq).alloc _)).trans' (uH HW2)).setCell (fun h => by have := (uH HCH).size; dsimp only at h; omega) _).setCell (fun h => by have := (uH HCH).size; dsimp only at h; omega) _).setCell (fun h => by have := (uH HCH).size; dsimp only at h; omega) _)⟩
      · obtain rfl : k = l.length := by omega
        have hki : ¬ (l.length : Int) < (l.length : Int) := by omega
        have HF := hH (uH HD2 (fun i x hx => hall i x (List.getElem?_eq_some_iff.1 hx).1 hx))
        have HCH := hH hch
        clear hall hch
        go_wp2_with fail
        go_ret
        exact ⟨retv (intv (by rw [uH HE, if_neg (by simpa using uH HF)])), uH HCH⟩
end Go.Proofs.YtinekmjengckdaaGreatDoor
