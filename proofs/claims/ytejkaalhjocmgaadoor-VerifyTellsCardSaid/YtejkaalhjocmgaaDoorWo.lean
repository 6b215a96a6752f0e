/-
  Layer 19: places of the pool; one step: the walks.
-/
import Derived.Test.YtejkaalhjocmgaaDoorWn
namespace Go.Proofs.YtejkaalhjocmgaaDoor
open Go.RowKit
set_option maxHeartbeats 1000000
set_option maxRecDepth 100000
theorem ckCon_any (m : Im) (k : Int) (c _n pc : Nat) (pA : Option Addr) (v1 v2 v3 v4 v5 : Value) (T : Nat → Prop) (w : World) (hk : 0 ≤ k) (hl : Lay w) (hc : Blk w c 67 #[.slice pA m.pool.length pc, v1, v2, v3, v4, v5]) (hp : Rd T w pA (m.pool.flatMap cstv)) (hx : ∀ x ∈ m.pool, x.text.size ≤ 9223372036854775807) (_hn : m.pool.length ≤ 1000000) :
    Calls Tryd.prog 46 #[.pointer (some ⟨c, 0, none⟩), .int .i64 k] w fun e w' => e = .returned (.bool (conAt conB m k)) ∧ Chg (fun _ => False) w w' := by
  obtain ⟨k, rfl⟩ := Int.eq_ofNat_of_zero_le hk
  have x0 := hc.cell 0
  simp only [List.getElem?_toArray, List.getElem?_cons_zero] at x0
  by_cases hlt : k < m.pool.length
  · obtain ⟨b, o, rfl, _, hat⟩ := pool_at hp (by intro e; rw [e] at hlt; simp at hlt)
    obtain ⟨q0, q1, q2⟩ := hat k _ (List.getElem?_eq_getElem hlt)
    have hsz := hx _ (List.getElem_mem hlt)
    have hE : conAt conB m (k : Int) = (m.pool[k].isText && conB m.pool[k].text) := by
      unfold conAt
      rw [Int.toNat_natCast, List.getElem?_eq_getElem hlt]
    generalize m.pool[k] = x at *
    have hcon := con_any x.text w hsz hl
    generalize conAt conB m (k : Int) = E at *
    generalize hcb : conB x.text = cb at *
    cases hit : x.isText
    all_goals
      rw [hit] at hE q0
      have HE := hide hE
      have HC := hide hcon
      clear hE hcon hat hp hx hc hl hit hcb
      go_enter Tryd.func46, Tryd.ntmps46
      go_wp2_with (go_at_call 58; refine (unhide HC).mono ?_; rintro e w2 ⟨rfl, hc2⟩; have HC2 := hide hc2; clear hc2)
      go_ret
      first
      | exact ⟨retv (boolv (by rw [unhide HE]; rfl)), unhide HC2⟩
      | exact ⟨retv (boolv (by rw [unhide HE]; rfl)), Chg.refl _ _⟩
  · have HE := hide (show conAt conB m (k : Int) = false by
      unfold conAt
      rw [Int.toNat_natCast, List.getElem?_eq_none (by omega)])
    have hd : decide ((k : Int) < (m.pool.length : Int)) = false := decide_eq_false (by omega)
    clear hp hx hc hl
    go_enter Tryd.func46, Tryd.ntmps46
    go_wp2_with fail
    go_ret
    exact ⟨retv (boolv (unhide HE).symm), Chg.refl _ _⟩
theorem ckNum_any (m : Im) (k : Int) (c _n pc : Nat) (pA : Option Addr) (v1 v2 v3 v4 v5 : Value) (T : Nat → Prop) (w : World) (hk : 0 ≤ k) (hc : Blk w c 67 #[.slice pA m.pool.length pc, v1, v2, v3, v4, v5]) (hp : Rd T w pA (m.pool.flatMap cstv)) (_hn : m.pool.length ≤ 1000000) :
    Calls Tryd.prog 49 #[.pointer (some ⟨c, 0, none⟩), .int .i64 k] w fun e w' => e = .returned (.bool (numAt m k)) ∧ Chg (fun _ => False) w w' := by
  obtain ⟨k, rfl⟩ := Int.eq_ofNat_of_zero_le hk
  have x0 := hc.cell 0
  simp only [List.getElem?_toArray, List.getElem?_cons_zero] at x0
  by_cases hlt : k < m.pool.length
  · obtain ⟨b, o, rfl, _, hat⟩ := pool_at hp (by intro e; rw [e] at hlt; simp at hlt)
    obtain ⟨q0, q1, q2⟩ := hat k _ (List.getElem?_eq_getElem hlt)
    have HE := hide (show numAt m (k : Int) = !m.pool[k].isText by
      unfold numAt
      rw [Int.toNat_natCast, List.getElem?_eq_getElem hlt])
    generalize m.pool[k] = x at *
    clear hat hp hc
    go_enter Tryd.func49, Tryd.ntmps49
    go_wp2_with fail
    go_ret
    exact ⟨retv (boolv (unhide HE).symm), Chg.refl _ _⟩
  · have HE := hide (show numAt m (k : Int) = false by
      unfold numAt
      rw [Int.toNat_natCast, List.getElem?_eq_none (by omega)])
    have hd : decide ((k : Int) < (m.pool.length : Int)) = false := decide_eq_false (by omega)
    clear hp hc
    go_enter Tryd.func49, Tryd.ntmps49
    go_wp2_with fail
    go_ret
    exact ⟨retv (boolv (unhide HE).symm), Chg.refl _ _⟩
end Go.Proofs.YtejkaalhjocmgaaDoor
