/-
  Layer 10: what the chapter's example fixes.
-/
import Derived.Test.YticnehmgaklhfaaGreatDoorShw
import Derived.Test.YticnehmgaklhfaaGreatDoorSgs
import Derived.Test.YticnehmgaklhfaaGreatDoorEb
import Derived.Test.YticnehmgaklhfaaGreatDoorDtj
namespace Go.Proofs.YticnehmgaklhfaaGreatDoor
open Go.RowKit
set_option maxHeartbeats 1000000
set_option maxRecDepth 100000
theorem variable_any (n : Int) (w : World) : Calls Tryz.prog 52 #[.int .i64 n] w fun e w' => e = .returned (.slice (some ⟨w.heap.size, 0, none⟩) 1 1) ∧ w' = w.alloc (.cells #[.int .i64 31, .string ⟨#[]⟩, .int .i64 n, .int .i64 0] 56) := by
  go_enter Tryz.func52, Tryz.ntmps52
  go_wp2_with fail
  go_ret
  exact ⟨rfl, rfl⟩
def ListT : ByteArray := ⟨#[76, 105, 115, 116]⟩
def NilT : ByteArray := ⟨#[78, 105, 108]⟩
def ConsT : ByteArray := ⟨#[67, 111, 110, 115]⟩
def v0N : Nd := ⟨31, ⟨#[]⟩, 0, 0⟩
def liN : Nd := ⟨32, ListT, 0, 1⟩
/-- The chapter's example. -/
def exL : List Dt := [⟨ListT, 1, [⟨NilT, []⟩, ⟨ConsT, [[v0N], [liN, v0N]]⟩]⟩]
def arN : Nd := ⟨32, ArrowT, 0, 2⟩
def exT : List Nd := [arN, v0N, arN, liN, v0N, liN, v0N]
theorem rdn_blk {W : World} {b : Nat} {t : TypeId} {l : List Nd} {c : Nat} (h : Blk W b t (l.flatMap nd4).toArray) (hs : ∀ n ∈ l, ndOk n) (hl : l.length ≤ 9223372036854775807) : RdN (· = b) W (.slice (some ⟨b, 0, none⟩) l.length c) l := by
  refine ⟨_, c, l.map fun n => (n, undef), rfl, by rw [List.map_map]; exact List.map_id _, ?_, fun p hp => ?_, hl⟩
  · have : l.flatMap nd4 = (l.map fun n => (n, undef)).flatMap fun p => ndv p.1 p.2 := by
      rw [List.flatMap_map]
      rfl
    rw [← this]
    exact Rd.blk h (fun j u hu => by simpa using hu)
  · obtain ⟨x, hx, rfl⟩ := List.mem_map.1 hp
    exact hs x hx
theorem rdr_blk {α : Type} {T : Nat → Prop} {W : World} {f : α → Value → List Value} {R : World → Value → α → Prop} {b c : Nat} {t : TypeId} (ps : List (α × Value)) (h : Blk W b t (ps.flatMap fun p => f p.1 p.2).toArray) (hT : T b) (hR : ∀ p ∈ ps, R W p.2 p.1) (hl : ps.length ≤ 9223372036854775807) : RdR T W f R (.slice (some ⟨b, 0, none⟩) ps.length c) (ps.map Prod.fst) :=
  ⟨_, c, ps, by rw [List.length_map], rfl, (Rd.blk h (fun j u hu => by simpa using hu)).mono (fun k hk => hk ▸ hT), hR, by rw [List.length_map]; exact hl⟩
theorem exL_rd {T : Nat → Prop} {W : World} {n0 n1 n2 n3 n4 : Nat} (k0 : Blk W n0 56 #[.int .i64 32, .string ListT, .int .i64 0, .int .i64 1, .int .i64 31, .string ⟨#[]⟩, .int .i64 0, .int .i64 0])
    (k1 : Blk W n1 56 #[.int .i64 31, .string ⟨#[]⟩, .int .i64 0, .int .i64 0]) (k2 : Blk W n2 33 #[.slice (some ⟨n1, 0, none⟩) 1 1, .slice (some ⟨n0, 0, none⟩) 2 2])
    (k3 : Blk W n3 53 #[.string NilT, .slice none 0 0, .string ConsT, .slice (some ⟨n2, 0, none⟩) 2 2]) (k4 : Blk W n4 51 #[.string ListT, .int .i64 1, .slice (some ⟨n3, 0, none⟩) 2 2])
    (h0 : T n0) (h1 : T n1) (h2 : T n2) (h3 : T n3) (h4 : T n4) : RdD T W (.slice (some ⟨n4, 0, none⟩) 1 1) exL := by
  have ok0 : ∀ n ∈ [liN, v0N], ndOk n := by
    intro n hn
    simp only [List.mem_cons, List.not_mem_nil, or_false] at hn
    rcases hn with rfl | rfl <;> (show _ ≤ 9223372036854775807; decide)
  have r0 : RdN T W (.slice (some ⟨n0, 0, none⟩) 2 2) [liN, v0N] := (rdn_blk (l := [liN, v0N]) k0 ok0 (by decide)).mono (fun k hk => hk ▸ h0)
  have r1 : RdN T W (.slice (some ⟨n1, 0, none⟩) 1 1) [v0N] := (rdn_blk (l := [v0N]) k1 (fun n hn => ok0 n (List.mem_cons_of_mem _ hn)) (by decide)).mono (fun k hk => hk ▸ h1)
  have r2 : RdNs T W (.slice (some ⟨n2, 0, none⟩) 2 2) [[v0N], [liN, v0N]] := rdr_blk [([v0N], .slice (some ⟨n1, 0, none⟩) 1 1), ([liN, v0N], .slice (some ⟨n0, 0, none⟩) 2 2)] k2 h2 (fun p hp => by
    simp only [List.mem_cons, List.not_mem_nil, or_false] at hp
    rcases hp with rfl | rfl
    · exact r1
    · exact r0) (by simp)
  have r3 : RdC T W (.slice (some ⟨n3, 0, none⟩) 2 2) [⟨NilT, []⟩, ⟨ConsT, [[v0N], [liN, v0N]]⟩] := rdr_blk [((⟨NilT, []⟩ : Ct), .slice none 0 0), ((⟨ConsT, [[v0N], [liN, v0N]]⟩ : Ct), .slice (some ⟨n2, 0, none⟩) 2 2)] k3 h3 (fun p hp => by
    simp only [List.mem_cons, List.not_mem_nil, or_false] at hp
    rcases hp with rfl | rfl
    · exact ⟨RdR.nil_ _ _ _ _, (show NilT.size ≤ 9223372036854775807 by decide)⟩
    · exact ⟨r2, (show ConsT.size ≤ 9223372036854775807 by decide)⟩) (by simp)
  exact rdr_blk [((⟨ListT, 1, [⟨NilT, []⟩, ⟨ConsT, [[v0N], [liN, v0N]]⟩]⟩ : Dt), .slice (some ⟨n3, 0, none⟩) 2 2)] k4 h4 (fun p hp => by
    simp only [List.mem_cons, List.not_mem_nil, or_false] at hp
    subst hp
    exact ⟨r3, (show ListT.size ≤ 9223372036854775807 by decide)⟩) (by simp)
theorem list_any (w : World) : Calls Tryz.prog 20 #[] w fun e w' => ∃ v', e = .returned v' ∧ RdD (fun k => w.heap.size ≤ k) w' v' exL ∧ Chg (fun _ => False) w w' := by
  have HV := hide (fun W => variable_any 0 W)
  go_enter Tryz.func20, Tryz.ntmps20
  go_wp2_with (go_at_call 52; refine (unhide HV _).mono ?_; rintro e w2 ⟨rfl, rfl⟩)
  go_ret
  refine ⟨_, rfl, exL_rd (n0 := w.heap.size) (n1 := w.heap.size + 1) (n2 := w.heap.size + 1 + 1) (n3 := w.heap.size + 1 + 1 + 1) (n4 := w.heap.size + 1 + 1 + 1 + 1) (((((Blk.new w _ _).alloc _).alloc _).alloc _).alloc _) ((((Blk.new_at _ _ _ _ (by simp)).alloc _).alloc _).alloc _) (((Blk.new_at _ _ _ _ (by simp)).alloc _).alloc _) ((Blk.new_at _ _ _ _ (by simp)).alloc _) (Blk.new_at _ _ _ _ (by simp)) (by omega) (by omega) (by omega) (by omega) (by omega), (((((Chg.refl _ w).alloc _).alloc _).alloc _).alloc _).alloc _⟩
/-- The text of a type that may be. -/
theorem show_any (l : List Nd) (v : Value) (s : ByteArray) (en : Nat) (T : Nat → Prop) (w : World) (hr : RdN T w v l) (ht : typE l = 0) (hs : ShowsAt l 0 s en) (lay : Lay w) :
    Calls Tryz.prog 22 #[v] w fun e w' => e = .returned (.tuple #[.string s, .int .i64 0]) ∧ Chg (fun _ => False) w w' := by
  have HC := hide (check_any l v T w hr lay)
  rw [ht] at HC
  have HS := hide (fun W (hW : Chg (fun _ => False) w W) => hs v T W (hr.chg hW (fun _ _ _ => id)))
  obtain ⟨A, c, rfl⟩ := hr.val
  clear hr hs ht
  go_enter Tryz.func22, Tryz.ntmps22
  go_wp2_with (first
    | (go_at_call 45; with_reducible refine (unhide HC).mono ?_; rintro e w2 ⟨rfl, hc2⟩; have HC2 := hide hc2; clear hc2)
    | (go_at_call 54; refine (unhide HS _ (unhide HC2)).mono ?_; rintro e w3 ⟨rfl, hc3⟩; have HC3 := hide hc3; clear hc3))
  go_ret2
  exact ⟨rfl, (unhide HC2).trans' (unhide HC3)⟩
theorem exT_shows : ShowsAt exT 0 ⟨#[39, 48, 32, 45, 62, 32, 76, 105, 115, 116, 32, 39, 48, 32, 45, 62, 32, 76, 105, 115, 116, 32, 39, 48]⟩ 7 := by
  have hl : exT.length ≤ 1000000 := by decide
  have s1 : ShowsAt exT 1 ⟨#[39, 48]⟩ 2 := shows_var exT 1 v0N rfl rfl rfl hl
  have s4 : ShowsAt exT 4 ⟨#[39, 48]⟩ 5 := shows_var exT 4 v0N rfl rfl rfl hl
  have s6 : ShowsAt exT 6 ⟨#[39, 48]⟩ 7 := shows_var exT 6 v0N rfl rfl rfl hl
  have hne : ListT ≠ ArrowT := by decide
  have s3 := shows_one exT 3 5 liN v0N _ rfl (by decide) hne rfl rfl s4 hl (by decide) (by decide)
  have s5 := shows_one exT 5 7 liN v0N _ rfl (by decide) hne rfl rfl s6 hl (by decide) (by decide)
  have s2 := shows_arrow exT 2 5 7 arN liN liN _ _ rfl (by decide) rfl rfl s3 rfl s5 hl (by decide +kernel) (by decide +kernel)
  have s0 := shows_arrow exT 0 2 7 arN v0N arN _ _ rfl (by decide) rfl rfl s1 rfl s2 hl (by decide) (by decide +kernel)
  have e : partS (decide (v0N.text = ArrowT)) ⟨#[39, 48]⟩ ++ ⟨#[32, 45, 62, 32]⟩ ++ (partS (decide (liN.text = ArrowT)) (liN.text ++ (⟨#[32]⟩ ++ partS (decide (0 < v0N.kids)) ⟨#[39, 48]⟩)) ++ ⟨#[32, 45, 62, 32]⟩ ++ (liN.text ++ (⟨#[32]⟩ ++ partS (decide (0 < v0N.kids)) ⟨#[39, 48]⟩))) = (⟨#[39, 48, 32, 45, 62, 32, 76, 105, 115, 116, 32, 39, 48, 32, 45, 62, 32, 76, 105, 115, 116, 32, 39, 48]⟩ : ByteArray) := by decide +kernel
  rw [e] at s0
  exact s0
theorem exL_ok : datasE exL = 0 := by kernel_rfl
theorem exT_ok : typE exT = 0 := by kernel_rfl
theorem exL_sigs : sigsL exL = [⟨NilT, [liN, v0N]⟩, ⟨ConsT, exT⟩] := by kernel_rfl
theorem exT_parts : partsR exT = ([[v0N], [liN, v0N]], [liN, v0N]) := by kernel_rfl
theorem exT_arrow : arrowL [[v0N], [liN, v0N]] [liN, v0N] = exT := rfl
theorem exL_find : fX exL ConsT = 0 ∧ fY exL ConsT = 1 ∧ (findL exL ConsT).isSome = true := by refine ⟨?_, ?_, ?_⟩ <;> kernel_rfl
theorem exL_fam : (famL exL NilT).length = 2 := by kernel_rfl
end Go.Proofs.YticnehmgaklhfaaGreatDoor
