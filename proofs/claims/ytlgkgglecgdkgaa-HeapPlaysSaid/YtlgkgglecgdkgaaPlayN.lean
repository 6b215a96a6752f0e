/-
  The walk of the document's Needed.
-/
import Derived.Test.YtlgkgglecgdkgaaPlayR
namespace Go.Proofs.Ytlgkgglecgdkgaa
open Go.RowKit
set_option maxHeartbeats 400000
set_option maxRecDepth 100000

theorem info3 : (Try.prog.info? 3).map (fun i => (i.zero, i.size, i.bytes)) = some (some (.int .i64 0), 1, 8) := by kernel_rfl
/-- Things of which each is told by what there is. -/
structure Cls (all : List ObjM) (L : List Int) : Prop where
  rng : ∀ i ∈ L, 0 ≤ i ∧ i < all.length
  cl : ∀ i ∈ L, ∀ r ∈ (objAt all i).parts, ClR L r
  ll : L.length ≤ 1000
  al : all.length ≤ 1000
  pl : ∀ i ∈ L, (objAt all i).parts.length ≤ 1000
theorem Cls.at_ {all : List ObjM} {L : List Int} (h : Cls all L) {i : Int} (hi : i ∈ L) : ∃ n : Nat, i = n ∧ n < all.length ∧ all[n]? = some (objAt all i) := by
  have := h.rng i hi
  refine ⟨i.toNat, by omega, by omega, ?_⟩
  unfold objAt
  rw [List.getD_eq_getElem?_getD, List.getElem?_eq_getElem (by omega)]
  rfl
theorem inL_pos {l : List Int} {x : Int} (h : x ∈ l) : ∃ n : Nat, inL l x = n := by
  obtain ⟨i, hi⟩ := idx_mem h
  exact ⟨i, by unfold inL; rw [hi]⟩
theorem inL_neg {l : List Int} {x : Int} (h : x ∉ l) : inL l x = -1 := by
  unfold inL; rw [idx_not h]
theorem addR_t (out : List Int) (n : Int) : addR out (true, n) = out := rfl
theorem addR_in {out : List Int} {n : Int} (h : n ∈ out) : addR out (false, n) = out := by
  unfold addR
  rw [if_neg (by simp), if_pos h]
theorem addR_new {out : List Int} {n : Int} (h : n ∉ out) : addR out (false, n) = out ++ [n] := by
  unfold addR
  rw [if_neg (by simp), if_neg h]
theorem addsR_cons (out : List Int) (r : Rf) (rs : List Rf) : addsR out (r :: rs) = addsR (addR out r) rs := rfl

/-- What Needed holds in the midst. -/
structure NSt (w wr : World) (bx : Array Value) (L : List Int) (v : Value) (out : List Int) : Prop where
  kn : KnownR L out
  own : wr.ownsRow w.heap.size 3 1 v out.length (out.map intl)
  chg : Chg (fun _ => False) w wr
  blk : Blk wr w.heap.size 45 bx
theorem NSt.drewN {w wr : World} {bx : Array Value} {L : List Int} {v : Value} {out : List Int} (h : NSt w wr bx L v out) (n : Nat) : NSt w (wr.drewN n) bx L v out := ⟨h.kn, h.own, h.chg.drewN n, h.blk⟩
theorem NSt.app {w wr w3 : World} {bx : Array Value} {L : List Int} {v v3 : Value} {out : List Int} {n : Int} {o : Obj} (h : NSt w wr bx L v out) (hr : ClR L (false, n)) (hn : n ∉ out)
    (ho : w3.ownsRow w.heap.size 3 1 v3 (out.length + 1) (out.map intl ++ [intl n])) (hc : Chg (fun k => v.ownBlock = some k) (wr.alloc o) w3) : NSt w w3 bx L v3 (out ++ [n]) := by
  refine ⟨?_, by simpa using ho, (h.chg.alloc o).trans hc (fun i hi hs => by have := (h.own.lt i hs).1; omega), (h.blk.alloc o).chg hc (own_blk_ne h.own h.blk (by decide))⟩
  have := h.kn.add hr
  rwa [addR_new hn] at this

set_option maxHeartbeats 1000000 in
theorem needed_any (all : List ObjM) (L : List Int) (rs : List Rf) (fin : List Int) (f : Nat) (words used : Int) (A B : Option Addr) (c d : Nat) (T T' : Nat → Prop) (w : World) (h : RdObjs T w A all) (h' : Rd T' w B (rs.flatMap rfv))
    (hC : Cls all L) (hr : ∀ r ∈ rs, ClR L r) (hrl : rs.length ≤ 1000) (e : neededR all rs f = some fin) :
    Calls Try.prog 40 #[.agg #[.int .i64 words, .int .i64 used, .slice A all.length c], .slice B rs.length d] w fun e w' =>
      ∃ A' c', e = .returned (.slice A' fin.length c') ∧ Rd (fun k => w.heap.size ≤ k) w' A' (fin.map intl) ∧ Chg (fun _ => False) w w' := by
  obtain ⟨i0, hi0, hz0, hz1, hz2⟩ := info_parts info3
  have Hh := hide h
  have Hh' := hide h'
  have HC := hide hC
  have HR := hide hr
  have HE := hide e
  have hll := hC.ll
  clear h h' hC hr e
  obtain ⟨bx, hbx⟩ : ∃ x : Array Value, x = #[.int .i64 words, .int .i64 used, .slice A all.length c] := ⟨_, rfl⟩
  have HBX := hide hbx
  go_enter Try.func40, Try.ntmps40
  go_wp2_with fail
  go_loopw [5, 6] (fun v i wr => ∃ (j : Nat) (out : List Int), j ≤ rs.length ∧ i = .int .i64 j ∧ addsR out (rs.drop j) = addsR [] rs ∧ NSt w wr bx L v out) (fun _ i _ => rs.length - (intOf i).toNat)
  case atStart =>
    refine ⟨0, [], Nat.zero_le _, rfl, rfl, ⟨by simp, by simp⟩, ?_, ((Chg.refl _ w).alloc _).alloc _, ?_⟩
    · have := World.ownsRow_made (base := w.heap.size) (e := 3) (size := 1) (w.alloc (.cells bx 45)) #[] 0 (by simp) (Nat.zero_le _) rfl
      rw [hbx] at this
      simpa using this
    · rw [hbx]
      exact (Blk.new w 45 _).alloc _
  case round =>
    obtain ⟨wq, rfl⟩ : ∃ wq : World, wq = wr := ⟨_, rfl⟩
    obtain ⟨j, out, hj, rfl, hadd, hst⟩ := hrel
    obtain ⟨Ap, cp, rfl⟩ := own_val hst.own
    have hol : out.length ≤ 1000 := Nat.le_trans (nodup_leI out L hst.kn.1 hst.kn.2) hll
    have hsz := hst.chg.size
    by_cases hlt : j < rs.length
    · have hge : rs[j]? = some rs[j] := List.getElem?_eq_getElem hlt
      obtain ⟨b, o, rfl, _, hc⟩ := refs_flat ((unhide Hh').chg hst.chg (fun _ _ _ => id)) (by rintro rfl; simp at hlt)
      obtain ⟨q0, q1⟩ := hc j _ hge
      have hcl := unhide HR _ (List.getElem_mem hlt)
      rw [List.drop_eq_getElem_cons hlt, addsR_cons] at hadd
      generalize rs[j] = r at *
      obtain ⟨r1, r2⟩ := r
      dsimp only at q0 q1
      have HST := hide hst
      have HAD := hide hadd
      have HCL := hide hcl
      cases r1 with
      | true =>
        clear hc hge hadd hst hcl
        go_wp2_with fail
        go_roundw
        case rel => exact ⟨j + 1, out, by omega, by go_num, by rw [← unhide HAD, addR_t], unhide HST⟩
        case measure => simp [intOf]; omega
      | false =>
        have hI := in_any out r2 Ap cp _ wq (own_rd hst.own (by omega)) (by omega)
        by_cases hm : r2 ∈ out
        · obtain ⟨n, hn⟩ := inL_pos hm
          rw [hn] at hI
          have HI := hide hI
          have hn0 : ¬ (n : Int) < 0 := by omega
          have hn1 : decide ((n : Int) < 0) = false := decide_eq_false hn0
          have HM := hide hm
          clear hc hge hadd hst hcl hI hm hn
          go_wp2_with (go_at_call 44; refine (unhide HI).mono ?_; rintro e w' ⟨rfl, rfl⟩)
          go_roundw
          case rel => exact ⟨j + 1, out, by omega, by go_num, by rw [← unhide HAD, addR_in (unhide HM)], unhide HST⟩
          case measure => simp [intOf]; omega
        · rw [inL_neg hm] at hI
          have HI := hide hI
          have HM := hide hm
          have hn1 : decide ((-1 : Int) < 0) = true := rfl
          clear hc hge hadd hst hcl hI hm
          go_wp2_with (first
            | (go_at_call 44; refine (unhide HI).mono ?_; rintro e w' ⟨rfl, rfl⟩)
            | (at_builtin
               refine wpList_append_rd _ rfl (.tmp 33) (.tmp 39) 47 rfl w.heap.size 3 i0 _ 1 8 Try.underlying47 hi0 hz0 hz1 hz2 rfl (by omega) (.slice Ap out.length cp) out.length _ rfl ((unhide HST).own.alloc _) (· = wq.heap.size) (some ⟨wq.heap.size, 0, none⟩) 1 1 [intl r2] rfl rfl (rd_new _ _ 3 [intl r2] rfl) (by intro u hu; simp at hu; subst hu; rfl) (by simp only [maxLen]; omega) (by omega) (by simp; omega) ?_
               intro v3 w3 ho3 hc3 hat
               have HO3 := hide ho3
               have HC3 := hide hc3
               clear ho3 hc3 hat))
          go_roundw
          case rel => exact ⟨j + 1, out ++ [r2], by omega, by go_num, by rw [← unhide HAD, addR_new (unhide HM)], (unhide HST).app (unhide HCL) (unhide HM) (unhide HO3) (unhide HC3)⟩
          case measure => simp [intOf]; omega
    · obtain rfl : j = rs.length := by omega
      rw [List.drop_length] at hadd
      obtain rfl : out = addsR [] rs := hadd
      have HST := hide hst
      clear hst
      have he := unhide HE
      unfold neededR at he
      generalize addsR [] rs = out0 at *
      have HE0 := hide he
      clear he
      go_wp2_with fail
      go_loopw [5, 7] (fun v i wr => ∃ (k f' : Nat) (out : List Int), k ≤ out.length ∧ i = .int .i64 k ∧ needR all out k f' = some fin ∧ NSt w wr bx L v out) (fun _ i _ => fin.length - (intOf i).toNat)
      case atStart => exact ⟨0, f, out0, Nat.zero_le _, rfl, unhide HE0, unhide HST⟩
      case round =>
        obtain ⟨wz, rfl⟩ : ∃ wz : World, wz = wr := ⟨_, rfl⟩
        obtain ⟨k, f', out, hk, rfl, hneed, hst⟩ := hrel
        obtain ⟨Az, cz, rfl⟩ := own_val hst.own
        have hol : out.length ≤ 1000 := Nat.le_trans (nodup_leI out L hst.kn.1 hst.kn.2) hll
        have hsz := hst.chg.size
        have hfl := (needR_pre f' _ _ _ hneed).length_le
        by_cases hlt : k < out.length
        · obtain ⟨f2, rfl⟩ : ∃ f2, f' = f2 + 1 := by
            cases f' with
            | zero => unfold needR at hneed; rw [if_pos hlt] at hneed; cases hneed
            | succ f2 => exact ⟨f2, rfl⟩
          unfold needR at hneed
          rw [if_pos hlt] at hneed
          have hge : (out.map intl)[k]? = some (intl (out.getD k 0)) := by
            rw [List.getElem?_map, List.getD_eq_getElem?_getD, List.getElem?_eq_getElem hlt]; rfl
          have hmem := hst.kn.2 _ (getD_mem hlt)
          obtain ⟨cn, hcn, hcl2, hobj⟩ := (unhide HC).at_ hmem
          have hpcl := (unhide HC).cl _ hmem
          have hpl := (unhide HC).pl _ hmem
          obtain ⟨bo, oo, hbo, _, hco⟩ := (own_rd hst.own (by omega)).flat (by intro e; have := congrArg List.length e; rw [List.length_map, List.length_nil] at this; omega)
          have d0 := hco k _ hge
          obtain ⟨ba, oa, rfl, _, hca⟩ := (unhide Hh).flat (by rintro rfl; simp at hcl2)
          obtain ⟨v3, hat⟩ := hca cn _ hobj
          have d1 := cell_old hat.c3 hst.chg
          obtain ⟨Pp, cpp, rfl, hps⟩ := hat.ps
          have d2 := hst.blk.cell 2
          rw [unhide HBX] at d2
          simp only [List.getElem?_toArray, List.getElem?_cons_zero, List.getElem?_cons_succ] at d2
          unfold intl at d0
          rw [hcn] at d0
          subst hbo
          generalize objAt all (out.getD k 0) = ob at *
          obtain ⟨obk, obt, obx, ps⟩ := ob
          dsimp only at d1 hps hneed hpcl hpl
          have HPS := hide hps
          have HST2 := hide hst
          have HND := hide hneed
          have HPC := hide hpcl
          have hcl3 : (cn : Int) < (all.length : Int) := by omega
          clear hge hmem hcn hobj hpcl hco hca hat hps hst hneed
          go_wp2_with fail
          go_quiet (fail)
          go_wp2_with fail
          go_loopw [5, 9] (fun v i wr => ∃ (j : Nat) (o2 : List Int), j ≤ ps.length ∧ i = .int .i64 j ∧ addsR o2 (ps.drop j) = addsR out ps ∧ NSt w wr bx L v o2) (fun _ i _ => ps.length - (intOf i).toNat)
          case atStart => exact ⟨0, out, Nat.zero_le _, rfl, rfl, (unhide HST2).drewN _⟩
          case round =>
            obtain ⟨wy, rfl⟩ : ∃ wy : World, wy = wr := ⟨_, rfl⟩
            obtain ⟨j, o2, hj, rfl, hadd, hst⟩ := hrel
            obtain ⟨Ay, cy, rfl⟩ := own_val hst.own
            have hol2 : o2.length ≤ 1000 := Nat.le_trans (nodup_leI o2 L hst.kn.1 hst.kn.2) hll
            have hsz2 := hst.chg.size
            by_cases hlt2 : j < ps.length
            · have hge : ps[j]? = some ps[j] := List.getElem?_eq_getElem hlt2
              obtain ⟨b, o, rfl, _, hc⟩ := refs_flat ((unhide HPS).chg hst.chg (fun _ _ _ => id)) (by rintro rfl; simp at hlt2)
              obtain ⟨q0, q1⟩ := hc j _ hge
              have hcl := unhide HPC _ (List.getElem_mem hlt2)
              rw [List.drop_eq_getElem_cons hlt2, addsR_cons] at hadd
              generalize ps[j] = r at *
              obtain ⟨r1, r2⟩ := r
              dsimp only at q0 q1
              have HST := hide hst
              have HAD := hide hadd
              have HCL := hide hcl
              cases r1 with
              | true =>
                clear hc hge hadd hst hcl
                go_wp2_with fail
                go_roundw
                case rel => exact ⟨j + 1, o2, by omega, by go_num, by rw [← unhide HAD, addR_t], unhide HST⟩
                case measure => simp [intOf]; omega
              | false =>
                have hI := in_any o2 r2 Ay cy _ wy (own_rd hst.own (by omega)) (by omega)
                by_cases hm : r2 ∈ o2
                · obtain ⟨n, hn⟩ := inL_pos hm
                  rw [hn] at hI
                  have HI := hide hI
                  have hn0 : ¬ (n : Int) < 0 := by omega
                  have hn1 : decide ((n : Int) < 0) = false := decide_eq_false hn0
                  have HM := hide hm
                  clear hc hge hadd hst hcl hI hm hn
                  go_wp2_with (go_at_call 44; refine (unhide HI).mono ?_; rintro e w' ⟨rfl, rfl⟩)
                  go_roundw
                  case rel => exact ⟨j + 1, o2, by omega, by go_num, by rw [← unhide HAD, addR_in (unhide HM)], unhide HST⟩
                  case measure => simp [intOf]; omega
                · rw [inL_neg hm] at hI
                  have HI := hide hI
                  have HM := hide hm
                  have hn1 : decide ((-1 : Int) < 0) = true := rfl
                  clear hc hge hadd hst hcl hI hm
                  go_wp2_with (first
                    | (go_at_call 44; refine (unhide HI).mono ?_; rintro e w' ⟨rfl, rfl⟩)
                    | (at_builtin
                       refine wpList_append_rd _ rfl (.tmp 78) (.tmp 84) 47 rfl w.heap.size 3 i0 _ 1 8 Try.underlying47 hi0 hz0 hz1 hz2 rfl (by omega) (.slice Ay o2.length cy) o2.length _ rfl ((unhide HST).own.alloc _) (· = wy.heap.size) (some ⟨wy.heap.size, 0, none⟩) 1 1 [intl r2] rfl rfl (rd_new _ _ 3 [intl r2] rfl) (by intro u hu; simp at hu; subst hu; rfl) (by simp only [maxLen]; omega) (by omega) (by simp; omega) ?_
                       intro v3 w3 ho3 hc3 hat
                       have HO3 := hide ho3
                       have HC3 := hide hc3
                       clear ho3 hc3 hat))
                  go_roundw
                  case rel => exact ⟨j + 1, o2 ++ [r2], by omega, by go_num, by rw [← unhide HAD, addR_new (unhide HM)], (unhide HST).app (unhide HCL) (unhide HM) (unhide HO3) (unhide HC3)⟩
                  case measure => simp [intOf]; omega
            · obtain rfl : j = ps.length := by omega
              rw [List.drop_length] at hadd
              obtain rfl : o2 = addsR out ps := hadd
              have HST := hide hst
              have hpl2 := (addsR_pre ps out).length_le
              clear hst
              go_wp2_with fail
              go_roundw
              case rel => exact ⟨k + 1, f2, addsR out ps, by omega, by go_num, unhide HND, unhide HST⟩
              case measure => simp [intOf]; omega
        · obtain rfl : k = out.length := by omega
          have hfin : out = fin := by
            cases f' with
            | zero => unfold needR at hneed; rw [if_neg hlt] at hneed; exact Option.some.inj hneed
            | succ f2 => unfold needR at hneed; rw [if_neg hlt] at hneed; exact Option.some.inj hneed
          subst hfin
          have HST := hide hst
          clear hst hneed
          go_wp2_with fail
          go_ret
          exact ⟨Az, cz, rfl, (own_rd (unhide HST).own (by omega)).mono (fun k hk => ((unhide HST).own.lt k hk).1), (unhide HST).chg⟩
end Go.Proofs.Ytlgkgglecgdkgaa
