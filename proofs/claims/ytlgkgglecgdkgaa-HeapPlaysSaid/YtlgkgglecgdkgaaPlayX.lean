/-
  What holds between two acts, and how each act keeps it.
-/
import Derived.Test.YtlgkgglecgdkgaaPlayW
namespace Go.Proofs.Ytlgkgglecgdkgaa
open Go.RowKit
set_option maxHeartbeats 400000
set_option maxRecDepth 100000

/-- Where the document's things may lie. -/
def PT (B bb hm : Nat) (v8 v9 : Value) (sz : Nat) (b : Nat) : Prop := B ≤ b ∧ b < sz ∧ b ≠ bb ∧ b ≠ hm ∧ v8.ownBlock ≠ some b ∧ v9.ownBlock ≠ some b
/-- Between two acts. -/
structure PSt (w wr : World) (B n g bn bo bb hm : Nat) (M : HM) (all : List ObjM) (L : List Int) (wd : Int → Nat) (rs : List Rf) (v8 v9 : Value) (A : Option Addr) (c : Nat) : Prop where
  rep : HRep wr g bn bo bb M
  sim : Sim M all L wd
  sz : M.size = n
  hB : g < B ∧ bn < B ∧ bo < B
  hw : w.heap.size ≤ g ∧ w.heap.size ≤ bn ∧ w.heap.size ≤ bo ∧ w.heap.size ≤ bb ∧ w.heap.size ≤ B
  hm_ : B ≤ hm
  m : Blk wr hm 45 #[.int .i64 (n : Int), .int .i64 (M.now.length : Int), .slice A all.length c]
  objs : RdObjs (PT B bb hm v8 v9 wr.heap.size) wr A all
  ws : wr.ownsRow B 26 1 v8 rs.length ((rs.map (encR wd)).map wv)
  rf : wr.ownsRow B 51 2 v9 rs.length (rs.flatMap rfv)
  cl : ∀ r ∈ rs, ClR L r
  ch : Chg (fun _ => False) w wr

section
variable {w wr : World} {B n g bn bo bb hm : Nat} {M : HM} {all : List ObjM} {L : List Int} {wd : Int → Nat} {rs : List Rf} {v8 v9 : Value} {A : Option Addr} {c : Nat}
/-- Nothing of it lies in S. -/
def PSt.Off (S : Nat → Prop) (wr : World) (B g bn bo bb hm : Nat) (v8 v9 : Value) : Prop :=
  ¬ S g ∧ ¬ S bn ∧ ¬ S bo ∧ ¬ S bb ∧ ¬ S hm ∧ (∀ b, v8.ownBlock = some b → ¬ S b) ∧ (∀ b, v9.ownBlock = some b → ¬ S b) ∧ (∀ b, PT B bb hm v8 v9 wr.heap.size b → ¬ S b)
theorem PSt.chg (h : PSt w wr B n g bn bo bb hm M all L wd rs v8 v9 A c) {w' : World} {S : Nat → Prop} (hc : Chg S wr w') (hS : PSt.Off S wr B g bn bo bb hm v8 v9) (hw : ∀ b, S b → w.heap.size ≤ b) : PSt w w' B n g bn bo bb hm M all L wd rs v8 v9 A c := by
  obtain ⟨s1, s2, s3, s4, s5, s6, s7, s8⟩ := hS
  have hs := hc.size
  exact ⟨h.rep.chg hc s1 s2 s3 s4, h.sim, h.sz, h.hB, h.hw, h.hm_, h.m.chg hc s5, (h.objs.chg hc (fun b hb _ => s8 b hb)).mono (fun b hb => ⟨hb.1, by have := hb.2.1; omega, hb.2.2⟩),
    own_chg h.ws hc s6, own_chg h.rf hc s7, h.cl, h.ch.trans hc (fun b hb hs => by have := hw b hs; omega)⟩
theorem PSt.old (h : PSt w wr B n g bn bo bb hm M all L wd rs v8 v9 A c) {w' : World} (hc : Chg (fun _ => False) wr w') : PSt w w' B n g bn bo bb hm M all L wd rs v8 v9 A c :=
  h.chg hc ⟨id, id, id, id, id, fun _ _ => id, fun _ _ => id, fun _ _ => id⟩ (fun _ h => h.elim)
theorem PSt.bb_lt (h : PSt w wr B n g bn bo bb hm M all L wd rs v8 v9 A c) : bb < wr.heap.size := h.rep.rb.lt
theorem PSt.ne89 (h : PSt w wr B n g bn bo bb hm M all L wd rs v8 v9 A c) {b : Nat} (h8 : v8.ownBlock = some b) : v9.ownBlock ≠ some b := own_own_ne h.ws h.rf (by decide) b h8
theorem PSt.ne8hm (h : PSt w wr B n g bn bo bb hm M all L wd rs v8 v9 A c) : v8.ownBlock ≠ some hm := own_blk_ne h.ws h.m (by decide)
theorem PSt.ne9hm (h : PSt w wr B n g bn bo bb hm M all L wd rs v8 v9 A c) : v9.ownBlock ≠ some hm := own_blk_ne h.rf h.m (by decide)
theorem PSt.ne8bb (h : PSt w wr B n g bn bo bb hm M all L wd rs v8 v9 A c) : v8.ownBlock ≠ some bb := own_blk_ne h.ws h.rep.rb (by decide)
theorem PSt.ne9bb (h : PSt w wr B n g bn bo bb hm M all L wd rs v8 v9 A c) : v9.ownBlock ≠ some bb := own_blk_ne h.rf h.rep.rb (by decide)
theorem PSt.nehmbb (h : PSt w wr B n g bn bo bb hm M all L wd rs v8 v9 A c) : hm ≠ bb := Blk.ne_ h.m h.rep.rb (by decide)

/-- A block more. w2: behind Alloc; w3: behind Put; w4: m was stored; w5, w6: the rows have grown; x, y: what was laid between. -/
theorem PSt.put (h : PSt w wr B n g bn bo bb hm M all L wd rs v8 v9 A c) {w2 w9 : World} {o : ObjM} (ho : OkO o) (hoc : ∀ r ∈ o.parts, ClR L r) (hroom : M.now.length + needO o ≤ M.size) {A' : Option Addr} {c' : Nat} {v8' v9' : Value} {S : Nat → Prop}
    (hrep : HRep w2 g bn bo bb (M.put (o.tag.toNat * 65536 + (payW wd o).length * 8 + o.kind.toNat) (payW wd o)))
    (h12 : Chg (fun k => k = g ∨ k = bn ∨ k = bb) wr w2) (h29 : Chg S w2 w9) (hS : ∀ b, S b → b < wr.heap.size → b = hm ∨ v8.ownBlock = some b ∨ v9.ownBlock = some b)
    (hm9 : Blk w9 hm 45 #[.int .i64 (n : Int), .int .i64 ((M.now.length + needO o : Nat) : Int), .slice A' (all ++ [o]).length c'])
    (hob : RdObjs (fun b => (PT B bb hm v8 v9 wr.heap.size b) ∨ wr.heap.size ≤ b ∧ b < w9.heap.size ∧ v8'.ownBlock ≠ some b ∧ v9'.ownBlock ≠ some b) w9 A' (all ++ [o]))
    (hws : w9.ownsRow B 26 1 v8' (rs.length + 1) ((rs.map (encR wd)).map wv ++ [wv (2 * M.now.length)])) (hrf : w9.ownsRow B 51 2 v9' (rs.length + 1) (rs.flatMap rfv ++ rfv (false, (all.length : Int))))
    (h8 : v8'.ownBlock = v8.ownBlock ∨ ∃ b, v8'.ownBlock = some b ∧ wr.heap.size ≤ b) (h9 : v9'.ownBlock = v9.ownBlock ∨ ∃ b, v9'.ownBlock = some b ∧ wr.heap.size ≤ b) :
    PSt w w9 B n g bn bo bb hm (M.put (o.tag.toNat * 65536 + (payW wd o).length * 8 + o.kind.toNat) (payW wd o)) (all ++ [o]) (L ++ [(all.length : Int)]) (wdPut wd all.length M.now.length) (rs ++ [(false, (all.length : Int))]) v8' v9' A' c' := by
  obtain ⟨hsim, henc⟩ := h.sim.put ho hoc hroom
  have hsz2 := h12.size
  have hsz9 := h29.size
  have hB := h.hB
  have hg := h.rep.st.lt
  have hbn := h.rep.rn.lt
  have hbo := h.rep.ro.lt
  have hbb := h.bb_lt
  have l8 : ∀ b, v8.ownBlock = some b → B ≤ b ∧ b < wr.heap.size := fun b hb => h.ws.lt b hb
  have l9 : ∀ b, v9.ownBlock = some b → B ≤ b ∧ b < wr.heap.size := fun b hb => h.rf.lt b hb
  have hhm := h.hm_
  have hmb := h.nehmbb
  have nlow : ∀ b, b < B → b < wr.heap.size → ¬ S b := fun b hb hl hs => by
    rcases hS b hs hl with e | e | e
    · omega
    · have := l8 b e; omega
    · have := l9 b e; omega
  have nbb : ¬ S bb := fun hs => by
    rcases hS bb hs hbb with e | e | e
    · exact hmb e.symm
    · exact h.ne8bb e
    · exact h.ne9bb e
  have hpl := payW_len wd o
  refine ⟨hrep.chg h29 (nlow g hB.1 hg) (nlow bn hB.2.1 hbn) (nlow bo hB.2.2 hbo) nbb, hsim, h.sz, hB, h.hw, hhm, ?_, ?_, ?_, ?_, ?_, ?_⟩
  · have : ((M.put (o.tag.toNat * 65536 + (payW wd o).length * 8 + o.kind.toNat) (payW wd o)).now.length) = M.now.length + needO o := by simp [HM.put]; omega
    rw [this]
    exact hm9
  · refine hob.mono (fun b hb => ?_)
    rcases hb with hb | hb
    · refine ⟨hb.1, by have := hb.2.1; omega, hb.2.2.1, hb.2.2.2.1, ?_, ?_⟩
      · rcases h8 with e | ⟨k, e, hk⟩
        · rw [e]; exact hb.2.2.2.2.1
        · rw [e]; intro e2; injection e2 with e2; have := hb.2.1; omega
      · rcases h9 with e | ⟨k, e, hk⟩
        · rw [e]; exact hb.2.2.2.2.2
        · rw [e]; intro e2; injection e2 with e2; have := hb.2.1; omega
    · have hl := h.m.lt
      have hBs : B ≤ wr.heap.size := by omega
      exact ⟨by omega, hb.2.1, by omega, by omega, hb.2.2.1, hb.2.2.2⟩
  · have e1 : (rs ++ [(false, (all.length : Int))]).map (encR (wdPut wd all.length M.now.length)) = rs.map (encR wd) ++ [2 * M.now.length] := by
      rw [List.map_append]
      congr 1
      · exact List.map_congr_left (fun r hr => henc r (h.cl r hr))
      · simp [encR, wdPut_new]
    rw [e1, List.length_append, List.map_append]
    exact hws
  · rw [List.length_append, List.flatMap_append]
    simpa using hrf
  · intro r hr
    rcases List.mem_append.1 hr with hr | hr
    · exact (h.cl r hr).more _
    · rw [List.mem_singleton] at hr
      subst hr
      exact ⟨fun e => absurd e (by simp), fun _ => by simp⟩
  · have hw := h.hw
    refine (h.ch.trans h12 (S := fun _ => False) (fun b hb hs => by omega)).trans h29 (fun b hb hs => ?_)
    have hb2 := h.ch.size
    rcases hS b hs (by omega) with e | e | e
    · omega
    · have := l8 b e; omega
    · have := l9 b e; omega
/-- A part set. w2: behind SetPart; w9: behind Set, and m was stored. -/
theorem PSt.setp (h : PSt w wr B n g bn bo bb hm M all L wd rs v8 v9 A c) {w2 w9 : World} {i : Int} (hi : i ∈ L) {p : Nat} (hp : p < (objAt all i).parts.length) {r : Rf} (hr : ClR L r) {A' : Option Addr} {c' : Nat} {S : Nat → Prop}
    (hrep : HRep w2 g bn bo bb (M.set (wd i / 2 + 1 + p) (encR wd r))) (h12 : Chg (fun k => k = bn) wr w2) (h29 : Chg S w2 w9) (hS : ∀ b, S b → b < wr.heap.size → b = hm)
    (hm9 : Blk w9 hm 45 #[.int .i64 (n : Int), .int .i64 (M.now.length : Int), .slice A' (all.set i.toNat ⟨(objAt all i).kind, (objAt all i).tag, (objAt all i).text, (objAt all i).parts.set p r⟩).length c'])
    (hob : RdObjs (fun b => (PT B bb hm v8 v9 wr.heap.size b) ∨ wr.heap.size ≤ b) w9 A' (all.set i.toNat ⟨(objAt all i).kind, (objAt all i).tag, (objAt all i).text, (objAt all i).parts.set p r⟩)) :
    PSt w w9 B n g bn bo bb hm (M.set (wd i / 2 + 1 + p) (encR wd r)) (all.set i.toNat ⟨(objAt all i).kind, (objAt all i).tag, (objAt all i).text, (objAt all i).parts.set p r⟩) L wd rs v8 v9 A' c' := by
  have h4 : (objAt all i).kind ≠ 4 := fun e => by rw [((h.sim.ok i hi).x4 e).1] at hp; simp at hp
  have hsim := h.sim.setP hi h4 hp hr
  have hsz2 := h12.size
  have hsz9 := h29.size
  have hB := h.hB
  have hg := h.rep.st.lt
  have hbn := h.rep.rn.lt
  have hbo := h.rep.ro.lt
  have hbb := h.bb_lt
  have l8 : ∀ b, v8.ownBlock = some b → B ≤ b ∧ b < wr.heap.size := fun b hb => h.ws.lt b hb
  have l9 : ∀ b, v9.ownBlock = some b → B ≤ b ∧ b < wr.heap.size := fun b hb => h.rf.lt b hb
  have hhm := h.hm_
  have hmb := h.nehmbb
  have hml := h.m.lt
  have n8 := h.ne8hm
  have n9 := h.ne9hm
  have hw := h.hw
  refine ⟨hrep.chg h29 (fun hs => by have := hS _ hs hg; omega) (fun hs => by have := hS _ hs hbn; omega) (fun hs => by have := hS _ hs hbo; omega) (fun hs => by have := hS _ hs hbb; omega), hsim, h.sz, hB, h.hw, hhm, ?_, ?_, ?_, ?_, h.cl, ?_⟩
  · have : (M.set (wd i / 2 + 1 + p) (encR wd r)).now.length = M.now.length := by simp [HM.set]
    rw [this]
    exact hm9
  · refine hob.bound.mono (fun b hb => ?_)
    rcases hb.1 with hb1 | hb1
    · exact ⟨hb1.1, hb.2, hb1.2.2⟩
    · exact ⟨by omega, hb.2, by omega, by omega, fun e => by have := l8 b e; omega, fun e => by have := l9 b e; omega⟩
  · refine own_chg (own_chg h.ws h12 (fun k hk e => by have := l8 k hk; omega)) h29 (fun k hk hs => ?_)
    have := hS k hs (l8 k hk).2
    subst this
    exact n8 hk
  · refine own_chg (own_chg h.rf h12 (fun k hk e => by have := l9 k hk; omega)) h29 (fun k hk hs => ?_)
    have := hS k hs (l9 k hk).2
    subst this
    exact n9 hk
  · have hb2 := h.ch.size
    refine (h.ch.trans h12 (S := fun _ => False) (fun b hb hs => by omega)).trans h29 (fun b hb hs => ?_)
    have := hS b hs (by omega)
    omega
/-- A collection. w2: behind Collect; w9: behind Live, and m was stored. -/
theorem PSt.coll (h : PSt w wr B n g bn bo bb hm M all L wd rs v8 v9 A c) {w2 w9 : World} {M' : HM} {d ob : Nat} {fin : List Int} {wd' : Int → Nat} {rs' : List Rf} {v9' : Value} {S2 S : Nat → Prop}
    (hrep : HRep w2 g bo bn d M') (hsim : Sim M' all fin wd') (hcl : ∀ r ∈ rs', ClR fin r) (hsz : M'.size = M.size) (hrl : rs'.length ≤ 1000)
    (h12 : Chg S2 wr w2) (hS2 : ∀ b, S2 b → b < wr.heap.size → b = g ∨ b = bn ∨ b = bo) (h29 : Chg S w2 w9) (hS : ∀ b, S b → b < w2.heap.size → b = hm ∨ wr.heap.size ≤ b ∧ b ≠ d ∧ b ≠ ob)
    (hd : wr.heap.size ≤ d) (hob : Blk w2 ob 26 ((rs'.map (encR wd')).map wv).toArray) (hob2 : wr.heap.size ≤ ob)
    (hm9 : Blk w9 hm 45 #[.int .i64 (n : Int), .int .i64 (M'.now.length : Int), .slice A all.length c]) (hrf : w9.ownsRow B 51 2 v9' rs'.length (rs'.flatMap rfv)) (h9f : ∀ b, v9'.ownBlock = some b → wr.heap.size ≤ b) :
    PSt w w9 B n g bo bn d hm M' all fin wd' rs' (.slice (some ⟨ob, 0, none⟩) rs'.length rs'.length) v9' A c := by
  have hs2 := h12.size
  have hs9 := h29.size
  have hB := h.hB
  have hw := h.hw
  have hg := h.rep.st.lt
  have hbn := h.rep.rn.lt
  have hbo := h.rep.ro.lt
  have hml := h.m.lt
  have hhm := h.hm_
  have hdl := hrep.rb.lt
  have hol := hob.lt
  have nl : ∀ b, b < B → b < wr.heap.size → ¬ S b := fun b hb hl hs => by
    rcases hS b hs (by omega) with e | e
    · omega
    · omega
  have nd : ¬ S d := fun hs => by
    rcases hS d hs hdl with e | e
    · omega
    · exact e.2.1 rfl
  have no : ¬ S ob := fun hs => by
    rcases hS ob hs hol with e | e
    · omega
    · exact e.2.2 rfl
  have hob9 := hob.chg h29 no
  refine ⟨hrep.chg h29 (nl g hB.1 hg) (nl bo hB.2.2 hbo) (nl bn hB.2.1 hbn) nd, hsim, hsz.trans h.sz, ⟨hB.1, hB.2.2, hB.2.1⟩, ⟨hw.1, hw.2.2.1, hw.2.1, by omega, hw.2.2.2.2⟩, hhm, hm9, ?_, ?_, hrf, hcl, ?_⟩
  · refine ((h.objs.chg h12 (fun b hb hl hs => by
      have h1 := hb.1
      rcases hS2 b hs hb.2.1 with e | e | e <;> omega)).chg h29 (fun b hb hl hs => by
      have h1 := hb.2.1
      rcases hS b hs hl with e | e
      · exact hb.2.2.2.1 e
      · omega)).mono (fun b hb => ?_)
    have h1 := hb.2.1
    refine ⟨hb.1, by omega, by omega, hb.2.2.2.1, fun e => ?_, fun e => by have := h9f b e; omega⟩
    have : ob = b := by simpa [Value.ownBlock] using e
    omega
  · refine ⟨by simp, .inr ⟨ob, rs'.length, _, rfl, by omega, hob9, Nat.le_refl _, by simp only [maxLen]; omega, by simp, ?_⟩⟩
    rw [Nat.mul_one, List.take_of_length_le (by simp)]
  · have hb2 := h.ch.size
    refine (h.ch.trans h12 (S := fun _ => False) (fun b hb hs => by
      rcases hS2 b hs (by omega) with e | e | e <;> omega)).trans h29 (fun b hb hs => ?_)
    rcases hS b hs (by omega) with e | e <;> omega
end
end Go.Proofs.Ytlgkgglecgdkgaa
