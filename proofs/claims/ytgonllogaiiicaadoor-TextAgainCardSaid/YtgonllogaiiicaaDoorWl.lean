/-
  Layer 17: text.read: all ways.
-/
import Derived.Test.YtgonllogaiiicaaDoorWk
namespace Go.Proofs.YtgonllogaiiicaaDoor
open Go.RowKit
set_option maxHeartbeats 4000000
set_option maxRecDepth 100000
theorem read_any (s : Bs) (w : World) (hl : Lay w) (hs : s.length ≤ 100000000) :
    Calls Tryd.prog 41 #[.string ⟨s.toArray⟩] w fun e w' => e = .returned (rdV (readL s)) ∧ Chg (fun _ => False) w w' := by
  have hd : (ByteArray.data ⟨s.toArray⟩).toList = s := by simp
  have hz : (⟨s.toArray⟩ : ByteArray).size ≤ 100000000 := by
    show s.toArray.size ≤ _
    rw [List.size_toArray]; exact hs
  have main : Calls Tryd.prog 41 #[.string ⟨s.toArray⟩] w fun e w' => e = .returned (rdV (readL (ByteArray.data ⟨s.toArray⟩).toList)) ∧ Chg (fun _ => False) w w' := by
    cases hw : wordsL (ByteArray.data ⟨s.toArray⟩).toList with
    | nil => exact read_nil _ w hl (by omega) hw
    | cons x rest =>
      obtain ⟨s0, p0⟩ := x
      by_cases h : s0.getLast? = some 58
      · exact read_tells _ w hl (by omega) s0 p0 rest hw h
      · exact read_does _ w hl hz s0 p0 rest hw h
  rw [hd] at main
  exact main
end Go.Proofs.YtgonllogaiiicaaDoor
