/-
  Layer 17, the document's side: what a line is: all ways.
-/
import Derived.Test.YtgonllogaiiicaaDoorRrc
namespace Go.Proofs.YtgonllogaiiicaaDoor
open Go.RowKit
set_option maxHeartbeats 2000000
set_option maxRecDepth 100000
theorem refRead1_any (s : ByteArray) (w : World) (hs : s.size ≤ 100000000) :
    Calls Tryd.prog 19 #[.string s] w fun e w' => e = .returned (lnV (readL s.data.toList)) ∧ Chg (fun _ => False) w w' := by
  cases hw : wordsL s.data.toList with
  | nil => exact read1_nil s w hs hw
  | cons x rest =>
    obtain ⟨s0, p0⟩ := x
    by_cases hl : s0.getLast? = some 58
    · exact read1_tells s w hs s0 p0 rest hw hl
    · exact read1_does s w hs s0 p0 rest hw hl
end Go.Proofs.YtgonllogaiiicaaDoor
