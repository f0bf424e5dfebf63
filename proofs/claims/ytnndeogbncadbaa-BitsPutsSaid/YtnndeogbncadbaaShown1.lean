/- The document's example at the head of the statements of bits: it answers true. -/
import Derived.Test.YtnndeogbncadbaaSem2
import Derived.Test.YtnndeogbncadbaaF18
namespace Go.Proofs.Ytnndeogbncadbaa.F
open Go.RowKit Go.Proofs.YtnndeogbncadbaaW.PrintWords Go.Proofs.YtnndeogbncadbaaW.PrintLast Go.Proofs.YtnndeogbncadbaaW.PrintMore
theorem Shown1.sem : Ev (fun k => astragallaw01_shown.f k) true := by
  have hp : bits_Pack.f [5, 1, 7] 3 = some ([205, 1], 0) := by decide
  have hw := Width.sem [5, 1, 7] (by decide) (by decide)
  rw [show (widthN [5, 1, 7] : Int) = 3 from by decide] at hw
  refine Ev.congr (f := fun k => (bits_Width.f k [5, 1, 7]).bind fun t => some (t == 3)) (fun k => ?_) (Ev.bind hw (Ev.now _))
  unfold astragallaw01_shown.f
  rw [hp, Option.bind_some, if_pos rfl, if_pos (by rw [ByteArray.toList_eq]; decide)]
end Go.Proofs.Ytnndeogbncadbaa.F
