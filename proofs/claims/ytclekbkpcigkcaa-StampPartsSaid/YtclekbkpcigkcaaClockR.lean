/- The walks of the references of chapter 2: monthDays, dayNo, MomentOf, TimeOf; and of clock.Time. -/
import Derived.Test.YtclekbkpcigkcaaClockO
namespace Go.Proofs.Ytclekbkpcigkcaa.ClockR
open Go.RowKit ClockP ClockW ClockO

def MdPost (y m : Int) (w : World) (e : Ending) (w' : World) : Prop := e = .returned (.int .i64 (mlen y m)) ∧ Below w.heap.size w w'
end Go.Proofs.Ytclekbkpcigkcaa.ClockR
