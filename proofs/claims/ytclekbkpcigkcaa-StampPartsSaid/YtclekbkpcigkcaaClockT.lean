/- The walk of the reference's TimeOf. -/
import Derived.Test.YtclekbkpcigkcaaClockR
namespace Go.Proofs.Ytclekbkpcigkcaa.ClockT
open Go.RowKit ClockP ClockW ClockO

def TPost (v : Value) (w : World) (e : Ending) (w' : World) : Prop := e = .returned v ∧ Below w.heap.size w w'
def refT (n : Int) : Value := .tuple #[.agg #[.int .i64 (refY n), .int .i64 (refM n), .int .i64 (dOf (inOf n)), .int .i64 ((n + 11644473600) % 86400 / 3600), .int .i64 ((n + 11644473600) % 86400 % 3600 / 60), .int .i64 ((n + 11644473600) % 86400 % 60)], .int .i64 0]
def noT : Value := .tuple #[.agg #[.int .i64 0, .int .i64 0, .int .i64 0, .int .i64 0, .int .i64 0, .int .i64 0], .int .i64 3]

end Go.Proofs.Ytclekbkpcigkcaa.ClockT
