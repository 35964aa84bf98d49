/-
  info: what its functions answer.
-/
import Derived.Test.YtpmbbbgmaipmbaaDoorAppMade
import Derived.Test.YtpmbbbgmaipmbaaDoorCloneU32
namespace Go.Proofs.YtpmbbbgmaipmbaaDoor
open Go.RowKit

structure InfS where
  p : Int
  m : Int
  t : Int
  on : Bool
  q : Int
  f : Int
abbrev infV (x : InfS) : Value := .agg #[.int .u32 x.p, .int .u32 x.m, .int .i64 x.t, .bool x.on, .int .i64 x.q, .int .i64 x.f]
theorem infoU32i : (Tryd.prog.info? 22).map (fun i => (i.zero, i.size, i.bytes)) = some (some (.int .u32 0), 1, 4) := by kernel_rfl

def bl (b : Bool) : Int := if b then 1 else 0
def infW (x : InfS) : List Int := [x.p, x.m, x.t % 4294967296, x.t / 4294967296 % 4294967296, bl x.on, x.q % 4294967296, x.f % 4294967296, 0, 0, 0, 0, 0, 0, 0, 0, 0]