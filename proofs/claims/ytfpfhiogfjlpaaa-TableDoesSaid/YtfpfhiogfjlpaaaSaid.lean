/-
  gristmillref.said returns its two numbers as an answer. For every input.
-/
import Derived.Test.YtfpfhiogfjlpaaaProg
import Derived.Test.YtfpfhiogfjlpaaaKit
namespace Go.Proofs.Ytfpfhiogfjlpaaa
open Go.RowKit

theorem said_any (c v : Int) (w : World) : Calls Try.prog 56 #[.int .i64 c, .int .i64 v] w fun e w' => e = .returned (.agg #[.int .i64 c, .int .i64 v]) ∧ w' = w.alloc (.cells #[.int .i64 c, .int .i64 v] 41) := by
  go_enter Try.func56, Try.ntmps56
  go_wp2
  go_returns
  exact ⟨rfl, rfl⟩

end Go.Proofs.Ytfpfhiogfjlpaaa
