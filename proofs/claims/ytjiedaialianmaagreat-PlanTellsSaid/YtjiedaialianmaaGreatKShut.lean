import Derived.Test.YtjiedaialianmaaGreatG08

namespace Go.Proofs.YtjiedaialianmaaGreat
open Go.ChangeShapes Go.WideShapes Go.ChangeAt Go.RowKit

theorem Tryz.k_mapsRowed : mapsRowed Tryz.prog = true := by kernel_rfl
theorem Tryz.k_plainKeys : (Rows.sessionLastsRow.plainKeys == Tryz.prog.plainKeys) = true := by kernel_rfl
theorem Tryz.k_stopsHeard : Tryz.prog.stopsHeard = true := by kernel_rfl
theorem Tryz.k_mayEnter : Tryz.prog.mayEnter = true := by kernel_rfl
theorem Tryz.k_lifts : (Rows.sessionLastsRow.lifted == Tryz.prog.liftsFinal) = true := by kernel_rfl
theorem Tryz.k_make : (Tryz.prog.make == some Rows.sessionLastsRow.make) = true := by kernel_rfl
theorem Tryz.k_stops : (Tryz.prog.stops == []) = true := by kernel_rfl
theorem Tryz.k_stopKnobs : (Tryz.prog.stopKnobs == []) = true := by kernel_rfl

end Go.Proofs.YtjiedaialianmaaGreat
