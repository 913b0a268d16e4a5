/- The walk of HoursCalendars, joined of its two cases. -/
import Derived.Test.YtpjnlcdmbkbfcaaDoorLCalIn
import Derived.Test.YtpjnlcdmbkbfcaaDoorLCalOut
namespace Go.Proofs.YtpjnlcdmbkbfcaaDoor
open Go.ChangeShapes Go.WideShapes Go.ChangeAt Go.RowKit Go.BigFrame
theorem law_calendars (day ye mo da : Int) (w : World) (lo : -9223372036854775808 ≤ day) (hi : day ≤ 9223372036854775807) :
    Calls Tryd.prog 7 #[.int .i64 day, .agg #[.int .i64 ye, .int .i64 mo, .int .i64 da]] w fun e w' => e = .returned (.bool true) ∧ Below w.heap.size w w' := by
  by_cases h : 0 ≤ day ∧ day ≤ 3000000
  · exact law_cal_in day ye mo da w h.1 h.2
  · exact law_cal_out day ye mo da w h lo hi
end Go.Proofs.YtpjnlcdmbkbfcaaDoor
