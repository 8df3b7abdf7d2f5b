/- The law SlipSolves: right numbers. -/
import Derived.Test.YtooldicbicanaaaGreatDoorKLawSa
namespace Go.Proofs.Klp
open Go.RowKit Go.Shelf
attribute [local go_sem ↓] Go.wp_at_zero Go.wp_at_succ

end Go.Proofs.Klp
