import Derived.Test.YtchdmecjhaanfaaGreatDoorAmpS
import Derived.Test.YtchdmecjhaanfaaGreatDoorAmpF
namespace Go.Proofs.YtchdmecjhaanfaaGreatDoor
open Go Go.RowKit Amp
end Go.Proofs.YtchdmecjhaanfaaGreatDoor
