/- A job's look at a key of a kind; a job's number. -/
import Derived.Test.YtllaeocclpaiaaaGreatDoorSt6
namespace Go.Proofs.YtllaeocclpaiaaaGreatDoor
open Go.ChangeShapes Go.WideShapes Go.ChangeAt Go.RowKit

end Go.Proofs.YtllaeocclpaiaaaGreatDoor
