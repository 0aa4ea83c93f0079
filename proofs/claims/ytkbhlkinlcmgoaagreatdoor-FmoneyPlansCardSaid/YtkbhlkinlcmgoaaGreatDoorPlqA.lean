/- Numbers as texts of digits, fractions, values and the functions of fmath: contracts of the program's functions, joined from smaller texts. Conditions stand at each theorem. -/
import Derived.Test.YtkbhlkinlcmgoaaGreatDoorPlrA
import Derived.Test.YtkbhlkinlcmgoaaGreatDoorNumG

/- package value: Args.NumOr where the argument is given. Conditions: the tables lie as they are laid. -/
namespace Go.Proofs.YtkbhlkinlcmgoaaGreatDoor.Num
open Go.RowKit Go.Lib

end Go.Proofs.YtkbhlkinlcmgoaaGreatDoor.Num
