/- Numbers as texts of digits, fractions, values and the functions of fmath: contracts of the program's functions, joined from smaller texts. Conditions stand at each theorem. -/
import Derived.Test.YtkbhlkinlcmgoaaGreatDoorPlmA
import Derived.Test.YtkbhlkinlcmgoaaGreatDoorPlqA

/- package fmoney: interest and principal of a payment; FV, PV, PMT, IPMT, PPMT over their arguments. Conditions: what the small functions give. -/
namespace Go.Proofs.YtkbhlkinlcmgoaaGreatDoor.Num.Fy
open Go.RowKit Go.Lib Num

attribute [local irreducible] wpOp
end Go.Proofs.YtkbhlkinlcmgoaaGreatDoor.Num.Fy
