/- The functions that the examples call. Conditions: none. -/
import Derived.Test.YtkejidpdoglahaaGreatDoorMem
import Derived.Test.YtkejidpdoglahaaGreatDoorEwI
namespace Go.Proofs.YtkejidpdoglahaaGreatDoor
open Go.Lx Go.Ev
noncomputable def F0 : FF := withM tF.get 322 .ibs
theorem F0_ok : FA Tryz.prog tT.get F0 := FA_with tF_ok ibs_ok
theorem mixed : Tryz.prog.follows .mixedOrders = true := T.mixed
end Go.Proofs.YtkejidpdoglahaaGreatDoor
