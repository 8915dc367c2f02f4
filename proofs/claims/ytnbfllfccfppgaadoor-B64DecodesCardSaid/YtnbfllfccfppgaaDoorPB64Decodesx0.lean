-- PRINTED BY print.sh 35421559b90ae4d0a3588c463048766b98c2df88dd9212a6774a882060cdf62d: not written by this session
import Derived.Test.YtnbfllfccfppgaaDoorProg
import Derived.Below
import Derived.Deep.Draws
import Derived.Deep.AppendLies
import Derived.Maps.AppendAt
import Derived.OwnWalk
import Derived.Laws.BytesArg
import Derived.Laws.MakeOwn
import Derived.Laws.OwnMore
import Derived.Deep.OwnRows
import Derived.Tactics
import Derived.Lib.ConvBytes
import Derived.Laws.Slices
import Derived.WalkKit
import Derived.KernelRfl
import Derived.RowKit3
import Derived.Deep.LoopGhost
import Derived.Deep.QuietTactic
import Derived.BigQuiet
import Derived.WideLaws
import Derived.Deep.DeepCutAuto
import Derived.Deep.CutBlock
import Derived.Deep.RegionHeld3
import Derived.Laws.Rows
import Derived.Lib.AppendStr
import Derived.ArgAppend
import Derived.Laws.IdiomCopy
import Derived.OrdersHeld
import Derived.Laws.BitsLemmas
import Derived.RowKit
import Derived.Test.YtnbfllfccfppgaaDoorWWords
import Derived.Test.YtnbfllfccfppgaaDoorWLast
import Derived.Test.YtnbfllfccfppgaaDoorWTab
import Derived.Test.YtnbfllfccfppgaaDoorWFour
import Derived.Test.YtnbfllfccfppgaaDoorWQPut
import Derived.Test.YtnbfllfccfppgaaDoorWApart
import Derived.Test.YtnbfllfccfppgaaDoorWArr
import Derived.Test.YtnbfllfccfppgaaDoorWZeros
import Derived.Test.YtnbfllfccfppgaaDoorWFoot
import Derived.Test.YtnbfllfccfppgaaDoorWKept
import Derived.Test.YtnbfllfccfppgaaDoorWShare
import Derived.Test.YtnbfllfccfppgaaDoorWN
import Derived.Test.YtnbfllfccfppgaaDoorWFootNe
import Derived.Test.YtnbfllfccfppgaaDoorWAt
import Derived.Test.YtnbfllfccfppgaaDoorWEqStruct
import Derived.Test.YtnbfllfccfppgaaDoorWRepsOne
import Derived.Test.YtnbfllfccfppgaaDoorWInv
import Derived.Test.YtnbfllfccfppgaaDoorWInvWords
import Derived.Test.YtnbfllfccfppgaaDoorWGuard
import Derived.Test.YtnbfllfccfppgaaDoorWNEv
import Derived.Test.YtnbfllfccfppgaaDoorWMore
namespace Go.Proofs.YtnbfllfccfppgaaDoor.PB64Decodes
open Go.RowKit Go.Proofs.YtnbfllfccfppgaaDoorW.PrintWords Go.Proofs.YtnbfllfccfppgaaDoorW.PrintLast Go.Proofs.YtnbfllfccfppgaaDoorW.PrintMore
attribute [local go_sem] max2_int min2_int max_two min_two max_three min_three max_four min_four   -- for this text's walks alone
set_option linter.unusedVariables false
set_option linter.unusedSimpArgs false



def errW : Option Int → Value
  | none => .nilIface
  | some c => .iface 43 (.int .i64 c)
theorem errW_none : errW none = .nilIface := rfl
theorem errW_some (c : Int) : errW (some c) = .iface 43 (.int .i64 c) := rfl

theorem info5 : (Tryd.prog.info? 5).map (fun i => (i.zero, i.size, i.bytes)) = some (some (.int .u8 0), 1, 1) := by kernel_rfl
-- the values' own types

end Go.Proofs.YtnbfllfccfppgaaDoor.PB64Decodes
