-- WRITTEN BY A PROGRAM OF THIS CLAIM's OWN (after the kit's print, with functions proved by hand among them).
import Derived.Test.YtekpbpcfeopilaaDoorProg
import Derived.Below
import Derived.Deep.Draws
import Derived.Deep.AppendLies
import Derived.Maps.AppendAt
import Derived.OwnWalk
import Derived.Laws.BytesArg
import Derived.Laws.MakeOwn
import Derived.Laws.OwnMore
import Derived.Deep.OwnRows
import Derived.Tactics
import Derived.Lib.ConvBytes
import Derived.Laws.Slices
import Derived.WalkKit
import Derived.KernelRfl
import Derived.RowKit3
import Derived.Deep.LoopGhost
import Derived.Deep.QuietTactic
import Derived.BigQuiet
import Derived.WideLaws
import Derived.Deep.DeepCutAuto
import Derived.Deep.CutBlock
import Derived.Deep.RegionHeld3
import Derived.Laws.Rows
import Derived.Lib.AppendStr
import Derived.ArgAppend
import Derived.Laws.IdiomCopy
import Derived.OrdersHeld
import Derived.Laws.BitsLemmas
import Derived.RowKit
import Derived.Test.YtekpbpcfeopilaaDoorWWords
import Derived.Test.YtekpbpcfeopilaaDoorWLast
import Derived.Test.YtekpbpcfeopilaaDoorWQPut
import Derived.Test.YtekpbpcfeopilaaDoorWApart
import Derived.Test.YtekpbpcfeopilaaDoorWArr
import Derived.Test.YtekpbpcfeopilaaDoorWZeros
import Derived.Test.YtekpbpcfeopilaaDoorWFoot
import Derived.Test.YtekpbpcfeopilaaDoorWKept
import Derived.Test.YtekpbpcfeopilaaDoorWShare
import Derived.Test.YtekpbpcfeopilaaDoorWN
import Derived.Test.YtekpbpcfeopilaaDoorWNEv
import Derived.Test.YtekpbpcfeopilaaDoorWFour
import Derived.Test.YtekpbpcfeopilaaDoorWTab
import Derived.Test.YtekpbpcfeopilaaDoorWGuard
import Derived.Test.YtekpbpcfeopilaaDoorWEqStruct
import Derived.Test.YtekpbpcfeopilaaDoorWRepsOne
import Derived.Test.YtekpbpcfeopilaaDoorWAt
import Derived.Test.YtekpbpcfeopilaaDoorWFootNe
import Derived.Test.YtekpbpcfeopilaaDoorWMore
import Derived.Test.YtekpbpcfeopilaaDoorAmk
import Derived.Test.YtekpbpcfeopilaaDoorAwk
import Derived.Test.YtekpbpcfeopilaaDoorA0
import Derived.Test.YtekpbpcfeopilaaDoorShelf
namespace Go.Proofs.YtekpbpcfeopilaaDoor.PAreas
open Go.RowKit Go.Proofs.YtekpbpcfeopilaaDoorW.PrintWords Go.Proofs.YtekpbpcfeopilaaDoorW.PrintLast Go.Proofs.YtekpbpcfeopilaaDoorW.PrintMore
attribute [local go_sem] max2_int min2_int max_two min_two max_three min_three max_four min_four   -- for this text's walks alone
set_option linter.unusedVariables false
set_option linter.unusedSimpArgs false

def errW : Option Int → Value
  | none => .nilIface
  | some c => .iface 0 (.int .i64 c)
theorem errW_none : errW none = .nilIface := rfl
theorem errW_some (c : Int) : errW (some c) = .iface 0 (.int .i64 c) := rfl

theorem info9 : (Tryd.prog.info? 9).map (fun i => (i.zero, i.size, i.bytes)) = some (some (.string ⟨#[]⟩), 1, 16) := by kernel_rfl
-- the values' own types
/-! #### struct type 23 -/
/-! #### struct type 26 -/
end Go.Proofs.YtekpbpcfeopilaaDoor.PAreas
