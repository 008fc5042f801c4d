-- PRINTED BY print.sh 35421559b90ae4d0a3588c463048766b98c2df88dd9212a6774a882060cdf62d: not written by this session
import Derived.Test.YtldhhomeifjbeaaProg
import Derived.Below
import Derived.Deep.Draws
import Derived.Deep.AppendLies
import Derived.Maps.AppendAt
import Derived.OwnWalk
import Derived.Laws.BytesArg
import Derived.Laws.MakeOwn
import Derived.Laws.OwnMore
import Derived.Deep.OwnRows
import Derived.Tactics
import Derived.Lib.ConvBytes
import Derived.Laws.Slices
import Derived.WalkKit
import Derived.KernelRfl
import Derived.RowKit3
import Derived.Deep.LoopGhost
import Derived.Deep.QuietTactic
import Derived.BigQuiet
import Derived.WideLaws
import Derived.Deep.DeepCutAuto
import Derived.Deep.CutBlock
import Derived.Deep.RegionHeld3
import Derived.Laws.Rows
import Derived.Lib.AppendStr
import Derived.ArgAppend
import Derived.Laws.IdiomCopy
import Derived.OrdersHeld
import Derived.Laws.BitsLemmas
import Derived.RowKit
import Derived.Test.YtldhhomeifjbeaaWWords
import Derived.Test.YtldhhomeifjbeaaWLast
import Derived.Test.YtldhhomeifjbeaaWTab
import Derived.Test.YtldhhomeifjbeaaWFour
import Derived.Test.YtldhhomeifjbeaaWQPut
import Derived.Test.YtldhhomeifjbeaaWApart
import Derived.Test.YtldhhomeifjbeaaWArr
import Derived.Test.YtldhhomeifjbeaaWZeros
import Derived.Test.YtldhhomeifjbeaaWFoot
import Derived.Test.YtldhhomeifjbeaaWKept
import Derived.Test.YtldhhomeifjbeaaWShare
import Derived.Test.YtldhhomeifjbeaaWN
import Derived.Test.YtldhhomeifjbeaaWFootNe
import Derived.Test.YtldhhomeifjbeaaWAt
import Derived.Test.YtldhhomeifjbeaaWEqStruct
import Derived.Test.YtldhhomeifjbeaaWRepsOne
import Derived.Test.YtldhhomeifjbeaaWInv
import Derived.Test.YtldhhomeifjbeaaWInvWords
import Derived.Test.YtldhhomeifjbeaaWGuard
import Derived.Test.YtldhhomeifjbeaaWNEv
import Derived.Test.YtldhhomeifjbeaaWMore
namespace Go.Proofs.Ytldhhomeifjbeaa.PFuzzyScoreOptimal
open Go.RowKit Go.Proofs.YtldhhomeifjbeaaW.PrintWords Go.Proofs.YtldhhomeifjbeaaW.PrintLast Go.Proofs.YtldhhomeifjbeaaW.PrintMore
attribute [local go_sem] max2_int min2_int max_two min_two max_three min_three max_four min_four   -- for this text's walks alone
set_option linter.unusedVariables false
set_option linter.unusedSimpArgs false



def errW : Option Int → Value
  | none => .nilIface
  | some c => .iface 0 (.int .i64 c)
theorem errW_none : errW none = .nilIface := rfl
theorem errW_some (c : Int) : errW (some c) = .iface 0 (.int .i64 c) := rfl

-- the values' own types

end Go.Proofs.Ytldhhomeifjbeaa.PFuzzyScoreOptimal
