-- WRITTEN BY A PROGRAM OF THIS CLAIM's OWN (after the kit's print, with functions proved by hand among them).
import Derived.Test.YtieaipclioppkaaGreatPLeafx0
import Derived.Test.YtieaipclioppkaaGreatPLeafx1
namespace Go.Proofs.YtieaipclioppkaaGreat.PLeaf
open Go.RowKit Go.Proofs.YtieaipclioppkaaGreatW.PrintWords Go.Proofs.YtieaipclioppkaaGreatW.PrintLast Go.Proofs.YtieaipclioppkaaGreatW.PrintMore
attribute [local go_sem] max2_int min2_int max_two min_two max_three min_three max_four min_four   -- for this text's walks alone
set_option linter.unusedVariables false
set_option linter.unusedSimpArgs false

end Go.Proofs.YtieaipclioppkaaGreat.PLeaf
