/- What the reference's Make answers, and the document's one sector: for every cell. -/
import Derived.Test.YtekpbpcfeopilaaDoorAmk
namespace Go.Proofs.YtekpbpcfeopilaaDoor.Awk
open Go Go.RowKit Go.Proofs.YtekpbpcfeopilaaDoorCore Go.Proofs.YtekpbpcfeopilaaDoor.Puts Go.Proofs.YtekpbpcfeopilaaDoor.Amk Go.Proofs.YtekpbpcfeopilaaDoor.PLeaf Go.Proofs.YtekpbpcfeopilaaDoorW.PrintWords Go.Proofs.YtekpbpcfeopilaaDoorW.PrintLast Go.Proofs.YtekpbpcfeopilaaDoorW.PrintMore

theorem cellL_length (g i : Int) (d : ByteArray) : (cellL g i d).length = 9 + d.size := by simp [cellL, beL_length]; omega

end Go.Proofs.YtekpbpcfeopilaaDoor.Awk
