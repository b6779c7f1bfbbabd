/- A card's words are what the document says, of any card. -/
import Derived.Test.YtdcmahndbmonbaaPureCodec
namespace Go.Proofs.Ytdcmahndbmonbaa.Pure
open Go.RowKit Go.Proofs.Ytdcmahndbmonbaa.Print Go.Proofs.YtdcmahndbmonbaaW.PrintWords Go.Proofs.YtdcmahndbmonbaaW.PrintLast Go.Proofs.YtdcmahndbmonbaaW.PrintMore

end Go.Proofs.Ytdcmahndbmonbaa.Pure
