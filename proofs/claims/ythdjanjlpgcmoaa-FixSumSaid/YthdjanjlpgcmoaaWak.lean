/- Package wide's awake. -/
import Derived.Test.YthdjanjlpgcmoaaWaw
import Derived.Test.YthdjanjlpgcmoaaStage
namespace Go.Proofs.Ythdjanjlpgcmoaa
open Go.RowKit

end Go.Proofs.Ythdjanjlpgcmoaa
