import Derived.Test.YtjnfemcfohflnaaExpW
import Derived.Test.YtjnfemcfohflnaaCheckW
/- The document's CheckModule: it tells modErr. -/
namespace Go.Proofs.Ytjnfemcfohflnaa
open Go.RowKit

end Go.Proofs.Ytjnfemcfohflnaa
