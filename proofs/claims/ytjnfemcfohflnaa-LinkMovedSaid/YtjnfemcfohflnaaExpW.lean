import Derived.Test.YtjnfemcfohflnaaNameW
/- Exports (chapter B): module.Exports, and the document's CheckExports. -/
namespace Go.Proofs.Ytjnfemcfohflnaa
open Go.RowKit

end Go.Proofs.Ytjnfemcfohflnaa
