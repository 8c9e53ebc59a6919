import Derived.Test.YtjiedaialianmaaGreatRows
import Derived.WalkSpells
import Derived.WalkLawsBesides
import Derived.Handy
import Derived.Lib.Hide
import Derived.BigQuiet
import Derived.Deep.RegionHeld3
import Derived.Lib.IndexBytes
import Derived.Deep.AppendLies
import Derived.Deep.RegionLaw
import Derived.Test.YtjiedaialianmaaGreatKTiny
open Go
namespace Go.Proofs.YtjiedaialianmaaGreat
theorem no_ft {p:Prop}(h:false=true):p:=absurd h (by decide)
theorem no_tf {p:Prop}(h:true=false):p:=absurd h (by decide)
end Go.Proofs.YtjiedaialianmaaGreat
