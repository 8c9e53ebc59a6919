import Derived.Test.YtjiedaialianmaaGreatA24
import Derived.Test.YtjiedaialianmaaGreatKTiny
open Go
namespace Go.Proofs.YtjiedaialianmaaGreat
open Go.RowKit Go.Lib
theorem play_c {k:Krn} {f:Fl} {cA:Option Addr} {cs:List Cm} {cc:Nat} {w:World} {F:List ByteArray} {es:List Int} {c:Int} (hk:k.ok w) (hf:f.ok w) (hc:nE w cA cs) (h:fD k f.bl cs=(F,es,c)):
  Calls Tryz.prog 18 #[k.v,f.v,.slice cA cs.length cc] w fun e w'=>(∃(f':Fl) (eA:Option Addr) (ec:Nat),e=.returned (.tuple #[.agg #[.slice f'.a f'.bl.length f'.c],.slice eA es.length ec,.int .i64 c])/\Rt w' w.heap.size f' F/\dN w' w.heap.size (.slice eA es.length ec) es)/\Below w.heap.size w w':=by
 have:=zP k f cA cs cc w hk hf hc
 rw[h]at this
 exact this
end Go.Proofs.YtjiedaialianmaaGreat
