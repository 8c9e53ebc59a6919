import Derived.Test.YtjiedaialianmaaGreatCPlays16
open Go
namespace Go.Proofs.YtjiedaialianmaaGreat
open Go.RowKit Go.Lib
theorem play_c {k:Krn}{f:Fl}{i:Option Addr}{d:List Cm}{cc:Nat}{w:World}{F:List ByteArray}{es:List Int}{c:Int}(m:k.ok w)(n:f.ok w)(o:nE w i d)(h:fD k f.bl d=(F,es,c)):
  Calls Tryz.prog 18 #[k.v,f.v,.slice i d.length cc] w fun e g=>(∃(b:Fl)(l:Option Addr)(j:Nat),e=.returned (.tuple #[.agg #[.slice b.a b.bl.length b.c],.slice l es.length j,.int .i64 c])/\Rt g w.heap.size b F/\dN g w.heap.size (.slice l es.length j) es)/\Below w.heap.size w g:=by
 have:=zP k f i d cc w m n o
 rw[h]at this
 exact this
end Go.Proofs.YtjiedaialianmaaGreat
