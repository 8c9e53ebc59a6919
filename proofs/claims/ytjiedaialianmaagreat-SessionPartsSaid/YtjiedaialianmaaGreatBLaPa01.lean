import Derived.Test.YtjiedaialianmaaGreatA24
import Derived.Test.YtjiedaialianmaaGreatKTiny
open Go
namespace Go.Proofs.YtjiedaialianmaaGreat
open Go.RowKit Go.Lib
theorem fmt32 :lD 32=0:=by kernel_rfl
theorem format32 (W:World):Calls Tryz.prog 16 #[.int .i64 32] W fun e w'=>(∃g:Fl,e=.returned (.tuple #[.agg #[.slice g.a g.bl.length g.c],.int .i64 0])/\Rt w' W.heap.size g F32/\g.ok w'/\g.bl=F32)/\Below W.heap.size W w':=by
 have cF:=SL 32 W
 rw[fmt32]at cF
 refine cF.mono ?_
 rintro e w' ⟨hb,g,rfl,hr⟩
 exact⟨⟨g,rfl,hr,hr.ok (.inr Qf),hr.is⟩,hb⟩
theorem reopen_c {k:Krn} {f:Fl} {F:List ByteArray} {w:World} (hk:k.ok w) (hf:f.ok w) (hF:f.bl=F) (h0:bJ k=0) (hr:S9 k F=0):
  Calls Tryz.prog 20 #[k.v,f.v] w fun e w'=>(∃k' A' l' c',e=.returned (.tuple #[.agg #[.int .i64 k'.major,.int .i64 k'.minor,.slice k'.eA k'.ex.length k'.eC,.slice A' l'.length c'],.int .i64 0])/\dL w' k' A' l'/\k'.bare=k.bare/\aD l'=aD (reL k (bQ F)))/\Below w.heap.size w w':=by
 subst hF
 have:=rG k f w hk hf
 rw[hr]at this
 refine this.mono ?_
 intro e w' hp
 obtain⟨⟨k',A',l',c',he,ht,h1,_⟩,hb⟩:=Sv hp (fun _=>oO h0 _)
 exact⟨⟨k',A',l',c',he,ht,(h1 rfl).1,(h1 rfl).2⟩,hb⟩
end Go.Proofs.YtjiedaialianmaaGreat
