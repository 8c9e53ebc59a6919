import Derived.Test.YtjiedaialianmaaGreatA24
import Derived.Test.YtjiedaialianmaaGreatCLasts01
import Derived.Test.YtjiedaialianmaaGreatKTiny
open Go
namespace Go.Proofs.YtjiedaialianmaaGreat
open Go.RowKit Go.Lib
theorem run_c {k:Krn} {cA:Option Addr} {cs:List Cm} {cc:Nat} {w:World} (hk:k.ok w) (hc:nE w cA cs) (h0:bJ k=0) (h40:cs.length<=40) {es:List Int} (he:eD k [] cs=es):
  Calls Tryz.prog 19 #[.agg #[.int .i64 k.major,.int .i64 k.minor,.slice k.eA k.ex.length k.eC,.slice none 0 0],.slice cA cs.length cc] w fun e w'=>(∃k' A' l' c' eA ec,e=.returned (.tuple #[.agg #[.int .i64 k'.major,.int .i64 k'.minor,.slice k'.eA k'.ex.length k'.eC,.slice A' l'.length c'],.slice eA es.length ec,.int .i64 0])/\dL w' k' A' l'/\k'.bare=k.bare/\aD l'=aD (Rl k [] cs)/\jN w' eA es)/\Below w.heap.size w w':=by
 have hr0:=Be h0
 have hre:gV k [] cs.length=0:=by unfold gV;rw[hr0,if_neg (by simp),if_neg (by omega)]
 have hes:lZ k [] cs=es:=by unfold lZ;rw[hre,if_neg (by simp),he]
 have:=Fj k none 0 [] cA cs cc w hk ⟨Row.nil,Nat.zero_le _,by simp⟩ hc
 rw[hre,hes]at this
 refine this.mono ?_
 rintro e w' ⟨⟨k',A',l',c',eA,ec,he,ht,h1,_,ho⟩,hb⟩
 exact⟨⟨k',A',l',c',eA,ec,he,ht,(h1 rfl).1,(h1 rfl).2,AO ho⟩,hb⟩
theorem area_c {k:Krn} {k1:Krn} {l1 L:List Plc} (h1:k1.bare=k.bare) (h2:aD l1=aD L) (hr:aZ k L=0):aZ k1 l1=0/\iP k l1=0/\TL k l1=TL k L:=by
 have e1:=kQ h1 h2
 have e2:=Li (k:=k) (k':=k) rfl h2 (by rw[kQ (k:=k) (k':=k) rfl h2];exact hr) hr
 exact⟨by rw[e1];exact hr,e2.1,e2.2.2⟩
end Go.Proofs.YtjiedaialianmaaGreat
