import Derived.Test.YtjiedaialianmaaGreatCPlays08
import Derived.Test.YtjiedaialianmaaGreatCPlays12
set_option maxRecDepth 100000
set_option maxHeartbeats 4000000
namespace Go.Proofs.YtjiedaialianmaaGreat
section
open Go
open Go.RowKit
open Gs (Tx)
theorem Py {W:World}{b:Nat}{f A r p o n l j e:Value}{t:TypeId}(h:W.heap[b]? =some (.cells #[f,A,r,p,o,n,l,j,e] t (0,0)))(a c d g i k m:Value):
  ∃q,q=((((((W.setCell ⟨b,1,none⟩ a).setCell ⟨b,2,none⟩ c).setCell ⟨b,3,none⟩ d).setCell ⟨b,4,none⟩ g).setCell ⟨b,5,none⟩ i).setCell ⟨b,6,none⟩ k).setCell ⟨b,7,none⟩ m/\
   q.heap[b]? =some (.cells #[f,a,c,d,g,i,k,m,e] t (0,0))/\Only b W q:=by
 have z:=dS 1 a #[f,a,r,p,o,n,l,j,e] h rfl
 have y:=dS 2 c #[f,a,c,p,o,n,l,j,e] z rfl
 have x:=dS 3 d #[f,a,c,d,o,n,l,j,e] y rfl
 have w:=dS 4 g #[f,a,c,d,g,n,l,j,e] x rfl
 have v:=dS 5 i #[f,a,c,d,g,i,l,j,e] w rfl
 have u:=dS 6 k #[f,a,c,d,g,i,k,j,e] v rfl
 have s:=dS 7 m #[f,a,c,d,g,i,k,m,e] u rfl
 exact⟨_,rfl,s,((((((Only.set 1 a).trans (Only.set 2 c)).trans (Only.set 3 d)).trans (Only.set 4 g)).trans (Only.set 5 i)).trans (Only.set 6 k)).trans (Only.set 7 m)⟩
theorem JC (a:ByteArray):RL ⟨2,zeroMod,a⟩=if isName a=true then 0 else 1:=by
 have h:RL ⟨2,zeroMod,a⟩=Cf 2 (Si zeroMod) (a.toList==[]) (isName a) (aL zeroMod):=UR 2 zeroMod a
 rw[h]
 generalize(a.toList==[])=Z
 generalize aL zeroMod=M
 cases isName a<;>cases Z<;>rfl
theorem FX (a:ByteArray):RL ⟨4,zeroMod,a⟩=if(a.toList==[])=true then 0 else 1:=by
 have h:RL ⟨4,zeroMod,a⟩=Cf 4 (Si zeroMod) (a.toList==[]) (isName a) (aL zeroMod):=UR 4 zeroMod a
 rw[h]
 generalize isName a=I
 generalize aL zeroMod=M
 cases(a.toList==[])<;>cases I<;>rfl
theorem Im {k:Int}(e:k≠1)(d:k≠2)(c:k≠3)(b:k≠4)(m:Mod)(a:ByteArray):RL ⟨k,m,a⟩=7:=by
 unfold RL
 rw[if_pos (by show k<1\/4<k;omega)]
theorem Dw (l:List UInt8)(w:World)(hl:l.length<=big):
  Calls Tryz.prog 65 #[.string (sof l)] w fun e w'=>(∃m:Mod,e=.returned (.tuple #[(⟨(aS l).2.kind,m,(aS l).2.nm⟩:Cm).v,.bool (decide ((aS l).1=0))])/\m.ok w'/\m.own w' w.heap.size/\gI m (aS l).2.m)/\Below w.heap.size w w':=by
 cases l with
 |nil=>
  go_enter Tryz.func65,Tryz.ntmps65
  go_wp2_with fail
  have u:=heap_alloc_new w (.cells #[.int .i64 0,.string ⟨#[]⟩,.int .i64 0,.int .i64 0,.string ⟨#[]⟩,.slice none 0 0,.slice none 0 0,.slice none 0 0,.string ⟨#[]⟩] 102)
  refine bodyPost_ret (results_cell_tmp rfl _ _ w.heap.size 102 _ (0,0) _ rfl u Tryz.underlying102 rfl Tryz.iK) rfl ?_
  exact⟨⟨zeroMod,rfl,zero_ok _,dW _ _,⟨rfl,rfl,rfl,rfl,rfl,rfl,rfl⟩⟩,ZB⟩
 |cons b r=>
  have e0:=Tp b r
  obtain⟨K,hK⟩:∃K:Int,K=(b.toNat:Int):=⟨_,rfl⟩
  have e1:∀h,((sof (b::r))[0]'h)=b:=fun _=>rfl
  have e2:wrap64 (b.toNat:Int)=K:=by rw[hK];have:=b.toNat_lt;unfold wrap64;omega
  have e3:(sof (b::r)).extract 1 (r.length+1)=sof r:=ba_eq (by simp[ByteArray.data_extract])
  have HK:=Hp hK
  obtain⟨P,B⟩:∃P,P=(w.alloc (.cells #[.int .i64 0,.string ⟨#[]⟩,.int .i64 0,.int .i64 0,.string ⟨#[]⟩,.slice none 0 0,.slice none 0 0,.slice none 0 0,.string ⟨#[]⟩] 102)).alloc (.cells #[.int .i64 K,.string ⟨#[]⟩,.int .i64 0,.int .i64 0,.string ⟨#[]⟩,.slice none 0 0,.slice none 0 0,.slice none 0 0,.string ⟨#[]⟩] 102):=⟨_,rfl⟩
  have c:=Hp B.symm
  have i:=Hp (show Below w.heap.size w P from B▸((ZB).alloc (by simp) _))
  have o:=Hp (show P.heap[w.heap.size]? =some (.cells #[.int .i64 0,.string ⟨#[]⟩,.int .i64 0,.int .i64 0,.string ⟨#[]⟩,.slice none 0 0,.slice none 0 0,.slice none 0 0,.string ⟨#[]⟩] 102 (0,0)) by rw[B,heap_alloc_old _ _ (by simp)];exact heap_alloc_new w _)
  have H:=Hp (show P.heap[w.heap.size+1]? =some (.cells #[.int .i64 K,.string ⟨#[]⟩,.int .i64 0,.int .i64 0,.string ⟨#[]⟩,.slice none 0 0,.slice none 0 0,.slice none 0 0,.string ⟨#[]⟩] 102 (0,0)) by
   rw[B]
   have:=heap_alloc_new (w.alloc (.cells #[.int .i64 0,.string ⟨#[]⟩,.int .i64 0,.int .i64 0,.string ⟨#[]⟩,.slice none 0 0,.slice none 0 0,.slice none 0 0,.string ⟨#[]⟩] 102)) (.cells #[.int .i64 K,.string ⟨#[]⟩,.int .i64 0,.int .i64 0,.string ⟨#[]⟩,.slice none 0 0,.slice none 0 0,.slice none 0 0,.string ⟨#[]⟩] 102)
   simpa using this)
  obtain⟨⟨q0,q1,q2,q3,q4,q5,q6,q7,q8⟩,g0,g1,g2,g3,g4,g5,g6,g7,g8⟩:=Rv H.out
  obtain⟨⟨r0,Z,O,Y,X,V,U,T,S⟩,f0,f1,f2,f3,f4,f5,f6,f7,f8⟩:=Rv o.out
  have a3:w.heap.size+1<P.heap.size:=(ZL H.out)
  have HL:=Hp hl
  clear hK B hl
  by_cases R:K=1
  ·subst R
   have Q:=Hp (fun W=>wV r W (by have:=HL.out;simp only[GY8]at this;omega))
   have a:=Hp (show aS (b::r)=if dO r≠0 then(1,jP)else(0,⟨1,iD r,⟨#[]⟩⟩) by unfold aS;simp only;rw[<-HK.out];rfl)
   obtain⟨E,hE⟩:=Nm (dO r)
   rw[<-hE]at Q a
   obtain⟨D,hD⟩:=Nm (iD r)
   rw[<-hD]at Q a
   clear hE hD HL r0 Z O Y X V U T S f0 f1 f2 f3 f4 f5 f6 f7 f8 g0 g1 g2 g3 g4 g5 g6 g7 g8
   go_enter Tryz.func65,Tryz.ntmps65
   go_upto_region 4 with fail
   rw[c.out]
   clear c
   go_wp2_with fail
   refine(Q.out _).mono ?_;rintro e z ⟨⟨m,rfl,C,d,j⟩,g⟩
   obtain⟨w3,p⟩:=Nm (z.alloc (.cells #[.string m.name,.int .i64 m.major,.int .i64 m.minor,.string m.text,.slice m.eA m.ex.length m.eC,.slice m.iA m.im.length m.iC,.slice m.pA m.pa.length m.pC] 70))
   have k:Below z.heap.size z w3:=p▸ZB
   obtain⟨m0,m1,m2,m3,m4,m5,m6⟩:=RF (show w3.heap[z.heap.size]? =_ by rw[p];exact heap_alloc_new z _)
   have n:=Hp (aF k (aF g o))
   have y:=Hp (aF k (aF g H))
   have N:=Hp (i.trans ((g.mono i.size).trans (k.mono (GY1 i.size g.size))))
   have L:=Hp ((d.below k).le i.size)
   have M:=Hp C
   have a0:=Hp j
   have a7:w.heap.size+1<z.heap.size:=GY0 a3 g.size
   obtain⟨⟨r0,Z,O,Y,X,V,U,T,S⟩,f0,f1,f2,f3,f4,f5,f6,f7,f8⟩:=Rv n.out
   obtain⟨⟨q0,q1,q2,q3,q4,q5,q6,q7,q8⟩,g0,g1,g2,g3,g4,g5,g6,g7,g8⟩:=Rv y.out
   have A:=p.symm
   clear p g k C d j Q
   by_cases s:E=0
   ·subst s
    have f:=Hp (show aS (b::r)=(0,⟨1,D,⟨#[]⟩⟩) by rw[a.out,if_neg (by decide)])
    clear a
    go_upto_region 11 with fail
    obtain⟨w4,e4,h4,q⟩:=Py y.out (.string m.name) (.int .i64 m.major) (.int .i64 m.minor) (.string m.text) (.slice m.eA m.ex.length m.eC) (.slice m.iA m.im.length m.iC) (.slice m.pA m.pa.length m.pC)
    rw[<-e4]
    have F:=q.kp y.out (ts:=[102]) (by simp)
    have J:=Hp (L.kp F (by decide) (by decide) (by decide))
    have x:=Hp ((q.block w.heap.size (ZL n.out) (by omega)).trans n.out)
    have a1:=Hp (N.trans ((q.below (GY2 (ZL y.out))).mono (by omega)))
    obtain⟨⟨q0,q1,q2,q3,q4,q5,q6,q7,q8⟩,_⟩:=Rv h4
    obtain⟨⟨r0,Z,O,Y,X,V,U,T,S⟩,f0,f1,f2,f3,f4,f5,f6,f7,f8⟩:=Rv x.out
    clear e4 h4 q F m0 m1 m2 m3 m4 m5 m6 A g0 g1 g2 g3 g4 g5 g6 g7 g8
    go_wp2_with fail
    obtain⟨u,t⟩:=Uq x.out (.int .i64 1) (.string m.name) (.int .i64 m.major) (.int .i64 m.minor) (.string m.text) (.slice m.eA m.ex.length m.eC) (.slice m.iA m.im.length m.iC) (.slice m.pA m.pa.length m.pC) (.string ⟨#[]⟩)
    refine bodyPost_ret (results_cell_tmp rfl _ _ w.heap.size 102 _ (0,0) _ rfl u Tryz.underlying102 rfl Tryz.iK) rfl ?_
    rw[f.out]
    have d:=J.kp (t.kp x.out (ts:=[102]) (by simp)) (by decide) (by decide) (by decide)
    exact⟨⟨m,rfl,d.ok ⟨rfl,rfl,rfl,rfl,rfl,rfl,rfl⟩ M.out,d,a0.out⟩,a1.trans (t.below (GY2 (ZL x.out)))⟩
   ·have s':(E != 0)=true:=by simp[s]
    have f:=Hp (show aS (b::r)=(1,jP) by rw[a.out,if_pos s])
    clear s a
    go_wp2_with fail
    obtain⟨u,t⟩:=Uq n.out (.int .i64 0) (.string ⟨#[]⟩) (.int .i64 0) (.int .i64 0) (.string ⟨#[]⟩) (.slice none 0 0) (.slice none 0 0) (.slice none 0 0) (.string ⟨#[]⟩)
    refine bodyPost_ret (results_cell_tmp rfl _ _ w.heap.size 102 _ (0,0) _ rfl u Tryz.underlying102 rfl Tryz.iK) rfl ?_
    rw[f.out]
    exact⟨⟨zeroMod,rfl,zero_ok _,dW _ _,⟨rfl,rfl,rfl,rfl,rfl,rfl,rfl⟩⟩,N.trans (t.below (GY2 (ZL n.out)))⟩
  by_cases t3:K=3
  ·subst t3
   clear R
   have Q:=Hp (fun W=>wV r W (by have:=HL.out;simp only[GY8]at this;omega))
   have a:=Hp (show aS (b::r)=if dO r≠0 then(1,jP)else(0,⟨3,iD r,⟨#[]⟩⟩) by unfold aS;simp only;rw[<-HK.out];rfl)
   obtain⟨E,hE⟩:=Nm (dO r)
   rw[<-hE]at Q a
   obtain⟨D,hD⟩:=Nm (iD r)
   rw[<-hD]at Q a
   clear hE hD HL r0 Z O Y X V U T S f0 f1 f2 f3 f4 f5 f6 f7 f8 g0 g1 g2 g3 g4 g5 g6 g7 g8
   go_enter Tryz.func65,Tryz.ntmps65
   go_upto_region 4 with fail
   rw[c.out]
   clear c
   go_wp2_with fail
   refine(Q.out _).mono ?_;rintro e z ⟨⟨m,rfl,C,d,j⟩,g⟩
   obtain⟨w3,p⟩:=Nm (z.alloc (.cells #[.string m.name,.int .i64 m.major,.int .i64 m.minor,.string m.text,.slice m.eA m.ex.length m.eC,.slice m.iA m.im.length m.iC,.slice m.pA m.pa.length m.pC] 70))
   have k:Below z.heap.size z w3:=p▸ZB
   obtain⟨m0,m1,m2,m3,m4,m5,m6⟩:=RF (show w3.heap[z.heap.size]? =_ by rw[p];exact heap_alloc_new z _)
   have n:=Hp (aF k (aF g o))
   have y:=Hp (aF k (aF g H))
   have N:=Hp (i.trans ((g.mono i.size).trans (k.mono (GY1 i.size g.size))))
   have L:=Hp ((d.below k).le i.size)
   have M:=Hp C
   have a0:=Hp j
   have a7:w.heap.size+1<z.heap.size:=GY0 a3 g.size
   obtain⟨⟨r0,Z,O,Y,X,V,U,T,S⟩,f0,f1,f2,f3,f4,f5,f6,f7,f8⟩:=Rv n.out
   obtain⟨⟨q0,q1,q2,q3,q4,q5,q6,q7,q8⟩,g0,g1,g2,g3,g4,g5,g6,g7,g8⟩:=Rv y.out
   have A:=p.symm
   clear p g k C d j Q
   by_cases s:E=0
   ·subst s
    have f:=Hp (show aS (b::r)=(0,⟨3,D,⟨#[]⟩⟩) by rw[a.out,if_neg (by decide)])
    clear a
    go_upto_region 11 with fail
    obtain⟨w4,e4,h4,q⟩:=Py y.out (.string m.name) (.int .i64 m.major) (.int .i64 m.minor) (.string m.text) (.slice m.eA m.ex.length m.eC) (.slice m.iA m.im.length m.iC) (.slice m.pA m.pa.length m.pC)
    rw[<-e4]
    have F:=q.kp y.out (ts:=[102]) (by simp)
    have J:=Hp (L.kp F (by decide) (by decide) (by decide))
    have x:=Hp ((q.block w.heap.size (ZL n.out) (by omega)).trans n.out)
    have a1:=Hp (N.trans ((q.below (GY2 (ZL y.out))).mono (by omega)))
    obtain⟨⟨q0,q1,q2,q3,q4,q5,q6,q7,q8⟩,_⟩:=Rv h4
    obtain⟨⟨r0,Z,O,Y,X,V,U,T,S⟩,f0,f1,f2,f3,f4,f5,f6,f7,f8⟩:=Rv x.out
    clear e4 h4 q F m0 m1 m2 m3 m4 m5 m6 A g0 g1 g2 g3 g4 g5 g6 g7 g8
    go_wp2_with fail
    obtain⟨u,t⟩:=Uq x.out (.int .i64 3) (.string m.name) (.int .i64 m.major) (.int .i64 m.minor) (.string m.text) (.slice m.eA m.ex.length m.eC) (.slice m.iA m.im.length m.iC) (.slice m.pA m.pa.length m.pC) (.string ⟨#[]⟩)
    refine bodyPost_ret (results_cell_tmp rfl _ _ w.heap.size 102 _ (0,0) _ rfl u Tryz.underlying102 rfl Tryz.iK) rfl ?_
    rw[f.out]
    have d:=J.kp (t.kp x.out (ts:=[102]) (by simp)) (by decide) (by decide) (by decide)
    exact⟨⟨m,rfl,d.ok ⟨rfl,rfl,rfl,rfl,rfl,rfl,rfl⟩ M.out,d,a0.out⟩,a1.trans (t.below (GY2 (ZL x.out)))⟩
   ·have s':(E != 0)=true:=by simp[s]
    have f:=Hp (show aS (b::r)=(1,jP) by rw[a.out,if_pos s])
    clear s a
    go_wp2_with fail
    obtain⟨u,t⟩:=Uq n.out (.int .i64 0) (.string ⟨#[]⟩) (.int .i64 0) (.int .i64 0) (.string ⟨#[]⟩) (.slice none 0 0) (.slice none 0 0) (.slice none 0 0) (.string ⟨#[]⟩)
    refine bodyPost_ret (results_cell_tmp rfl _ _ w.heap.size 102 _ (0,0) _ rfl u Tryz.underlying102 rfl Tryz.iK) rfl ?_
    rw[f.out]
    exact⟨⟨zeroMod,rfl,zero_ok _,dW _ _,⟨rfl,rfl,rfl,rfl,rfl,rfl,rfl⟩⟩,N.trans (t.below (GY2 (ZL n.out)))⟩
  by_cases t2:K=2
  ·subst t2
   clear R t3
   have cn:=Hp (fun W=>Sl (sof r) W (by rw[<-rD];have:=HL.out;simp only[GY8]at this;omega))
   have a:=Hp (show aS (b::r)=if isName (sof r)=true then(0,⟨2,zeroMod,sof r⟩)else(1,jP) by
    unfold aS
    simp only
    rw[<-HK.out,if_neg (by decide),JC]
    cases isName (sof r)<;>rfl)
   generalize isName (sof r)=I at cn a
   have a2:Only (w.heap.size+1) P (P.setCell ⟨w.heap.size+1,8,none⟩ (.string (sof r))):=Only.set 8 _
   have a6:=dS 8 (.string (sof r)) #[.int .i64 2,.string ⟨#[]⟩,.int .i64 0,.int .i64 0,.string ⟨#[]⟩,.slice none 0 0,.slice none 0 0,.slice none 0 0,.string (sof r)] H.out rfl
   have G:=Hp ((a2.block w.heap.size (by omega) (by omega)).trans o.out)
   have a4:=Hp (i.trans ((a2.below (by omega)).mono (by omega)))
   go_enter Tryz.func65,Tryz.ntmps65
   go_upto_region 4 with fail
   rw[c.out]
   clear c
   go_wp2_with fail
   generalize P.setCell ⟨w.heap.size+1,8,none⟩ (.string (sof r))=z at*
   refine(cn.out z).mono ?_;rintro e w' ⟨rfl,rfl⟩
   obtain⟨⟨q0,q1,q2,q3,q4,q5,q6,q7,q8⟩,_⟩:=Rv a6
   obtain⟨⟨r0,Z,O,Y,X,V,U,T,S⟩,f0,f1,f2,f3,f4,f5,f6,f7,f8⟩:=Rv G.out
   cases I
   ·have f:=Hp (show aS (b::r)=(1,jP) by rw[a.out];rfl)
    clear a
    go_wp2_with fail
    obtain⟨u,t⟩:=Uq G.out (.int .i64 0) (.string ⟨#[]⟩) (.int .i64 0) (.int .i64 0) (.string ⟨#[]⟩) (.slice none 0 0) (.slice none 0 0) (.slice none 0 0) (.string ⟨#[]⟩)
    refine bodyPost_ret (results_cell_tmp rfl _ _ w.heap.size 102 _ (0,0) _ rfl u Tryz.underlying102 rfl Tryz.iK) rfl ?_
    rw[f.out]
    exact⟨⟨zeroMod,rfl,zero_ok _,dW _ _,⟨rfl,rfl,rfl,rfl,rfl,rfl,rfl⟩⟩,a4.trans (t.below (GY2 (ZL G.out)))⟩
   ·have f:=Hp (show aS (b::r)=(0,⟨2,zeroMod,sof r⟩) by rw[a.out];rfl)
    clear a
    go_wp2_with fail
    obtain⟨u,t⟩:=Uq G.out (.int .i64 2) (.string ⟨#[]⟩) (.int .i64 0) (.int .i64 0) (.string ⟨#[]⟩) (.slice none 0 0) (.slice none 0 0) (.slice none 0 0) (.string (sof r))
    refine bodyPost_ret (results_cell_tmp rfl _ _ w.heap.size 102 _ (0,0) _ rfl u Tryz.underlying102 rfl Tryz.iK) rfl ?_
    rw[f.out]
    exact⟨⟨zeroMod,rfl,zero_ok _,dW _ _,⟨rfl,rfl,rfl,rfl,rfl,rfl,rfl⟩⟩,a4.trans (t.below (GY2 (ZL G.out)))⟩
  by_cases t4:K=4
  ·subst t4
   clear R t2 t3
   have a:=Hp (show aS (b::r)=if((sof r).toList==[])=true then(0,⟨4,zeroMod,sof r⟩)else(1,jP) by
    unfold aS
    simp only
    rw[<-HK.out,if_neg (by decide),FX]
    cases((sof r).toList==[])<;>rfl)
   cases r with
   |nil=>
    have f:=Hp (show aS [b]=(0,⟨4,zeroMod,⟨#[]⟩⟩) by rw[a.out,mW];rfl)
    clear a
    go_enter Tryz.func65,Tryz.ntmps65
    go_upto_region 4 with fail
    rw[c.out]
    clear c
    go_wp2_with fail
    obtain⟨u,t⟩:=Uq o.out (.int .i64 4) (.string ⟨#[]⟩) (.int .i64 0) (.int .i64 0) (.string ⟨#[]⟩) (.slice none 0 0) (.slice none 0 0) (.slice none 0 0) (.string ⟨#[]⟩)
    refine bodyPost_ret (results_cell_tmp rfl _ _ w.heap.size 102 _ (0,0) _ rfl u Tryz.underlying102 rfl Tryz.iK) rfl ?_
    rw[f.out]
    exact⟨⟨zeroMod,rfl,zero_ok _,dW _ _,⟨rfl,rfl,rfl,rfl,rfl,rfl,rfl⟩⟩,i.trans (t.below (GY2 (ZL o.out)))⟩
   |cons b2 O=>
    have f:=Hp (show aS (b::b2::O)=(1,jP) by rw[a.out,Tp];rfl)
    have a5:((((b::b2::O).length:Nat):Int)==1)=false:=by rw[beq_eq_false_iff_ne];simp only[GY8];omega
    clear a
    go_enter Tryz.func65,Tryz.ntmps65
    go_upto_region 4 with fail
    rw[c.out]
    clear c
    go_wp2_with fail
    obtain⟨u,t⟩:=Uq o.out (.int .i64 0) (.string ⟨#[]⟩) (.int .i64 0) (.int .i64 0) (.string ⟨#[]⟩) (.slice none 0 0) (.slice none 0 0) (.slice none 0 0) (.string ⟨#[]⟩)
    refine bodyPost_ret (results_cell_tmp rfl _ _ w.heap.size 102 _ (0,0) _ rfl u Tryz.underlying102 rfl Tryz.iK) rfl ?_
    rw[f.out]
    exact⟨⟨zeroMod,rfl,zero_ok _,dW _ _,⟨rfl,rfl,rfl,rfl,rfl,rfl,rfl⟩⟩,i.trans (t.below (GY2 (ZL o.out)))⟩
  have f:=Hp (show aS (b::r)=(1,jP) by
   have h7:=Im R t2 t3 t4 zeroMod (sof r)
   unfold aS
   simp only
   rw[<-HK.out,if_neg (by rw[VX];omega),if_pos (by rw[h7];decide)])
  have b0:(K==1)=false:=by simp[R]
  have a9:(K==2)=false:=by simp[t2]
  have a8:(K==3)=false:=by simp[t3]
  have a5:(K==4)=false:=by simp[t4]
  clear R t2 t3 t4
  go_enter Tryz.func65,Tryz.ntmps65
  go_upto_region 4 with fail
  rw[c.out]
  clear c
  go_wp2_with fail
  obtain⟨u,t⟩:=Uq o.out (.int .i64 0) (.string ⟨#[]⟩) (.int .i64 0) (.int .i64 0) (.string ⟨#[]⟩) (.slice none 0 0) (.slice none 0 0) (.slice none 0 0) (.string ⟨#[]⟩)
  refine bodyPost_ret (results_cell_tmp rfl _ _ w.heap.size 102 _ (0,0) _ rfl u Tryz.underlying102 rfl Tryz.iK) rfl ?_
  rw[f.out]
  exact⟨⟨zeroMod,rfl,zero_ok _,dW _ _,⟨rfl,rfl,rfl,rfl,rfl,rfl,rfl⟩⟩,i.trans (t.below (GY2 (ZL o.out)))⟩
end
section
open Go
open Go.RowKit Go.Lib
theorem OO {b:Int}(h:lD b=0):3<=b/\b<=32:=by
 unfold lD at h
 by_cases a:b<3
 ·rw[if_pos a]at h;omega
 ·rw[if_neg a]at h
  unfold uX at h
  by_cases c:1<=b/\b<=32
  ·omega
  ·rw[if_neg c]at h;omega
theorem LC {b:Int}(h:lD b=0):bP (List.replicate b.toNat blank)=0:=by
 obtain⟨d,c⟩:=OO h
 exact fP.2 ⟨by rw[List.length_replicate];omega,fun s a=>by rw[(List.mem_replicate.1 a).2];rfl⟩
def RA (v:World)(b:Nat)(c:List ByteArray)(n:Nat)(a i:Value)(wr:World):Prop:=
 ∃(j:Nat)(g:Fl)(F R:List ByteArray)(D:List Ded)(k e:Nat),i=.int .i64 (j:Int)/\j<=n/\JInv c F R D k e/\BD v wr b g a F R
def OQ (w:World)(n:Int)(e:Ending)(d:World):Prop:=
 (∃(g:Fl)(F R:List ByteArray)(D:List Ded)(k j:Nat)(f:Value),e=.returned (.tuple #[.agg #[.slice g.a g.bl.length g.c],f,.bool true])/\JInv (List.replicate n.toNat blank) F R D k j/\Rt d w.heap.size g F/\dA d w.heap.size f R/\
    ∀b,(Value.slice g.a g.bl.length g.c).ownBlock=some b->f.ownBlock≠some b)/\Below w.heap.size w d
theorem Ux (n:Int)(rA:Option Addr)(B:List ByteArray)(rc:Nat)(w:World)(h:jK w rA B)(hE:lD n=0):
  Calls Tryz.prog 26 #[.int .i64 n,.slice rA B.length rc] w (OQ w n):=by
 have b4:=h.len
 unfold big at b4
 have c3:=Hp h.row
 have a6:=Hp h.each
 have cN:=Hp (fun W=>SL n W)
 obtain⟨w1,Y⟩:=Nm (w.alloc (.cells #[.slice none 0 0] 29))
 obtain⟨_,c1,a9,b9⟩:=jG Y
 have f5:=Y.symm
 have e1:=Hp c1
 have d0:=Hp b9
 have a3:=Hp a9
 obtain⟨F0,y⟩:=Nm (List.replicate n.toNat blank)
 rw[hE,SK rfl,<-y]at cN
 have f0:=Hp (show bP F0=0 by rw[y];exact LC hE)
 have e7:=Hp (show Re (flat F0)=some (0,[],0) by rw[y];exact kR _)
 have e8:=Hp y
 clear h y Y c1 a9 b9 hE
 go_enter Tryz.func26,Tryz.ntmps26
 go_wp2_with (first
  |(go_at_call 16;refine(cN.out _).mono ?_;rintro e v ⟨x,g0,rfl,G⟩
    obtain⟨w4,V⟩:=Nm (v.alloc (.cells #[.slice g0.a g0.bl.length g0.c] 29))
    obtain⟨y4,c0,d3,a0⟩:=jG V
    have f4:=V.symm
    have e5:=Hp (show BD v w4 w1.heap.size g0 (.slice none 0 0) F0 [] from
     ⟨c0,⟨G.own.below a0 (GZ3 _),G.cap,G.is⟩,dA.nil _ _,(fun b _ hb=>by cases hb),a0⟩)
    have a8:=Hp (d0.trans (x.mono d0.size))
    have e0:=Hp ((x.block _ (by have:=a3.out;omega)).trans e1.out)
    have a4:=Hp (show w.heap.size<v.heap.size by have:=x.size;have:=a3.out;omega)
    have c2:=Hp x.size
    clear V c0 d3 x a0 G))
 go_loopw [9,10] (fun v6 i wr=>RA v w1.heap.size F0 B.length v6 i wr) (fun _ i _=>B.length -(intOf i).toNat)
 case atStart=>exact⟨0,g0,F0,[],[],0,0,rfl,Nat.zero_le _,JInv.start f0.out e7.out,e5.out⟩
 case round=>
  obtain⟨j,g,F,R,D,k,e,rfl,hj,hI,I⟩:=hrel
  have HI:=Hp hI
  have HM:=Hp I
  have y0:=cell_of_heap I.cell 0
  have yf:=aQ I.cell 0
  simp only[GZ2,GZ0]at y0
  have c8:=Hp (a8.trans (I.below.mono a8.size))
  by_cases o:j<B.length/\j<20
  ·obtain⟨o,b5⟩:=o
   have f7:(j:Int)<B.length:=by omega
   have d5:(j:Int)<20:=by omega
   obtain⟨ad,rfl,g2,h0⟩:=nT c3.out c8.out j o
   have b1:=a6.out _ (GZ9 o)
   obtain⟨s,hs⟩:=Nm (B[j]'o)
   rw[<-hs]at h0 b1
   have O:g.ok wr:=I.res.ok (.inr hI.ok)
   have cA:=Hp (fun W(hW:Below wr.heap.size wr W)=>uG g s W (O.below hW) b1)
   rw[I.res.is]at cA
   obtain⟨EA,a2⟩:=Nm (dF F s.size)
   obtain⟨FA,a1⟩:=Nm (xU F (bytesOf s))
   rw[<-a2,<-a1]at cA
   have c7:=Hp a2
   have e9:=Hp a1
   have l1:v.heap.size<wr.heap.size:=oG y0
   have l2:(ad.add j).block<wr.heap.size:=oG h0
   clear hs hI I O a2 a1 b5
   go_upto_region 8 with fail
   have u:=Hp (show fI wr (fun z=>Below wr.heap.size wr z/\z.cell? ⟨v.heap.size,0,none⟩=some (.slice g.a g.bl.length g.c)/\z.cell? (ad.add j)=some (.string s)) from dE (by repeat' first|(with_reducible exact bC.cell (by first|omega|(simp;omega)|(simp only[aA];omega)))|refine bC.and ?_ ?_))
   have d:=Hp (u.now ⟨GZ4 _ _,by assumption,by assumption⟩)
   have l:=Hp u.D
   have f:=Hp u.S
   have m:=Hp u.A
   have q:=Hp u.X
   have a7:=Hp u.L
   go_cut [11,12,13] from 32 to 41 (fun p _ e wx=>lM wr EA FA p e wx)
   case first=>
    have d9:=Hp (show∀z:World,Below (wr.alloc (.cells #[.slice none 0 0] 29)).drew.heap.size (wr.alloc (.cells #[.slice none 0 0] 29)).drew z->z.heap[wr.heap.size]? =some (.cells #[.slice none 0 0] 29 (0,0)) from
     fun z hb=>(hb.block wr.heap.size (by show wr.heap.size<(wr.alloc _).heap.size;simp)).trans (heap_alloc_new wr _))
    go_region_held3 (fun z=>Below wr.heap.size wr z/\z.cell? ⟨v.heap.size,0,none⟩=some (.slice g.a g.bl.length g.c)/\z.cell? (ad.add j)=some (.string s)) (first|with_reducible exact d.out|with_reducible exact l.out _ d.out|with_reducible exact f.out _ _ (by assumption) (by assumption)|with_reducible exact f.out _ _ d.out (by assumption)|with_reducible exact f.out _ _ (l.out _ d.out) (by assumption)|with_reducible exact f.out _ _ (l.out _ (by assumption)) (by assumption)|with_reducible exact l.out _ (by assumption)|with_reducible exact m.out _ _ (by assumption)|with_reducible exact m.out _ _ d.out|with_reducible exact m.out _ _ (l.out _ d.out)|with_reducible exact l.out _ (m.out _ _ (by assumption))|with_reducible exact m.out _ _ (f.out _ _ d.out (by assumption))|with_reducible exact m.out _ _ (f.out _ _ (l.out _ d.out) (by assumption))|with_reducible exact q.out _ _ _ _ (GZ3 _) (by assumption)|with_reducible exact q.out _ _ _ _ (GZ3 _) (f.out _ _ (m.out _ _ d.out) (by assumption))|with_reducible exact q.out _ _ _ _ (GZ3 _) (f.out _ _ (l.out _ (m.out _ _ d.out)) (by assumption))|with_reducible assumption|exact d.out|exact l.out _ d.out|exact f.out _ _ (by assumption) (by assumption)|exact f.out _ _ d.out (by assumption)|exact f.out _ _ (l.out _ d.out) (by assumption)|exact f.out _ _ (l.out _ (by assumption)) (by assumption)|exact l.out _ (by assumption)|exact m.out _ _ (by assumption)|exact m.out _ _ d.out|exact m.out _ _ (l.out _ d.out)|exact l.out _ (m.out _ _ (by assumption))|exact m.out _ _ (f.out _ _ d.out (by assumption))|exact m.out _ _ (f.out _ _ (l.out _ d.out) (by assumption))|exact q.out _ _ _ _ (GZ3 _) (by assumption)|exact q.out _ _ _ _ (GZ3 _) (f.out _ _ (m.out _ _ d.out) (by assumption))|exact q.out _ _ _ _ (GZ3 _) (f.out _ _ (l.out _ (m.out _ _ d.out)) (by assumption))|assumption) (first|(go_at_call 27;(with_reducible refine(cA.out _ (a7.out _ (by assumption))).mono ?_);rintro e w6 ⟨b8,f',A6,c6,D6,rfl,d4,_,_⟩;have b3:=a7.out _ (by assumption);have Q:=Hp (mR b3 b8);have M:=Hp (d4.down b3.size);(try(have U:=d9.out w6 b8;have z6:=cell_of_heap U 0;have f8:=aQ U 0;simp only[GZ2,GZ0]at z6))))
    all_goals(
     go_wp2_with fail
     go_meet
     first
      |exact lM.new Q.out M.out
      |exact lM.old U (GZ3 _) Q.out M.out)
   case rest=>
    obtain⟨f',B9,rfl,rfl,b0,g3,b2,H⟩:=hcut
    obtain⟨w7,rfl⟩:=Nm wc
    have z9:=cell_of_heap b0 0
    simp only[GZ2,GZ0]at z9
    have h7:=(H.cell (p:=ad.add j) l2).trans h0
    have x7:=(H.cell (p:=⟨v.heap.size,0,none⟩) l1).trans y0
    have d2:=(H.frozen (p:=⟨v.heap.size,0,none⟩) l1).trans yf
    have c9:=Hp H
    have e3:=Hp b2
    clear d l f m a7 q cA b0 b2
    by_cases t:EA=0
    ·subst t
     have f1:=Hp (HI.next (s:=s) c7.symm)
     have r:=e9.out
     unfold xU at r
     rw[RB,<-c7.out,SK rfl]at r
     have d1:=Hp (show JInv F0 FA (R++[s]) (D++aW F (bytesOf s)) (k+1) (e+s.size) by rw[r];exact f1.out)
     have c4:=Hp (HM.put c9.out e3.out (by have:=HM.below.size;have:=c2.out;omega))
     obtain⟨w8,E⟩:=Nm (w7.setCell ⟨v.heap.size,0,none⟩ (.slice f'.a f'.bl.length f'.c))
     have h8:w8.cell? (ad.add j)=some (.string s):=by
      rw[E,World.cell?_setCell_other _ _ _ _ (by intro e;have:=congrArg Addr.block e;simp only at this;rw[aA]at this;have:=HM.below.size;have:=c2.out;have:=a8.size;omega)]
      exact h7
     rw[<-E]at c4
     have f3:=E.symm
     obtain⟨w9,C⟩:=Nm (w8.alloc (.cells #[.string s] 9))
     have b7:Below w8.heap.size w8 w9:=C▸ZB
     have a5:=Hp (c4.later b7)
     have e2:=Hp (show Row strCells 1 w9 (some ⟨w8.heap.size,0,none⟩) [s] from pF (enc:=strCells) (k:=1) (fun _=>rfl) (C▸heap_alloc_new _ _) rfl)
     have f2:=C.symm
     have d8:=HI.many
     obtain⟨d6,d7⟩:=HI.bound
     have e6:=Hp (show R.length+[s].length<=1000000 by simp only[List.length_singleton];omega)
     clear r E C b7 d8 d6 d7 h7
     go_wp2_with (first
      |(at_builtin;refine vK w9 rfl (.tmp 45) (.tmp 50) rfl v.heap.size _ R rfl a5.texts (some ⟨w8.heap.size,0,none⟩) 1 [s] rfl e2.out e6.out a5.below.size ?_
        intro g1 f9 K T P N
        have c5:=Hp (a5.text K P N T)
        clear K T P N))
     go_roundw
     case rel=>exact⟨j+1,f',FA,R++[s],D++aW F (bytesOf s),k+1,e+s.size,by go_num,o,d1.out,c5.out⟩
     case measure=>(simp[intOf];try omega)
    ·have u1:(EA==0)=false:=by simp[t]
     have e4:=Hp (HM.later c9)
     clear t x7 d2 z9
     go_wp2_with fail
     go_roundw
     case rel=>exact⟨j+1,g,F,R,D,k,e,by go_num,o,HI.out,e4.out⟩
     case measure=>(simp[intOf];try omega)
  ·have Z:¬((j:Int)<B.length)\/(B.length:Int)>j/\¬((j:Int)<20):=by omega
   have J:=Hp ((I.below.block _ a4).trans e0)
   have x0:=cell_of_heap J.out 0
   have xf:=aQ J.out 0
   simp only[GZ2,GZ0]at x0
   have l3:w.heap.size≠v.heap.size:=by have:=a4.out;omega
   clear hI I o
   rcases Z with Z|⟨Z,f6⟩
   all_goals(
    go_wp2_with fail
    have hg:=heap_setCell_same wr w.heap.size 0 _ _ (.slice g.a g.bl.length g.c) J.out
    have b6:Kp [29] wr (wr.setCell ⟨w.heap.size,0,none⟩ (.slice g.a g.bl.length g.c)):=Kp.set J.out (by simp) 0 _
    refine bodyPost_ret (dR rfl _ _ w.heap.size 29 _ (0,0) _ rfl hg Tryz.underlying29 rfl Tryz.jI) rfl ?_
    exact⟨⟨g,F,R,D,k,e,_,rfl,e8.out▸HI.out,(HM.out.res.keep b6 (by decide)).down (by have:=a3.out;omega),RH (own_kp HM.out.texts b6 (by decide)) (by have:=a4.out;omega),HM.out.apart⟩,c8.out.setCell (p:=⟨w.heap.size,0,none⟩) (GZ3 _) _⟩)
theorem yQ (n:Int)(H:Option Addr)(F:List ByteArray)(G:Nat)(w:World)(r:lD n≠0):
  Calls Tryz.prog 26 #[.int .i64 n,.slice H F.length G] w fun e D=>e=.returned (.tuple #[.agg #[.slice none 0 0],.slice none 0 0,.bool false])/\Below w.heap.size w D:=by
 have z:=Hp (fun W=>SL n W)
 obtain⟨L,f⟩:=Nm (w.alloc (.cells #[.slice none 0 0] 29))
 obtain⟨_,k,i,j⟩:=jG f
 have y:=f.symm
 have u:=Hp k
 have l:=Hp j
 have t:=Hp i
 obtain⟨E,hF⟩:=Nm (lD n)
 rw[<-hF]at z r
 have M:(E != 0)=true:=by simp[r]
 clear f k i j hF r
 go_enter Tryz.func26,Tryz.ntmps26
 go_wp2_with (first
  |(go_at_call 16;refine(z.out _).mono ?_;rintro e C ⟨b,s,rfl,o⟩
    obtain⟨B,d⟩:=Nm (C.alloc (.cells #[.slice s.a s.bl.length s.c] 29))
    obtain⟨J,q,m,g⟩:=jG d
    have x:=d.symm
    have v:=Hp (l.trans ((b.trans (g.mono b.size)).mono l.size))
    have h:=Hp (((b.trans (g.mono b.size)).block _ (by have:=t.out;omega)).trans u.out)
    have A:=cell_of_heap h.out 0
    have K:=aQ h.out 0
    simp only[GZ2,GZ0]at A
    clear d q m b g o))
 have I:=heap_setCell_same B w.heap.size 0 _ _ (.slice none 0 0) h.out
 refine bodyPost_ret (dR rfl _ _ w.heap.size 29 _ (0,0) _ rfl I Tryz.underlying29 rfl Tryz.jI) rfl ?_
 exact⟨rfl,v.setCell (p:=⟨w.heap.size,0,none⟩) (GZ3 _) _⟩
end
end Go.Proofs.YtjiedaialianmaaGreat
