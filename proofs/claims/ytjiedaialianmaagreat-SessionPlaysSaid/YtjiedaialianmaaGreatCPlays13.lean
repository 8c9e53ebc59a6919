import Derived.Test.YtjiedaialianmaaGreatCPlays12
set_option maxRecDepth 100000
set_option maxHeartbeats 8000000
namespace Go.Proofs.YtjiedaialianmaaGreat
section
open Go
open Go.RowKit Go.Lib
theorem kT.like {W:World}{a c:Nat}{k:Krn}{l b:List Plc}(h:kT W a c k l)(e:aD l=aD b):kT W a c k b:=by
 obtain⟨f,m,d,j,h,i,g⟩:=h
 exact⟨f,m,d,j,h,i,g.trans e⟩
theorem Be {k:Krn}(h:bJ k=0):aZ k []=0:=by
 have a:aX k []=0:=by unfold aX;rw[h];rfl
 unfold aZ
 rw[a]
 rfl
def S9 (k:Krn)(F:List ByteArray):Int:=if bJ k≠0 then bJ k else gZ F
def reL (k:Krn)(R:List ByteArray):List Plc:=Rl k [] (gD (R.map bytesOf))
theorem IJ {R:List ByteArray}{j:Nat}(h:j<R.length):gD ((R.take (j+1)).map bytesOf)=gD ((R.take j).map bytesOf)++(if(aS (bytesOf R[j])).1=0 then[(aS (bytesOf R[j])).2]else[]):=by
 rw[<-List.take_append_getElem h,List.map_append,tJ]
 rfl
theorem G9 {k:Krn}{R:List ByteArray}{j:Nat}(h:j<R.length):reL k (R.take (j+1))=if(aS (bytesOf R[j])).1=0 then doL k (reL k (R.take j)) (aS (bytesOf R[j])).2 else reL k (R.take j):=by
 unfold reL
 rw[IJ h,nM]
 by_cases e:(aS (bytesOf R[j])).1=0
 ·rw[if_pos e,if_pos e];rfl
 ·rw[if_neg e,if_neg e];rfl
theorem oO {k:Krn}(h:bJ k=0)(R:List ByteArray):aZ k (reL k R)=0:=lG _ (Be h)
theorem Ay (k:Krn)(f:Fl)(w:World)(hk:k.ok w)(hf:f.ok w)(hs:∀s∈bQ f.bl,s.size<=big)(hn:(bQ f.bl).length<=big):
  Calls Tryz.prog 20 #[k.v,f.v] w (U7 w (S9 k f.bl) k (reL k (bQ f.bl))):=by
 obtain⟨w0,C⟩:=Nm (w.alloc (.cells #[.int .i64 k.major,.int .i64 k.minor,.slice k.eA k.ex.length k.eC] 24))
 obtain⟨w1,B⟩:=Nm (w0.alloc (.cells #[.slice f.a f.bl.length f.c] 29))
 obtain⟨u,A⟩:=Nm (w1.alloc (.cells #[.int .i64 0,.int .i64 0,.slice none 0 0,.slice none 0 0] 39))
 have Z:Below w.heap.size w w0:=C▸ZB
 have Y:Below w0.heap.size w0 w1:=B▸ZB
 have X:Below w1.heap.size w1 u:=A▸ZB
 have z0:w0.heap.size=w.heap.size+1:=by rw[C];simp
 have z1:w1.heap.size=w.heap.size+2:=by rw[B];simp;omega
 have z2:u.heap.size=w.heap.size+3:=by rw[A];simp;omega
 have L:=Hp ((X.block w.heap.size (by omega)).trans ((Y.block _ (by omega)).trans (show w0.heap[w.heap.size]? =some (.cells #[.int .i64 k.major,.int .i64 k.minor,.slice k.eA k.ex.length k.eC] 24 (0,0)) by rw[C];exact heap_alloc_new w _)))
 have M:=Hp ((X.block _ (by omega)).trans (show w1.heap[w.heap.size+1]? =some (.cells #[.slice f.a f.bl.length f.c] 29 (0,0)) by rw[B,<-z0];exact heap_alloc_new w0 _))
 have z:=Hp (show u.heap[w.heap.size+2]? =some (.cells #[.int .i64 0,.int .i64 0,.slice none 0 0,.slice none 0 0] 39 (0,0)) by rw[A,<-z1];exact heap_alloc_new w1 _)
 have n:=Hp (Z.trans ((Y.mono Z.size).trans (X.mono (GY1 Z.size Y.size))))
 have e2:=Hp z2
 have c1:=Hp (Br k u (hk.below n.out))
 have cO:=Hp (fun W(hb:Below w.heap.size w W)=>wJ f W (hf.below hb))
 have HK:=Hp hk
 obtain⟨F,hF⟩:=Nm (bJ k)
 have HF:=Hp hF
 rw[<-hF]at c1
 obtain⟨G,hG⟩:=Nm (gZ f.bl)
 have HG:=Hp hG
 obtain⟨R,hR⟩:=Nm (bQ f.bl)
 rw[<-hR]at hs hn cO ⊢
 rw[<-hG]at cO
 obtain⟨E,O⟩:=Nm (S9 k f.bl)
 rw[<-O]
 unfold S9 at O
 rw[<-hF,<-hG]at O
 have HS:=Hp hs
 have HN:=Hp hn
 unfold big at hn
 have k0:=heap_cell L.out 0
 have k1:=heap_cell L.out 1
 have k2:=heap_cell L.out 2
 have f0:=heap_cell M.out 0
 simp only[GZ2,GZ0,GZ1]at k0 k1 k2 f0
 have f6:=C.symm
 have f5:=B.symm
 have f4:=A.symm
 clear C B A Z Y X z2 hk hf hs hF hG hR
 by_cases t:F=0
 ·subst t
  rw[if_neg (by decide)]at O
  by_cases s:G=0
  ·subst s
   subst O
   have a7:bJ k=0:=HF.symm
   have c2:=Hp (fun W(hb:Below w.heap.size w W)=>show Calls Tryz.prog 82 #[.agg #[.int .i64 k.major,.int .i64 k.minor,.slice k.eA k.ex.length k.eC,.slice none 0 0]] W fun e w'=>(∃k' A' l' c',e=.returned (rgV k' A' l' c')/\k'.bare=k.bare/\aD l'=aD []/\jS w' W.heap.size k' A' l' c')/\Below W.heap.size W w' from
    U8 k none 0 [] W (HK.below hb) ⟨Row.nil,Nat.zero_le _,by simp⟩ (by simp) (by simp) (EC a7))
   have e9:=Hp a7
   clear a7
   go_enter Tryz.func20,Tryz.ntmps20
   go_wp2_with fail
   refine(c1.out).mono ?_;rintro e w3 ⟨rfl,o⟩
   have q:=Hp o
   have c6:=(o.block _ (ZL L.out)).trans L.out
   have f0:=heap_cell ((o.block _ (ZL M.out)).trans M.out) 0
   simp only[GZ2,GZ0]at f0
   have d4:=Hp c6
   clear o c6 k0 k1 k2 c1
   go_wp2_with fail
   refine(cO.out _ (n.trans (q.mono n.size))).mono ?_;rintro e w4 ⟨r,oA,oC,R',he,T,e1⟩;subst R';subst he
   have N:=Hp (q.trans (r.mono q.size))
   have d3:=Hp (T.more (b':=u.heap.size) q.size)
   have a1:=(r.block _ (ZL d4.out)).trans d4.out
   have k0:=heap_cell a1 0
   have k1:=heap_cell a1 1
   have k2:=heap_cell a1 2
   simp only[GZ2,GZ0,GZ1]at k0 k1 k2
   clear r T a1 f0 cO
   go_wp2_with fail
   refine(c2.out _ (n.trans (N.mono n.size))).mono ?_;rintro e w5 ⟨⟨k5,A5,l5,c5,rfl,b9,b6,p⟩,V⟩
   obtain⟨w6,Q⟩:=Nm (w5.alloc (.cells #[.int .i64 k5.major,.int .i64 k5.minor,.slice k5.eA k5.ex.length k5.eC,.slice A5 l5.length c5] 126))
   have a9:Below w5.heap.size w5 w6:=Q▸ZB
   have I:=V.trans (a9.mono V.size)
   have S:=N.size
   have d8:=V.size
   have a4:=Hp (show kT w6 u.heap.size w5.heap.size k (reL k (R.take 0)) from⟨k5,A5,l5,c5,⟨by rw[Q];exact heap_alloc_new w5 _,(by have:=p.below a9;exact⟨RH this.ex S,this.mods.le S⟩),by omega⟩,b9,b6⟩)
   have e4:=Hp (show dA w6 u.heap.size (.slice oA R.length oC) R from d3.below I (GZ3 _))
   have f3:=Hp (N.trans (I.mono S))
   obtain⟨bp,U⟩:=Nm w5.heap.size
   have f9:=Hp U
   rw[<-U]at a4
   have b2:=Q.symm
   clear Q V a9 I S d8 p b9 b6 d3 c2 k0 k1 k2
   go_wp2_with fail
   try rw[b2]
   try rw[<-U]
   clear U
   go_loopw [36] (fun i wr=>∃j:Nat,i=.int .i64 j/\j<=R.length/\kT wr u.heap.size bp k (reL k (R.take j))/\dA wr u.heap.size (.slice oA R.length oC) R/\Below u.heap.size u wr) (fun i _=>R.length -(intOf i).toNat)
   case atStart=>exact⟨0,rfl,Nat.zero_le _,a4.out,e4.out,f3.out⟩
   case round=>
    obtain⟨j,rfl,hj,hI,hO,hb⟩:=hrel
    have HI:=Hp hI
    have HO:=Hp hO
    have HB:=Hp hb
    clear hI hO hb
    by_cases y:j<R.length
    ·have f7:(j:Int)<R.length:=by omega
     obtain⟨g,rfl,hg,f8,s0,_⟩:=HO.at_ rfl j y
     have a2:=Hp (G9 (k:=k) y)
     have a5:=HS.out _ (GZ9 y)
     rw[show R.getD j ⟨#[]⟩=R[j]'y by rw[List.getD_eq_getElem?_getD,GY5 y];rfl]at s0
     obtain⟨s,hs⟩:=Nm (R[j]'y)
     rw[<-hs]at s0 a2 a5
     have e0:s=sof (bytesOf s):=(iJ s).symm
     have cD:=Hp (fun W=>show Calls Tryz.prog 62 #[.string s] W _ from by
      have:=nQ (bytesOf s) W (by rw[rD,<-e0];exact a5)
      rw[<-e0]at this
      exact this)
     obtain⟨D,hD⟩:=Nm (aS (bytesOf s))
     have d5:=Hp (fun h=>uM (l:=bytesOf s) h)
     rw[<-hD]at cD a2 d5
     clear hs e0 hD a5
     go_upto_region 12 with(go_at_call 62;refine(cD.out _).mono ?_;rintro e w7 ⟨⟨m,rfl,b4,p,H⟩,c4⟩;have d1:=Hp b4;have c8:=Hp H;have d7:=Hp c4;clear b4 p H c4)
     obtain⟨w8,P⟩:=Nm (w7.alloc (.cells (cmA ⟨D.2.kind,m,D.2.nm⟩) 102))
     have a8:Below w7.heap.size w7 w8:=P▸ZB
     obtain⟨p0,p1,p2,p3,p4,p5,p6,p7,p8⟩:=dJ (W:=w8) (b:=w7.heap.size) (c:=⟨D.2.kind,m,D.2.nm⟩) (by rw[P];exact heap_alloc_new w7 _)
     have x:=d7.trans (a8.mono d7.size)
     have a3:=Hp (HI.kp (Kp.of_below (ts:=[]) x) (by simp) (by simp) (by simp) (by simp) (by simp))
     have d2:=Hp (show dA w8 u.heap.size (.slice (some ⟨g,0,none⟩) R.length oC) R from HO.below x (GZ3 _))
     have d6:=Hp (HB.trans (x.mono HB.size))
     have e6:=Hp (d1.below a8)
     rw[<-P]
     clear P a8 x s0
     by_cases d:D.1=0
     ·have c0:RL ⟨D.2.kind,m,D.2.nm⟩=0:=by
       rw[<-d5.out d]
       exact Sr (show Cm.bare _=Cm.bare _ by unfold Cm.bare;simp only[iL c8.out])
      have c3:=Hp (a3.do_ ⟨D.2.kind,m,D.2.nm⟩ (oO e9.out _) e6.out (GY1 (JL c0) (by unfold big;omega)))
      have e5:=Hp (show aD (doL k (reL k (R.take j)) ⟨D.2.kind,m,D.2.nm⟩)=aD (reL k (R.take (j+1))) by
       rw[a2.out,if_pos d]
       exact Su rfl rfl (show Cm.bare _=Cm.bare _ by unfold Cm.bare;simp only[iL c8.out]))
      have d':(D.1==0)=true:=by simp[d]
      clear c0 d
      go_wp2_with fail
      refine(c3.out).mono ?_;rintro e w9 ⟨rfl,b3,b5,b7⟩
      have b0:=Hp (b3.like e5)
      have e3:=Hp (show dA w9 u.heap.size (.slice (some ⟨g,0,none⟩) R.length oC) R from own_kp d2.out b7 (by decide))
      have f2:=Hp (d6.trans ((b5.below (GY2 a3.lt.2)).mono a3.lt.1))
      clear b3 b5 b7 c3 p0 p1 p2 p3 p4 p5 p6 p7 p8
      go_wp2_with fail
      go_roundw
      case rel=>exact⟨j+1,by go_num,by omega,b0.out,e3.out,f2.out⟩
      case measure=>(simp[intOf];try omega)
     ·have d':(D.1==0)=false:=by simp[d]
      have b0:=Hp (show kT w8 u.heap.size bp k (reL k (R.take (j+1))) by rw[a2.out,if_neg d];exact a3.out)
      clear d p0 p1 p2 p3 p4 p5 p6 p7 p8
      go_wp2_with fail
      go_roundw
      case rel=>exact⟨j+1,by go_num,by omega,b0.out,d2.out,d6.out⟩
      case measure=>(simp[intOf];try omega)
    ·obtain rfl:j=R.length:=by omega
     obtain⟨k7,A7,l7,c7,a0,b8,a6⟩:=HI.out
     rw[List.take_of_length_le (GZ3 _)]at a6
     have c9:=Hp a0
     have e8:=Hp b8
     have e7:=Hp a6
     have f1:=Hp (n.trans (HB.mono n.size))
     have n3:bp≠w.heap.size+2:=by have:=a0.low;have:=e2.out;omega
     obtain⟨_,q0,q1,q2,q3,_⟩:=aB a0.heap
     obtain⟨b1,r0,r1,r2,r3,g0,g1,g2,g3⟩:=aB ((HB.block (w.heap.size+2) (ZL z.out)).trans z.out)
     clear a0 b8 a6
     go_wp2_with fail
     obtain⟨hg,ho⟩:=gY b1.out (.int .i64 k7.major) (.int .i64 k7.minor) (.slice k7.eA k7.ex.length k7.eC) (.slice A7 l7.length c7)
     refine bodyPost_ret (results_cell_tmp rfl _ _ (w.heap.size+2) 39 _ (0,0) _ rfl hg Tryz.underlying39 rfl Tryz.RP) rfl ?_
     have d9:=ho.kp b1.out (ts:=[39]) (by simp)
     have p:=c9.own.kp d9 (by decide) (by decide) (by decide) (by decide)
     exact⟨⟨k7,A7,l7,c7,rfl,⟨⟨RH p.ex n.size,p.mods.le n.size⟩,e8.out,e7.out⟩⟩,f1.trans ((ho.below (GY2 (ZL b1.out))).mono (by omega))⟩
  ·have J:E≠0:=by rw[O];exact s
   have s1:(G != 0)=true:=by simp[s]
   have HE:=Hp J
   subst O
   clear s J
   go_enter Tryz.func20,Tryz.ntmps20
   go_wp2_with fail
   refine(c1.out).mono ?_;rintro e w3 ⟨rfl,o⟩
   have q:=Hp o
   have K:=Hp ((o.block _ (ZL z)).trans z)
   have f0:=heap_cell ((o.block _ (ZL M.out)).trans M.out) 0
   simp only[GZ2,GZ0]at f0
   clear o k0 k1 k2 c1
   go_wp2_with fail
   refine(cO.out _ (n.trans (q.mono n.size))).mono ?_;rintro e w4 ⟨r,oA,oC,R',he,T,e1⟩;subst R';subst he
   have N:=Hp (n.trans ((q.trans (r.mono q.size)).mono n.size))
   obtain⟨d0,r0,r1,r2,r3,g0,g1,g2,g3⟩:=aB ((r.block _ (ZL K.out)).trans K.out)
   clear r T cO
   go_wp2_with fail
   obtain⟨hg,ho⟩:=gY d0.out (.int .i64 0) (.int .i64 0) (.slice none 0 0) (.slice none 0 0)
   refine bodyPost_ret (results_cell_tmp rfl _ _ (w.heap.size+2) 39 _ (0,0) _ rfl hg Tryz.underlying39 rfl Tryz.RP) rfl ?_
   exact⟨⟨Rk,none,[],0,rfl,oI _ _ HE.out _ _⟩,N.trans ((ho.below (GY2 (ZL d0.out))).mono (by omega))⟩
 ·rw[if_pos t]at O
  have J:E≠0:=by rw[O];exact t
  have s1:(F != 0)=true:=by simp[t]
  have HE:=Hp J
  subst O
  clear t J
  go_enter Tryz.func20,Tryz.ntmps20
  go_wp2_with fail
  refine(c1.out).mono ?_;rintro e w3 ⟨rfl,o⟩
  have q:=Hp (n.trans (o.mono n.size))
  obtain⟨K,r0,r1,r2,r3,g0,g1,g2,g3⟩:=aB ((o.block _ (ZL z.out)).trans z.out)
  clear o k0 k1 k2 f0 c1
  go_wp2_with fail
  obtain⟨hg,ho⟩:=gY K.out (.int .i64 0) (.int .i64 0) (.slice none 0 0) (.slice none 0 0)
  refine bodyPost_ret (results_cell_tmp rfl _ _ (w.heap.size+2) 39 _ (0,0) _ rfl hg Tryz.underlying39 rfl Tryz.RP) rfl ?_
  exact⟨⟨Rk,none,[],0,rfl,oI _ _ HE.out _ _⟩,q.trans ((ho.below (GY2 (ZL K.out))).mono (by omega))⟩
end
section
open Go
open Gs (Tx)
abbrev jY (c:Cm):ByteArray:=ofBytes (aG c)
theorem qR (c:Cm):(jY c).size=(aG c).length:=by show(aG c).toArray.size=_;simp
def RD (k:Krn):List Plc->List ByteArray->List Cm->List ByteArray×List Int×Int
 |_,F,[]=>(F,[],0)
 |l,F,c::r=>
  if doE k l c≠0 then((RD k (doL k l c) F r).1,doE k l c::(RD k (doL k l c) F r).2.1,(RD k (doL k l c) F r).2.2)
  else if dF F (aG c).length≠0 then(F,[],dF F (aG c).length)
  else((RD k (doL k l c) (bT F (aW F (aG c))) r).1,0::(RD k (doL k l c) (bT F (aW F (aG c))) r).2.1,(RD k (doL k l c) (bT F (aW F (aG c))) r).2.2)
theorem lU {k:Krn}{l:List Plc}{F:List ByteArray}{c:Cm}{r:List Cm}(a:doE k l c≠0):RD k l F (c::r)=((RD k (doL k l c) F r).1,doE k l c::(RD k (doL k l c) F r).2.1,(RD k (doL k l c) F r).2.2):=by
 conv=>lhs;unfold RD
 rw[if_pos a]
theorem mQ {k:Krn}{l:List Plc}{F:List ByteArray}{c:Cm}{r:List Cm}(b:doE k l c=0)(a:dF F (aG c).length≠0):RD k l F (c::r)=(F,[],dF F (aG c).length):=by
 conv=>lhs;unfold RD
 rw[if_neg (by omega),if_pos a]
theorem Sy {k:Krn}{l:List Plc}{F:List ByteArray}{c:Cm}{r:List Cm}(b:doE k l c=0)(a:dF F (aG c).length=0):RD k l F (c::r)=((RD k (doL k l c) (bT F (aW F (aG c))) r).1,0::(RD k (doL k l c) (bT F (aW F (aG c))) r).2.1,(RD k (doL k l c) (bT F (aW F (aG c))) r).2.2):=by
 conv=>lhs;unfold RD
 rw[if_neg (by omega),if_neg (by omega)]
def SG :List Cm->List Int->List ByteArray
 |c::r,n::a=>if n=0 then jY c::SG r a else SG r a
 |_,_=>[]
theorem CF (l:List Cm):SG l []=[]:=by cases l<;>rfl
structure BG (k:Krn)(l:List Plc)(F0:List ByteArray)(R:List ByteArray)(cs:List Cm)(p:List ByteArray×List Int×Int):Prop where
 errs:p.2.1=(eD k l cs).take p.2.1.length
 len:p.2.1.length<=cs.length
 all:p.2.1.length=cs.length->p.2.2=0
 stop:p.2.1.length<cs.length->p.2.2=8/\(eD k l cs)[p.2.1.length]? =some 0
 inv:∃D q e,JInv F0 p.1 (R++SG cs p.2.1) D q e
theorem uD {k:Krn}{j:List ByteArray}:∀(a:List Cm){l:List Plc}{F R:List ByteArray}{D:List Ded}{q e:Nat},JInv j F R D q e->BG k l j R a (RD k l F a)
 | [],l,F,R,D,q,e,h=>⟨rfl,GZ3 _,fun _=>rfl,fun h=>absurd h (by simp[RD]),D,q,e,by simp[RD,SG];exact h⟩
 |c::a,l,F,R,D,q,e,h=>by
  by_cases f:doE k l c=0
  ·have y:=BO f
   obtain⟨z,v⟩:=kZ y
   have w:=qR c
   by_cases o:dF F (aG c).length=0
   ·rw[Sy f o]
    have u:=h.next (s:=jY c) (by rw[w];exact o)
    rw[show bytesOf (jY c)=aG c from iZ _]at u
    have b:=uD (k:=k) a (l:=doL k l c) u
    refine⟨?_,?_,?_,?_,?_⟩
    ·show(0:Int)::_=(doE k l c::eD k (doL k l c) a).take (_+1)
     rw[List.take_succ_cons,f,<-b.errs]
    ·exact Nat.succ_le_succ b.len
    ·intro d;exact b.all (Nat.succ.inj d)
    ·intro d
     obtain⟨r,p⟩:=b.stop (Nat.lt_of_succ_lt_succ d)
     exact⟨r,by show(doE k l c::eD k (doL k l c) a)[_+1]? =_;rw[GZ1];exact p⟩
    ·obtain⟨m,g,i,t⟩:=b.inv
     refine⟨m,g,i,?_⟩
     show JInv j _ (R++SG (c::a) (0::_)) m g i
     unfold SG
     rw[if_pos rfl]
     have:=t
     rw[List.append_assoc]at this
     exact this
   ·rw[mQ f o]
    have x:=h.err (n:=(aG c).length) o (by omega) v
    refine⟨rfl,Nat.zero_le _,fun d=>absurd d (by simp),fun _=>⟨x.1,?_⟩,D,q,e,?_⟩
    ·show(doE k l c::eD k (doL k l c) a)[0]? =_
     rw[GZ0,f]
    ·show JInv j F (R++SG (c::a) []) D q e
     rw[CF,List.append_nil];exact h
  ·rw[lU f]
   have b:=uD (k:=k) a (l:=doL k l c) h
   refine⟨?_,?_,?_,?_,?_⟩
   ·show doE k l c::_=(doE k l c::eD k (doL k l c) a).take (_+1)
    rw[List.take_succ_cons,<-b.errs]
   ·exact Nat.succ_le_succ b.len
   ·intro d;exact b.all (Nat.succ.inj d)
   ·intro d
    obtain⟨r,p⟩:=b.stop (Nat.lt_of_succ_lt_succ d)
    exact⟨r,by show(doE k l c::eD k (doL k l c) a)[_+1]? =_;rw[GZ1];exact p⟩
   ·obtain⟨m,g,i,t⟩:=b.inv
    refine⟨m,g,i,?_⟩
    show JInv j _ (R++SG (c::a) (doE k l c::_)) m g i
    unfold SG
    rw[if_neg f]
    exact t
theorem mX {k:Krn}:∀(b:List Cm)(a:List Int)(l:List Plc),a=eD k l b->Rl k l (gD ((SG b a).map bytesOf))=Rl k l (gD ((SG b a).map bytesOf))/\aD (Rl k l (gD ((SG b a).map bytesOf)))=aD (Rl k l b)
 | [],a,l,h=>by subst h;exact⟨rfl,rfl⟩
 |c::b,a,l,h=>by
  subst h
  refine⟨rfl,?_⟩
  show aD (Rl k l (gD ((SG (c::b) (doE k l c::eD k (doL k l c) b)).map bytesOf)))=aD (Rl k (doL k l c) b)
  unfold SG
  by_cases d:doE k l c=0
  ·rw[if_pos d,List.map_cons,show bytesOf (jY c)=aG c from iZ _]
   obtain⟨j,i⟩:=GG (BO d)
   unfold gD
   rw[if_pos j]
   have g:aD (doL k l (aS (aG c)).2)=aD (doL k l c):=Su rfl rfl i
   have f:=(Bf (k:=k) (k':=k) rfl (a:=gD ((SG b (eD k (doL k l c) b)).map bytesOf)) (a':=gD ((SG b (eD k (doL k l c) b)).map bytesOf)) g rfl).1
   show aD (Rl k (doL k l (aS (aG c)).2) _)=_
   rw[f]
   exact(mX (k:=k) b _ (doL k l c) rfl).2
  ·rw[if_neg d]
   have e:doL k l c=l:=by unfold doL;rw[if_pos d]
   have:=(mX (k:=k) b _ (doL k l c) rfl).2
   rw[e]at this ⊢
   exact this
theorem rF (k:Krn):∀(a b:List Cm)(l:List Plc)(F:List ByteArray),(RD k l F a).2.2=0->
  RD k l F (a++b)=((RD k (Rl k l a) (RD k l F a).1 b).1,(RD k l F a).2.1++(RD k (Rl k l a) (RD k l F a).1 b).2.1,(RD k (Rl k l a) (RD k l F a).1 b).2.2)
 | [],b,l,F,_=>rfl
 |c::a,b,l,F,h=>by
  rw[List.cons_append]
  by_cases d:doE k l c=0
  ·by_cases e:dF F (aG c).length=0
   ·rw[Sy d e]at h ⊢
    rw[Sy d e,rF k a b (doL k l c) (bT F (aW F (aG c))) h];rfl
   ·rw[mQ d e]at h
    exact absurd h e
  ·rw[lU d]at h ⊢
   rw[lU d,rF k a b (doL k l c) F h];rfl
theorem Um (k:Krn):∀(a b:List Cm)(l:List Plc)(F:List ByteArray),(RD k l F a).2.2≠0->RD k l F (a++b)=RD k l F a
 | [],b,l,F,h=>absurd rfl h
 |c::a,b,l,F,h=>by
  rw[List.cons_append]
  by_cases d:doE k l c=0
  ·by_cases e:dF F (aG c).length=0
   ·rw[Sy d e]at h ⊢
    rw[Sy d e,Um k a b (doL k l c) (bT F (aW F (aG c))) h]
   ·rw[mQ d e,mQ d e]
  ·rw[lU d]at h ⊢
   rw[lU d,Um k a b (doL k l c) F h]
theorem OA (k:Krn)(c:Cm)(l:List Plc)(F:List ByteArray):RD k l F [c]=if doE k l c≠0 then(F,[doE k l c],0)else if dF F (aG c).length≠0 then(F,[],dF F (aG c).length)else(bT F (aW F (aG c)),[0],0):=rfl
theorem FI {k:Krn}:∀(a:List Cm){l:List Plc}{F:List ByteArray},bP F=0->bP (RD k l F a).1=0
 | [],_,_,h=>h
 |c::a,l,F,h=>by
  by_cases d:doE k l c=0
  ·by_cases b:dF F (aG c).length=0
   ·rw[Sy d b];exact FI a (TT b).1
   ·rw[mQ d b];exact h
  ·rw[lU d];exact FI a h
theorem BS {k:Krn}:∀(a:List Cm){l:List Plc}{F:List ByteArray},(RD k l F a).2.1.length<=a.length
 | [],_,_=>GZ3 _
 |c::a,l,F=>by
  by_cases b:doE k l c=0
  ·by_cases d:dF F (aG c).length=0
   ·rw[Sy b d];exact Nat.succ_le_succ (BS a)
   ·rw[mQ b d];exact Nat.zero_le _
  ·rw[lU b];exact Nat.succ_le_succ (BS a)
theorem LX {k:Krn}{l:List Plc}{F:List ByteArray}{a:List Cm}{j:Nat}(h:j<a.length)(d:(RD k l F (a.take j)).2.2=0):
  RD k l F (a.take (j+1))=if doE k (Rl k l (a.take j)) a[j]≠0 then((RD k l F (a.take j)).1,(RD k l F (a.take j)).2.1++[doE k (Rl k l (a.take j)) a[j]],0)
   else if dF (RD k l F (a.take j)).1 (aG a[j]).length≠0 then((RD k l F (a.take j)).1,(RD k l F (a.take j)).2.1,dF (RD k l F (a.take j)).1 (aG a[j]).length)
   else(bT (RD k l F (a.take j)).1 (aW (RD k l F (a.take j)).1 (aG a[j])),(RD k l F (a.take j)).2.1++[0],0):=by
 rw[<-List.take_append_getElem h,rF k _ _ _ _ d,OA]
 generalize doE k (Rl k l (a.take j)) a[j]=E
 generalize dF (RD k l F (a.take j)).1 (aG a[j]).length=B
 by_cases c:E=0<;>by_cases b:B=0<;>simp[c,b]
theorem zX {k:Krn}{l:List Plc}{F:List ByteArray}{a:List Cm}{j:Nat}(b:(RD k l F (a.take j)).2.2≠0):RD k l F a=RD k l F (a.take j):=by
 have:=Um k (a.take j) (a.drop j) l F b
 rwa [List.take_append_drop]at this
end
section
open Go
open Go.RowKit Go.Lib
open Gs (Tx)
def fD (k:Krn)(F:List ByteArray)(a:List Cm):List ByteArray×List Int×Int:=
 if 40<a.length then([],[],2)else if S9 k F≠0 then([],[],S9 k F)else RD k (reL k (bQ F)) F a
def VY (w:World)(P:List ByteArray×List Int×Int)(e:Ending)(a:World):Prop:=
 (∃(b:Fl)(d:Option Addr)(c:Nat),e=.returned (.tuple #[b.v,.slice d P.2.1.length c,.int .i64 P.2.2])/\Rt a w.heap.size b P.1/\dN a w.heap.size (.slice d P.2.1.length c) P.2.1)/\Below w.heap.size w a
theorem Di {w a:World}{E:Int}(b:Below w.heap.size w a):VY w ([],[],E) (.returned (.tuple #[.agg #[.slice none 0 0],.slice none 0 0,.int .i64 E])) a:=
 ⟨⟨F5,none,0,rfl,⟨dA.nil _ _,Nat.zero_le _,rfl⟩,dN.nil _ _⟩,b⟩
structure Ka (w2:World)(b2 bp bo bx ba be:Nat)(k:Krn)(l:List Plc)(F:List ByteArray)(cs:List Cm)(j:Nat)(W:World):Prop where
 bel:Below w2.heap.size w2 W
 x:Boxed W bx 124 (.pointer (some ⟨bp,0,none⟩))
 run:kT W w2.heap.size bp k (Rl k l (cs.take j))
 errs:Un W b2 bo (RD k l F (cs.take j)).2.1
 fl:FlB W w2.heap.size ba (RD k l F (cs.take j)).1
 e:Boxed W be 30 (.int .i64 0)
 zero:(RD k l F (cs.take j)).2.2=0
 size:b2<=W.heap.size
structure KP (w2:World)(b2 bo ba be:Nat)(P:List ByteArray×List Int×Int)(W:World):Prop where
 bel:Below w2.heap.size w2 W
 errs:Un W b2 bo P.2.1
 fl:FlB W w2.heap.size ba P.1
 e:Boxed W be 30 (.int .i64 P.2.2)
theorem OC (k:Krn)(f:Fl)(cA:Option Addr)(h:List Cm)(cc:Nat)(w:World)(hk:k.ok w)(hf:f.ok w)(hs:∀s∈bQ f.bl,s.size<=big)(hn:(bQ f.bl).length<=big)(hc:nE w cA h):
  Calls Tryz.prog 18 #[k.v,f.v,.slice cA h.length cc] w (VY w (fD k f.bl h)):=by
 obtain⟨w0,a0⟩:=Nm (w.alloc (.cells #[.int .i64 k.major,.int .i64 k.minor,.slice k.eA k.ex.length k.eC] 24))
 obtain⟨w1,Z⟩:=Nm (w0.alloc (.cells #[.slice f.a f.bl.length f.c] 29))
 obtain⟨N,Y⟩:=Nm (w1.alloc (.cells #[.slice none 0 0] 29))
 have b1:Below w.heap.size w w0:=a0▸ZB
 have b0:Below w0.heap.size w0 w1:=Z▸ZB
 have a9:Below w1.heap.size w1 N:=Y▸ZB
 have z0:w0.heap.size=w.heap.size+1:=by rw[a0];simp
 have z1:w1.heap.size=w.heap.size+2:=by rw[Z];simp;omega
 have z2:N.heap.size=w.heap.size+3:=by rw[Y];simp;omega
 have c5:=Hp ((a9.block w.heap.size (by omega)).trans ((b0.block _ (by omega)).trans (show w0.heap[w.heap.size]? =some (.cells #[.int .i64 k.major,.int .i64 k.minor,.slice k.eA k.ex.length k.eC] 24 (0,0)) by rw[a0];exact heap_alloc_new w _)))
 have c6:=Hp ((a9.block _ (by omega)).trans (show w1.heap[w.heap.size+1]? =some (.cells #[.slice f.a f.bl.length f.c] 29 (0,0)) by rw[Z,<-z0];exact heap_alloc_new w0 _))
 have J:=Hp (show N.heap[w.heap.size+2]? =some (.cells #[.slice none 0 0] 29 (0,0)) by rw[Y,<-z1];exact heap_alloc_new w1 _)
 have g:=Hp (b1.trans ((b0.mono b1.size).trans (a9.mono (GY1 b1.size b0.size))))
 have b2:=Hp z2
 have cR:=Hp (Ay k f N (hk.below g.out) (hf.below g.out) hs hn)
 have HC:=Hp hc
 have g0:=Hp hf
 have d5:=hc.len
 unfold big at d5
 obtain⟨P,hP⟩:=Nm (fD k f.bl h)
 rw[<-hP]
 have HP:=Hp hP
 obtain⟨G,hG⟩:=Nm (S9 k f.bl)
 have HG:=Hp hG
 obtain⟨I,c3⟩:=Nm (reL k (bQ f.bl))
 have e4:=Hp c3
 rw[<-hG,<-c3]at cR
 have k0:=heap_cell c5.out 0
 have k1:=heap_cell c5.out 1
 have k2:=heap_cell c5.out 2
 have f0:=heap_cell c6.out 0
 simp only[GZ2,GZ0,GZ1]at k0 k1 k2 f0
 have g5:=a0.symm
 have g4:=Z.symm
 have K:=Hp Y.symm
 clear a0 Z Y b1 b0 a9 z2 hk hf hs hn hc hP hG c3
 by_cases t4:40<h.length
 ·have R:=Hp (show P=([],[],2) by rw[HP.out];unfold fD;rw[if_pos t4])
  have e9:decide ((40:Int)<(h.length:Int))=true:=decide_eq_true (by omega)
  clear t4 HP cR
  go_enter Tryz.func18,Tryz.ntmps18
  go_upto_region 1 with fail
  rw[K.out]
  clear K
  have r0:=heap_cell J.out 0
  have rf:=heap_free J.out 0
  simp only[GZ2,GZ0]at r0
  go_wp2_with fail
  refine rP rfl rfl J.out ?_
  rw[R.out]
  exact Di (g.setCell (p:=⟨w.heap.size+2,0,none⟩) (Nat.le_add_right _ 2) _)
 ·have e9:decide ((40:Int)<(h.length:Int))=false:=GY7 (by omega)
  have g3:=Hp t4
  go_enter Tryz.func18,Tryz.ntmps18
  go_upto_region 1 with fail
  rw[K.out]
  clear K
  go_wp2_with fail
  refine(cR.out).mono ?_;rintro e t ⟨⟨A,A',l',c',rfl,b6⟩,a2⟩
  obtain⟨w4,C⟩:=Nm (t.alloc (.cells #[.int .i64 A.major,.int .i64 A.minor,.slice A.eA A.ex.length A.eC,.slice A' l'.length c'] 39))
  obtain⟨n,B⟩:=Nm (w4.alloc (.cells #[.int .i64 G] 30))
  have a8:Below t.heap.size t w4:=C▸ZB
  have a7:Below w4.heap.size w4 n:=B▸ZB
  have z4:w4.heap.size=t.heap.size+1:=by rw[C];simp
  have z5:n.heap.size=t.heap.size+2:=by rw[B];simp;omega
  have L:=a8.trans (a7.mono a8.size)
  have o:=a2.trans (L.mono a2.size)
  have f8:=Hp ((a7.block _ (by omega)).trans (show w4.heap[t.heap.size]? =some (.cells #[.int .i64 A.major,.int .i64 A.minor,.slice A.eA A.ex.length A.eC,.slice A' l'.length c'] 39 (0,0)) by rw[C];exact heap_alloc_new t _))
  have e7:=Hp (show Boxed n (t.heap.size+1) 30 (.int .i64 G) by rw[<-z4];exact B▸Boxed.new _ _ _)
  have d0:=Hp o
  have c4:=Hp ((o.block _ (ZL J)).trans J)
  have e6:=Hp ((o.block _ (ZL c6)).trans c6)
  have e1:=Hp a2.size
  have f4:=Hp z5
  have e5:=e7.cell
  by_cases s:G=0
  ·subst s
   have m:=b6
   rw[wK0,wL0]at m
   have c2:=m.own.below L
   have g6:=Hp c2
   have g8:=Hp m.RU
   have g7:=Hp m.mods
   obtain⟨w6,X⟩:=Nm (n.alloc (.cells #[.int .i64 A.major,.int .i64 A.minor,.slice A.eA A.ex.length A.eC,.slice A' l'.length c'] 126))
   obtain⟨w7,V⟩:=Nm (w6.alloc (.cells #[.pointer (some ⟨n.heap.size,0,none⟩)] 124))
   have c1:Below n.heap.size n w6:=X▸ZB
   have c0:Below w6.heap.size w6 w7:=V▸ZB
   have z6:w6.heap.size=n.heap.size+1:=by rw[X];simp
   have z7:w7.heap.size=n.heap.size+2:=by rw[V];simp;omega
   have z:=c1.trans (c0.mono c1.size)
   have c9:=Hp (d0.trans (z.mono d0.size))
   have e2:=Hp (show kT w7 N.heap.size n.heap.size k I from⟨A,A',l',c',⟨(c0.block _ (by omega)).trans (by rw[X];exact heap_alloc_new n _),c2.below z,d0.size⟩,m.RU,m.mods⟩)
   have f5:=Hp (show Boxed w7 (n.heap.size+1) 124 (.pointer (some ⟨n.heap.size,0,none⟩)) by rw[<-z6];exact V▸Boxed.new _ _ _)
   have g2:=Hp (dX e7.out z (by omega))
   have f7:=heap_cell ((z.block _ (ZL e6.out)).trans e6.out) 0
   simp only[GZ2,GZ0]at f7
   obtain⟨_,q0,q1,q2,q3,_⟩:=aB f8.out
   have q:S9 k f.bl=0:=HG.symm
   have a1:bJ k=0:=by
    unfold S9 at q
    by_cases e:bJ k=0
    ·exact e
    ·rw[if_pos e]at q;exact q
   have b8:bP f.bl=0:=by
    unfold S9 at q
    rw[if_neg (by omega)]at q
    unfold gZ at q
    by_cases e:bP f.bl=0
    ·exact e
    ·rw[if_neg e]at q;exact q
   have g1:=Hp b8
   have e3:=Hp (show aZ k I=0 by rw[e4.out];exact oO a1 _)
   have R:=Hp (show P=RD k I f.bl h by rw[HP.out,e4.out];unfold fD;rw[if_neg t4,if_neg (by omega)])
   have d9:=Hp (show Calls Tryz.prog 77 #[.agg #[.slice f.a f.bl.length f.c],.slice none 0 0] w7 _ from Gg f none 0 [] w7 (g0.below (g.trans (c9.mono g.size))) b8 (by simp) ⟨Row.nil,Nat.zero_le _⟩)
   have f3:=Hp z7
   go_upto_region 4 with fail
   rw[<-C,<-B]
   have d3:=X.symm
   have d2:=V.symm
   clear C B X V a2 a8 a7 c1 c0 L o z z4 z5 z7 b6 m c2 q a1 b8 t4
   go_wp2_with fail
   refine(d9.out).mono ?_;rintro e i ⟨a6,A8,c8,rfl,d7,d4⟩
   obtain⟨w9,U⟩:=Nm (i.alloc (.cells #[.slice A8 f.bl.length c8] 29))
   obtain⟨T,y⟩:=Nm (w9.alloc (.cells #[.slice none 0 0] 34))
   have b9:Below i.heap.size i w9:=U▸ZB
   have a4:Below w9.heap.size w9 T:=y▸ZB
   have z9:w9.heap.size=i.heap.size+1:=by rw[U];simp
   have e8:T.heap.size=i.heap.size+2:=by rw[y];simp;omega
   have D:=b9.trans (a4.mono b9.size)
   have E:=a6.trans (D.mono a6.size)
   have h2:=c9.size
   have h7:=f3.out
   have h5:=f4.out
   have h3:=e1.out
   have h8:=a6.size
   have r:Kp [] w7 T:=Kp.of_below E
   have b4:=Hp (show Ka N (i.heap.size+2) n.heap.size (i.heap.size+1) (n.heap.size+1) i.heap.size (t.heap.size+1) k I f.bl h 0 T from
    ⟨c9.out.trans (E.mono h2),box_kp f5.out r (by simp),e2.out.kp r (by simp) (by simp) (by simp) (by simp) (by simp),⟨.slice none 0 0,(by rw[<-z9];exact y▸Boxed.new _ _ _),dN.nil _ _⟩,
     ⟨⟨f.bl,A8,c8⟩,(a4.block _ (by omega)).trans (by rw[U];exact heap_alloc_new i _),⟨(d4.below D (GZ3 _)).more (by omega),d7,rfl⟩⟩,box_kp g2.out r (by simp),rfl,by omega⟩)
   have S:=Hp (show N.heap.size<=i.heap.size+1/\N.heap.size<=i.heap.size/\N.heap.size<=t.heap.size+1 from⟨by omega,by omega,by omega⟩)
   have f6:=Hp (show t.heap.size+1<i.heap.size+2 by omega)
   have cE:=Hp (DN cA cc h 79 #[.pointer (some ⟨n.heap.size+1,0,none⟩),.pointer (some ⟨i.heap.size,0,none⟩),.pointer (some ⟨t.heap.size+1,0,none⟩),.pointer (some ⟨i.heap.size+1,0,none⟩)] (Ka N (i.heap.size+2) n.heap.size (i.heap.size+1) (n.heap.size+1) i.heap.size (t.heap.size+1) k I f.bl h) (KP N (i.heap.size+2) (i.heap.size+1) i.heap.size (t.heap.size+1) P) T (enters_of Tryz.func79 (by kernel_rfl) rfl) HC.len
    (fun j W b=>(HC.below (g.trans (b.bel.mono g.size))).row)
    (fun j W W' b Q=>⟨b.bel.trans (Q.mono b.bel.size),box_kp b.x (Kp.of_below (ts:=[]) Q) (by simp),b.run.kp (Kp.of_below (ts:=[]) Q) (by simp) (by simp) (by simp) (by simp) (by simp),b.errs.kp (Kp.of_below (ts:=[]) Q) (by simp) (by simp),b.fl.kp (Kp.of_below (ts:=[]) Q) (by simp) (by simp),box_kp b.e (Kp.of_below (ts:=[]) Q) (by simp),b.zero,GY1 b.size Q.size⟩)
    (fun j hj W b=>by
     have O:=LX hj b.zero
     refine(L9 N.heap.size (i.heap.size+2) n.heap.size (i.heap.size+1) (n.heap.size+1) i.heap.size (t.heap.size+1) k (Rl k I (h.take j)) (RD k I f.bl (h.take j)).2.1 (RD k I f.bl (h.take j)).1 h[j] W b.run (lG _ e3.out) b.errs b.x b.fl (FI _ g1.out) b.e
      (fun W' Q=>((HC.below (g.trans ((b.bel.trans Q).mono g.size))).each _ (GZ9 hj)).1) (HC.each _ (GZ9 hj)).2 (by have:=BS (k:=k) (h.take j) (l:=I) (F:=f.bl);rw[GY6]at this;have:=g3.out;omega) S.out f6.out (GY1 S.out.2.1 (Nat.le_add_right _ 2)) b.size).mono ?_
     rintro e W' ⟨Q,hx,⟨rfl,H,h2,h3,h4,h5⟩|⟨rfl,H,h2,h3,h4,h5⟩⟩
     ·refine .inl ⟨rfl,b.bel.trans Q,hx,by rw[Bt hj];exact h2,?_,?_,h5,?_,GY1 b.size Q.size⟩
      ·rw[O]
       by_cases d:doE k (Rl k I (h.take j)) h[j]=0
       ·rw[d]at h3
        have H:=H.resolve_left (by rw[d];simp)
        rw[if_neg (by rw[d];simp),if_neg (by rw[H];simp)];exact h3
       ·rw[if_pos d];exact h3
      ·rw[O]
       by_cases d:doE k (Rl k I (h.take j)) h[j]=0
       ·have H:=H.resolve_left (by rw[d];simp)
        rw[if_neg (by rw[d];simp)]at h4
        rw[if_neg (by rw[d];simp),if_neg (by rw[H];simp)];exact h4
       ·rw[if_pos d]at h4
        rw[if_pos d];exact h4
      ·rw[O]
       by_cases d:doE k (Rl k I (h.take j)) h[j]=0
       ·have H:=H.resolve_left (by rw[d];simp)
        rw[if_neg (by rw[d];simp),if_neg (by rw[H];simp)]
       ·rw[if_pos d]
     ·have b7:P=((RD k I f.bl (h.take j)).1,(RD k I f.bl (h.take j)).2.1,dF (RD k I f.bl (h.take j)).1 (aG h[j]).length):=by
       rw[if_neg (by rw[H];simp),if_pos h2]at O
       rw[R.out,zX (j:=j+1) (by rw[O];exact h2),O]
      exact .inr ⟨rfl,b.bel.trans Q,by rw[b7];exact h3,by rw[b7];exact h4,by rw[b7];exact h5⟩)
    b4.out)
   have d1:=U.symm
   have b5:=y.symm
   clear U y a6 b9 a4 D E r h2 h7 h5 h3 h8 d4 e8 d7 d9 q0 q1 q2 q3 f7
   go_wp2_with fail
   refine(cE.out).mono ?_;rintro e a5 ⟨⟨u,rfl⟩,b⟩
   have d6:KP N (i.heap.size+2) (i.heap.size+1) i.heap.size (t.heap.size+1) P a5:=by
    rcases b with b|b
    ·have ht:h.take h.length=h:=List.take_of_length_le (GZ3 _)
     have H:=b.errs
     have h2:=b.fl
     have h3:=b.zero
     rw[ht]at H h2 h3
     rw[<-R.out]at H h2 h3
     exact⟨b.bel,H,h2,by rw[h3];exact b.e⟩
    ·exact b
   obtain⟨a3,⟨v,d8,hv⟩,⟨f',hh,hr⟩,he⟩:=d6
   obtain⟨eA,ec,rfl⟩:=bG hv
   have M:=(a3.block _ (ZL J.out)).trans J.out
   have b3:=Hp M
   have r0:=heap_cell M 0
   have rf:=heap_free M 0
   have y0:=heap_cell hh 0
   simp only[GZ2,GZ0]at r0 y0
   have o0:=d8.cell
   have e0:=he.cell
   have HV:=Hp hv
   have f9:=Hp hr
   have c7:=Hp (g.trans (a3.mono g.size))
   have n1:i.heap.size+1≠w.heap.size+2:=by have:=S.out.1;have:=b2.out;omega
   have n2:i.heap.size≠w.heap.size+2:=by have:=S.out.2.1;have:=b2.out;omega
   have n3:t.heap.size+1≠w.heap.size+2:=by have:=S.out.2.2;have:=b2.out;omega
   clear b a3 d8 hv hh hr he M cE b4 d1 b5 d3 d2
   go_upto_region 10 with fail
   go_region
   all_goals(
    go_wp2_with fail
    have hg:=heap_setCell_same a5 (w.heap.size+2) 0 _ _ (.slice f'.a f'.bl.length f'.c) b3.out
    have a1:Kp [29] a5 (a5.setCell ⟨w.heap.size+2,0,none⟩ (.slice f'.a f'.bl.length f'.c)):=Kp.set b3.out (by simp) 0 _
    refine bodyPost_ret (dR rfl _ _ (w.heap.size+2) 29 _ (0,0) _ rfl hg Tryz.underlying29 rfl Tryz.jI) rfl ?_
    have hd:∀W:World,Below W.heap.size W W.drew:=fun W=>(GZ4 _ _).drew
    have f1:=(f9.keep a1 (by decide)).keep (Kp.of_below (ts:=[]) (hd _)) (by simp)
    have f2:=aO (own_kp HV.out a1 (by decide)) (hd _)
    exact⟨⟨f',eA,ec,rfl,f1.down g.size,RH f2 (GY1 g.size (GY1 S.out.2.1 (Nat.le_add_right _ 2)))⟩,Below.drew (c7.setCell (p:=⟨w.heap.size+2,0,none⟩) (Nat.le_add_right _ 2) _)⟩)
  ·have s':(G != 0)=true:=by simp[s]
   have R:=Hp (show P=([],[],G) by rw[HP.out];unfold fD;rw[if_neg t4,if_pos (by rw[<-HG.out];exact s),<-HG.out])
   have c7:=Hp (g.trans (o.mono g.size))
   have n3:t.heap.size+1≠w.heap.size+2:=by have:=e1.out;have:=b2.out;omega
   have r0:=heap_cell c4.out 0
   have rf:=heap_free c4.out 0
   simp only[GZ2,GZ0]at r0
   go_upto_region 4 with fail
   rw[<-C,<-B]
   clear C B a2 a8 a7 L o z4 z5 b6 t4 s
   go_upto_region 5 with fail
   go_region
   all_goals(
    go_wp2_with fail
    have hg:=heap_setCell_same n (w.heap.size+2) 0 _ _ (.slice none 0 0) c4.out
    refine bodyPost_ret (dR rfl _ _ (w.heap.size+2) 29 _ (0,0) _ rfl hg Tryz.underlying29 rfl Tryz.jI) rfl ?_
    rw[R.out]
    exact Di (Below.drew (c7.setCell (p:=⟨w.heap.size+2,0,none⟩) (Nat.le_add_right _ 2) _)))
end
section
open Go
open Go.RowKit
open Gs (Tx)
def iU (b1 b2 b3 a1 a2 a3:Option Addr)(b4 b5 b6 a4 a5 a6:Nat):List Cm:=[⟨1,lW b1 b2 b3 b4 b5 b6,⟨#[]⟩⟩,⟨1,TH a1 a2 a3 a4 a5 a6,⟨#[]⟩⟩,⟨2,jB,⟨#[108,105,98]⟩⟩,⟨4,jB,⟨#[]⟩⟩]
theorem vB (w:World):Calls Tryz.prog 70 #[] w fun e i=>(∃A c b1 b2 b3 a1 a2 a3 b4 b5 b6 a4 a5 a6,e=.returned (.slice A 4 c)/\nE i A (iU b1 b2 b3 a1 a2 a3 b4 b5 b6 a4 a5 a6))/\Below w.heap.size w i:=by
 go_enter Tryz.func70,Tryz.ntmps70
 go_wp2_with fail
 refine(KF _).mono ?_;rintro e m ⟨⟨b1,b2,b3,b4,b5,b6,rfl,g⟩,d⟩
 go_wp2_with fail
 refine(Jr _).mono ?_;rintro e h ⟨⟨a1,a2,a3,a4,a5,a6,rfl,f⟩,b⟩
 go_wp2_with fail
 go_ret
 have a:=fun l=>(GZ4 h.heap.size h).alloc (GZ3 _) (.cells l 102)
 refine⟨⟨some ⟨h.heap.size,0,none⟩,4,b1,b2,b3,a1,a2,a3,b4,b5,b6,a4,a5,a6,rfl,Ry (enc:=Cm.cells) (k:=9) (fun _=>rfl) (heap_alloc_new h _) rfl,by unfold big iU;simp,?_⟩,(d.trans (b.mono d.size)).trans ((a _).mono (GY1 d.size b.size))⟩
 intro x j
 simp only[iU,List.mem_cons,List.not_mem_nil,or_false]at j
 rcases j with rfl|rfl|rfl|rfl
 ·exact⟨(g.below b).below (a _),Nat.zero_le _⟩
 ·exact⟨f.below (a _),Nat.zero_le _⟩
 ·exact⟨zero_ok _,by show(⟨#[108,105,98]⟩:ByteArray).size<=big;decide⟩
 ·exact⟨zero_ok _,Nat.zero_le _⟩
theorem NM {l:List Plc}(h:(txs l).Nodup):dD l=false:=by
 cases a:dD l
 ·rfl
 ·exact absurd h ((SQ l).1 a)
theorem GU {k:Krn}{l:List Plc}(e:bJ k=0)(d:RY l=0)(c:dD l=false)(b:eH l=false)(a:(bU k l l 0).2=0):aZ k l=0:=by
 unfold aZ aX
 rw[e,d,c,b,a];rfl
theorem QC {k:Krn}{c:Cm}{l L:List Plc}(g:RL c=0)(a:c.kind≠4)(f:kC c l=0)(b:cmL c l=L)(d:aZ k L=0):doE k l c=0/\doL k l c=L:=by
 have e:doE k l c=0:=by
  unfold doE kP
  rw[if_neg (by omega),if_neg a,if_neg (by omega),b];exact d
 exact⟨e,by unfold doL;rw[if_neg (by omega),if_neg a];exact b⟩
section
variable (A:Option Addr) (c:Nat) (b1 b2 b3 a1 a2 a3:Option Addr) (b4 b5 b6 a4 a5 a6:Nat)
theorem QZ :doE (RU A c) [] ⟨1,lW b1 b2 b3 b4 b5 b6,⟨#[]⟩⟩=0/\doL (RU A c) [] ⟨1,lW b1 b2 b3 b4 b5 b6,⟨#[]⟩⟩=[⟨lW b1 b2 b3 b4 b5 b6,0⟩]:=
 QC (by kernel_rfl) (show(1:Int)≠4 by decide) (by kernel_rfl) (by kernel_rfl) (GU (by kernel_rfl) (by kernel_rfl) (NM (of_decide_eq_true (by kernel_rfl))) (by kernel_rfl) (by kernel_rfl))
theorem Q3 :doE (RU A c) [⟨lW b1 b2 b3 b4 b5 b6,0⟩] ⟨1,TH a1 a2 a3 a4 a5 a6,⟨#[]⟩⟩=0/\doL (RU A c) [⟨lW b1 b2 b3 b4 b5 b6,0⟩] ⟨1,TH a1 a2 a3 a4 a5 a6,⟨#[]⟩⟩=[⟨lW b1 b2 b3 b4 b5 b6,0⟩,⟨TH a1 a2 a3 a4 a5 a6,1⟩]:=
 QC (by kernel_rfl) (show(1:Int)≠4 by decide) (by kernel_rfl) (by kernel_rfl) (GU (by kernel_rfl) (by kernel_rfl) (NM (of_decide_eq_true (by kernel_rfl))) (by kernel_rfl) (by kernel_rfl))
theorem Ng :doE (RU A c) [⟨lW b1 b2 b3 b4 b5 b6,0⟩,⟨TH a1 a2 a3 a4 a5 a6,1⟩] ⟨2,jB,⟨#[108,105,98]⟩⟩=4:=by
 have a:RL ⟨2,jB,⟨#[108,105,98]⟩⟩=0:=by kernel_rfl
 have h:kC ⟨2,jB,⟨#[108,105,98]⟩⟩ [⟨lW b1 b2 b3 b4 b5 b6,0⟩,⟨TH a1 a2 a3 a4 a5 a6,1⟩]=4:=by kernel_rfl
 unfold doE kP
 rw[a,h];rfl
theorem PT :doE (RU A c) [⟨lW b1 b2 b3 b4 b5 b6,0⟩,⟨TH a1 a2 a3 a4 a5 a6,1⟩] ⟨4,jB,⟨#[]⟩⟩=0/\doL (RU A c) [⟨lW b1 b2 b3 b4 b5 b6,0⟩,⟨TH a1 a2 a3 a4 a5 a6,1⟩] ⟨4,jB,⟨#[]⟩⟩=[⟨lW b1 b2 b3 b4 b5 b6,0⟩,⟨TH a1 a2 a3 a4 a5 a6,1⟩]:=by
 have a:RL ⟨4,jB,⟨#[]⟩⟩=0:=by kernel_rfl
 have e:doE (RU A c) [⟨lW b1 b2 b3 b4 b5 b6,0⟩,⟨TH a1 a2 a3 a4 a5 a6,1⟩] ⟨4,jB,⟨#[]⟩⟩=0:=by unfold doE;rw[a];rfl
 exact⟨e,by unfold doL;rw[e];kernel_rfl⟩
theorem A9 :bJ (RU A c)=0:=by kernel_rfl
theorem NA :eD (RU A c) [] (iU b1 b2 b3 a1 a2 a3 b4 b5 b6 a4 a5 a6)=[0,0,4,0]/\Rl (RU A c) [] (iU b1 b2 b3 a1 a2 a3 b4 b5 b6 a4 a5 a6)=[⟨lW b1 b2 b3 b4 b5 b6,0⟩,⟨TH a1 a2 a3 a4 a5 a6,1⟩]:=by
 obtain⟨i,d⟩:=QZ A c b1 b2 b3 b4 b5 b6
 obtain⟨h,b⟩:=Q3 A c b1 b2 b3 a1 a2 a3 b4 b5 b6 a4 a5 a6
 have e:=Ng A c b1 b2 b3 a1 a2 a3 b4 b5 b6 a4 a5 a6
 have a:doL (RU A c) [⟨lW b1 b2 b3 b4 b5 b6,0⟩,⟨TH a1 a2 a3 a4 a5 a6,1⟩] ⟨2,jB,⟨#[108,105,98]⟩⟩=[⟨lW b1 b2 b3 b4 b5 b6,0⟩,⟨TH a1 a2 a3 a4 a5 a6,1⟩]:=by unfold doL;rw[e];rfl
 obtain⟨g,f⟩:=PT A c b1 b2 b3 a1 a2 a3 b4 b5 b6 a4 a5 a6
 constructor
 ·show[doE _ _ _,doE _ (doL _ _ _) _,doE _ (doL _ (doL _ _ _) _) _,doE _ (doL _ (doL _ (doL _ _ _) _) _) _]=_
  rw[d,b,a,i,h,e,g]
 ·simp only[iU,Rl,d,b,a,f]
def Lf (a:List Cm):Nat:=(a.map fun c=>(aG c).length+5).sum
theorem Q7 :Lf (iU b1 b2 b3 a1 a2 a3 b4 b5 b6 a4 a5 a6)<=1000:=of_decide_eq_true (by kernel_rfl)
theorem NB :aG ⟨2,jB,⟨#[108,105,98]⟩⟩=[2,108,105,98]:=by kernel_rfl
end
theorem Ul {k:Krn}{r:List ByteArray}:∀(a:List Cm){l:List Plc}{F R:List ByteArray}{D:List Ded}{q e:Nat},JInv r F R D q e->e+5*q+Lf a+10<=(flat F).length->(RD k l F a).2.2=0/\(RD k l F a).2.1=eD k l a
 | [],_,_,_,_,_,_,_,_=>⟨rfl,rfl⟩
 |c::a,l,F,R,D,q,e,h,hr=>by
  have o:Lf (c::a)=(aG c).length+5+Lf a:=by unfold Lf;simp
  rw[o]at hr
  by_cases d:doE k l c=0
  ·obtain⟨t,j⟩:=kZ (BO d)
   have b:dF F (aG c).length=0:=Classical.byContradiction fun b=>by
    have:=(h.err b (by omega) j).2
    omega
   rw[Sy d b]
   have i:=h.next (s:=jY c) (by rw[qR];exact b)
   rw[show bytesOf (jY c)=aG c from iZ _,qR]at i
   obtain⟨n,m,_⟩:=TT b
   have p:(flat (bT F (aW F (aG c)))).length=(flat F).length:=by rw[fG n,fG h.ok,m]
   obtain⟨g,f⟩:=Ul a (l:=doL k l c) i (by rw[p];omega)
   exact⟨g,by show 0::_=doE k l c::_;rw[d,f]⟩
  ·rw[lU d]
   obtain⟨g,f⟩:=Ul a (l:=doL k l c) h (by omega)
   exact⟨g,by show doE k l c::_=doE k l c::_;rw[f]⟩
end
end Go.Proofs.YtjiedaialianmaaGreat
