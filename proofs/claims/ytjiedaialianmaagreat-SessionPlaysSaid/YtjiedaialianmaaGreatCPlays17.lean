import Derived.Test.YtjiedaialianmaaGreatCPlays13
import Derived.Test.YtjiedaialianmaaGreatCPlays14
import Derived.Test.YtjiedaialianmaaGreatCPlays15
namespace Go.Proofs.YtjiedaialianmaaGreat
section
open Go
set_option maxRecDepth 100000
set_option maxHeartbeats 8000000
open Go.RowKit Go.Lib
theorem dL.from_ {W:World}{k:Krn}{A:Option Addr}{l:List Plc}(h:dL W k A l)(c:Nat):Rn W W k A l c:=⟨h.1,h.2.each,h.2.len,.inl h.2.row,GZ4 _ _⟩
structure Ob (w:World)(k:Krn)(R:List ByteArray)(j:Nat)(W:World):Prop where
 reg:∃k' A' l' c',W.heap[w.heap.size+2]? =some (.cells (rgA k' A' l' c') 39 (0,0))/\dL W k' A' l'/\k'.bare=k.bare/\aD l'=aD (reL k (R.take j))
 res:W.heap[w.heap.size+1]? =some (.cells #[.int .i64 0,.int .i64 0,.slice none 0 0,.slice none 0 0] 39 (0,0))
 bel:Below w.heap.size w W
theorem wU (k:Krn)(A:Option Addr)(R:List ByteArray)(c:Nat)(w:World)(hk:k.ok w)(hA:jK w A R)(a6:bJ k=0):
  Calls Tryz.prog 68 #[k.v,.slice A R.length c] w fun e w'=>(∃k' A' l' c',e=.returned (rgV k' A' l' c')/\dL w' k' A' l'/\k'.bare=k.bare/\aD l'=aD (reL k R))/\Below w.heap.size w w':=by
 obtain⟨H,n⟩:=Nm (w.alloc (.cells #[.int .i64 k.major,.int .i64 k.minor,.slice k.eA k.ex.length k.eC] 24))
 obtain⟨G,g⟩:=Nm (H.alloc (.cells #[.int .i64 0,.int .i64 0,.slice none 0 0,.slice none 0 0] 39))
 obtain⟨w2,r⟩:=Nm (G.alloc (.cells #[.int .i64 k.major,.int .i64 k.minor,.slice k.eA k.ex.length k.eC,.slice none 0 0] 39))
 have z:Below w.heap.size w H:=n▸ZB
 have y:Below H.heap.size H G:=g▸ZB
 have L:Below G.heap.size G w2:=r▸ZB
 have z0:H.heap.size=w.heap.size+1:=by rw[n];simp
 have z1:G.heap.size=w.heap.size+2:=by rw[g];simp;omega
 have N:=z.trans ((y.mono z.size).trans (L.mono (GY1 z.size y.size)))
 have c0:=Hp (show Ob w k R 0 w2 from⟨⟨k,none,[],0,by rw[r,<-z1];exact heap_alloc_new G _,⟨hk.below N,⟨Row.nil,Nat.zero_le _,by simp⟩⟩,rfl,rfl⟩,
  aF L (show G.heap[w.heap.size+1]? =_ by rw[g,<-z0];exact heap_alloc_new H _),N⟩)
 have B:=aF y (show H.heap[w.heap.size]? =some (.cells #[.int .i64 k.major,.int .i64 k.minor,.slice k.eA k.ex.length k.eC] 24 (0,0)) by rw[n];exact heap_alloc_new w _)
 have k0:=heap_cell B 0
 have f:=heap_cell B 1
 have F:=heap_cell B 2
 simp only[GZ2,GZ0,GZ1]at k0 f F
 have HA:=Hp hA
 have b9:=Hp a6
 have hn:=hA.len
 unfold big at hn
 have c5:=n.symm
 have c4:=g.symm
 have X:=Hp r.symm
 clear n g r z y L N hk hA a6 B
 go_enter Tryz.func68,Tryz.ntmps68
 go_wp2_with fail
 rw[X.out]
 go_loopw [6] (fun i wr=>∃j:Nat,i=.int .i64 j/\j<=R.length/\Ob w k R j wr) (fun i _=>R.length -(intOf i).toNat)
 case atStart=>exact⟨0,rfl,Nat.zero_le _,c0.out⟩
 case round=>
  obtain⟨j,rfl,hj,hI⟩:=hrel
  have E:=Hp hI
  clear hI
  by_cases u:j<R.length
  ·have c6:(j:Int)<R.length:=by omega
   obtain⟨ad,rfl,c7,s0⟩:=nT (HA.below E.bel).row (GZ4 _ _) j u
   have C:=Hp (G9 (k:=k) u)
   have J:=HA.each _ (GZ9 u)
   obtain⟨s,hs⟩:=Nm (R[j]'u)
   rw[<-hs]at s0 C J
   have e0:s=sof (bytesOf s):=(iJ s).symm
   have cD:=Hp (fun W=>show Calls Tryz.prog 65 #[.string s] W _ from by
    have:=Dw (bytesOf s) W (by rw[rD,<-e0];exact J)
    rw[<-e0]at this
    exact this)
   obtain⟨D,hD⟩:=Nm (aS (bytesOf s))
   have b4:=Hp (fun h=>uM (l:=bytesOf s) h)
   rw[<-hD]at cD C b4
   obtain⟨b,hb⟩:=Nm (decide (D.1=0))
   rw[<-hb]at cD
   have b5:=Hp hb
   clear hs e0 hD J hb
   go_upto_region 6 with(go_at_call 65;refine(cD.out _).mono ?_;rintro e V ⟨⟨m,rfl,a2,a1,o⟩,a9⟩;have b3:=Hp a2;have b1:=Hp o;have b6:=Hp a9;clear a2 a1 o a9)
   obtain⟨U,q⟩:=Nm (V.alloc (.cells (cmA ⟨D.2.kind,m,D.2.nm⟩) 102))
   have K:Below V.heap.size V U:=q▸ZB
   obtain⟨p0,p1,p2,p3,p4,p5,p6,p7,p8⟩:=dJ (W:=U) (b:=V.heap.size) (c:=⟨D.2.kind,m,D.2.nm⟩) (by rw[q];exact heap_alloc_new V _)
   have a:=b6.trans (K.mono b6.size)
   obtain⟨f,A1,I,S,hg,Z,e1,Q⟩:=E.reg
   have O:=Hp (aF a hg)
   have b0:=Hp (Z.below a)
   have b2:=Hp (aF a E.res)
   have P:=Hp (E.bel.trans (a.mono E.bel.size))
   have b8:=Hp (b3.below K)
   have T:=Hp e1
   have E2:=Hp Q
   obtain⟨_,g0,g1,g2,g3,_⟩:=aB O.out
   rw[<-q]
   clear q K a s0 hg Z e1 Q
   by_cases d:D.1=0
   ·obtain rfl:b=true:=by rw[b5.out];simp[d]
    have a8:RL ⟨D.2.kind,m,D.2.nm⟩=0:=by
     rw[<-b4.out d]
     exact Sr (show Cm.bare _=Cm.bare _ by unfold Cm.bare;simp only[iL b1.out])
    have a0:aZ f I=0:=by rw[kQ T.out E2.out];exact oO b9.out _
    have c3:=Hp (GH f A1 S I ⟨D.2.kind,m,D.2.nm⟩ U U (b0.from_ S) b8.out (GY1 (JL a8) (by unfold big;omega)) a0)
    have b7:=Hp (show aD (doL f I ⟨D.2.kind,m,D.2.nm⟩)=aD (reL k (R.take (j+1))) by
     rw[C.out,if_pos d]
     exact Su T.out E2.out (show Cm.bare _=Cm.bare _ by unfold Cm.bare;simp only[iL b1.out]))
    clear a8 d a0
    go_wp2_with fail
    refine(c3.out).mono ?_;rintro e w9 ⟨⟨F,A2,l2,c2,rfl,Y,a5,a4⟩,x⟩
    have p:=aF x O.out
    obtain⟨a7,t⟩:=gY p (.int .i64 F.major) (.int .i64 F.minor) (.slice F.eA F.ex.length F.eC) (.slice A2 l2.length c2)
    obtain⟨_,g0,g1,g2,g3,d1,d0,c9,c8⟩:=aB p
    have M:=aF x b2.out
    have HN:=Hp (show Ob w k R (j+1) _ from⟨⟨F,A2,l2,c2,a7,Y.there.other ⟨_,_,_,_,_,_,_,_,p⟩ t,a5.trans T.out,a4.trans b7.out⟩,(t.block _ (ZL M) (by omega)).trans M,
     (P.trans (x.mono P.size)).trans ((t.below (GY2 (ZL p))).mono (by omega))⟩)
    clear Y a5 a4 x p a7 t M c3 p0 p1 p2 p3 p4 p5 p6 p7 p8
    go_wp2_with fail
    go_roundw
    case rel=>exact⟨j+1,by go_num,by omega,HN.out⟩
    case measure=>(simp[intOf];try omega)
   ·obtain rfl:b=false:=by rw[b5.out];simp[d]
    have HN:=Hp (show Ob w k R (j+1) U from⟨⟨f,A1,I,S,O.out,b0.out,T.out,by rw[C.out,if_neg d];exact E2.out⟩,b2.out,P.out⟩)
    clear d p0 p1 p2 p3 p4 p5 p6 p7 p8 g0 g1 g2 g3
    go_wp2_with fail
    go_roundw
    case rel=>exact⟨j+1,by go_num,by omega,HN.out⟩
    case measure=>(simp[intOf];try omega)
  ·obtain rfl:j=R.length:=by omega
   obtain⟨f,A1,I,S,hg,Z,e1,Q⟩:=E.reg
   rw[List.take_of_length_le (GZ3 _)]at Q
   obtain⟨_,g0,g1,g2,g3,_⟩:=aB hg
   obtain⟨HR,r0,r1,r2,r3,f0,f1,f2,f3⟩:=aB E.res
   have HT:=Hp Z
   have T:=Hp e1
   have E2:=Hp Q
   have HB:=Hp E.bel
   clear hg Z e1 Q E
   go_wp2_with fail
   obtain⟨h5,a3⟩:=gY HR.out (.int .i64 f.major) (.int .i64 f.minor) (.slice f.eA f.ex.length f.eC) (.slice A1 I.length S)
   exact bodyPost_ret (results_cell_row rfl _ _ (w.heap.size+1) 39 _ (0,0) _ rfl h5 Tryz.underlying39 rfl Tryz.RP) rfl ⟨⟨f,A1,I,S,rfl,HT.other ⟨_,_,_,_,_,_,_,_,HR.out⟩ a3,T.out,E2.out⟩,HB.trans ((a3.below (GY2 (ZL HR.out))).mono (by omega))⟩
end
section
open Go
theorem KE {k:Krn}{a F R:List ByteArray}{D:List Ded}{q e:Nat}(b:bJ k=0)(h:JInv a F R D q e):S9 k F=0:=by
 unfold S9
 rw[if_neg (by omega)]
 exact h.open_.1
theorem Ue {k:Krn}{d F R:List ByteArray}{D:List Ded}{q e:Nat}{a:List Cm}(b:bJ k=0)(h:JInv d F R D q e)(c:a.length<=40):fD k F a=RD k (reL k R) F a:=by
 unfold fD
 rw[if_neg (by omega),if_neg (by rw[KE b h];simp),h.open_.2]
theorem Ag (k:Krn):∀(l:List Plc)(a:List Cm),(eD k l a).length=a.length
 |_,[]=>rfl
 |l,c::r=>congrArg (· +1) (Ag k (doL k l c) r)
theorem KL {k:Krn}:∀{cs:List Cm}{l:List Plc}{j:Nat}{n:Int},(eD k l cs)[j]? =some n->∃h:j<cs.length,n=doE k (Rl k l (cs.take j)) cs[j]
 | [],_,_,_,h=>by simp[eD]at h
 |c::r,l,0,n,h=>⟨Nat.zero_lt_succ _,(GY3 h).symm⟩
 |c::r,l,j+1,n,h=>by
  obtain⟨b,a⟩:=KL (cs:=r) (l:=doL k l c) (j:=j) (n:=n) h
  exact⟨Nat.succ_lt_succ b,a⟩
theorem DF :∀{cs:List Cm}{a:List Int}{j:Nat}(h:j<a.length)(f:j<cs.length),SG (cs.take (j+1)) (a.take (j+1))=SG (cs.take j) (a.take j)++(if a[j]=0 then[jY cs[j]]else[])
 |c::cs,n::a,0,_,_=>by
  show SG [c] [n]=_
  show(if n=0 then jY c::SG [] []else SG [] [])=[]++(if n=0 then[jY c]else[])
  rfl
 |c::cs,n::a,j+1,h,f=>by
  have d:=Nat.lt_of_succ_lt_succ h
  have b:=Nat.lt_of_succ_lt_succ f
  have g:=DF (cs:=cs) (a:=a) (j:=j) d b
  show(if n=0 then jY c::SG (cs.take (j+1)) (a.take (j+1))else SG (cs.take (j+1)) (a.take (j+1)))=(if n=0 then jY c::SG (cs.take j) (a.take j)else SG (cs.take j) (a.take j))++(if a[j]'d=0 then[jY (cs[j]'b)]else[])
  rw[g]
  by_cases e:n=0
  ·rw[if_pos e,if_pos e];rfl
  ·rw[if_neg e,if_neg e]
theorem okOf_len :∀(b:List Cm)(a:List Int),(SG b a).length<=a.length
 | [],[]=>GZ3 _
 | [],_::_=>Nat.zero_le _
 |_::_,[]=>GZ3 _
 |c::b,n::a=>by
  have:=okOf_len b a
  show(if n=0 then jY c::SG b a else SG b a).length<=a.length+1
  by_cases e:n=0
  ·rw[if_pos e,GY8];omega
  ·rw[if_neg e];omega
theorem Ja (b:List Cm)(a:List Int):SG (b.take a.length) a=SG b a:=by
 induction a generalizing b with
 |nil=>rw[CF,CF]
 |cons n a ih=>
  cases b with
  |nil=>rfl
  |cons c b=>
   show(if n=0 then jY c::SG (b.take a.length) a else SG (b.take a.length) a)=(if n=0 then jY c::SG b a else SG b a)
   rw[ih]
structure QX (k:Krn)(R:List ByteArray)(cs:List Cm)(P:List ByteArray×List Int×Int):Prop where
 errs:P.2.1=(eD k (reL k R) cs).take P.2.1.length
 len:P.2.1.length<=cs.length
 all:P.2.1.length=cs.length->P.2.2=0
 stop:P.2.1.length<cs.length->P.2.2=8/\(eD k (reL k R) cs)[P.2.1.length]? =some 0
 opens:gZ P.1=0/\bQ P.1=R++SG cs P.2.1
 ok:bP P.1=0
 good:∀(j:Nat)(h:j<P.2.1.length),P.2.1[j]=0->∀h':j<cs.length,RL cs[j]=0
theorem Lu {k:Krn}{n F R:List ByteArray}{D:List Ded}{q e:Nat}{a:List Cm}(f:bJ k=0)(h:JInv n F R D q e)(b:a.length<=40):QX k R a (fD k F a):=by
 rw[Ue f h b]
 have p:=uD (k:=k) a (l:=reL k R) h
 obtain⟨t,o,s,d⟩:=p.inv
 refine⟨p.errs,p.len,p.all,p.stop,d.open_,d.ok,?_⟩
 intro j c g r
 have m:(eD k (reL k R) a)[j]? =some 0:=by
  have:=congrArg (fun x=>x[j]?) p.errs
  simp only[GY5 c,List.getElem?_take,if_pos c]at this
  rw[<-this,g]
 obtain⟨_,i⟩:=KL m
 exact BO i.symm
end
end Go.Proofs.YtjiedaialianmaaGreat
