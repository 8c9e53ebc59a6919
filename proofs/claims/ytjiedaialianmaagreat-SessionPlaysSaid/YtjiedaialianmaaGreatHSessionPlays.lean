import Derived.Test.YtjiedaialianmaaGreatCPlays17
import Derived.Test.YtjiedaialianmaaGreatCPlays18
/- SessionPlays: errnos are as of Run, from what is reopened on; what had none is on the flash, in order; if there is no room, all ahead of it. No condition. -/
open Go
set_option maxRecDepth 100000
set_option maxHeartbeats 8000000
namespace Go.Proofs.YtjiedaialianmaaGreat
open Go.ChangeShapes Go.WideShapes Go.ChangeAt Go.RowKit Go.WideMaps Go.WideElems
open Go.ChangeMaps (setBlock shut_map_nil open_string shut_string keptBut_setBlock frozen?_setBlock heap_setBlock_same)
theorem er_cap {w:World}{a size n c:Nat}{e:TypeId}{A:Option Addr}{d:List Value}(h:w.ownsRow a e size (.slice A n c) n d):n<=c:=by
 rcases h.2 with⟨b,k⟩|⟨g,i,f,b,_,_,j,_⟩
 ·omega
 ·injection b with _ _ e3;omega
theorem t_row {w:World}{a:Nat}{A:Option Addr}{c:Nat}{l:List ByteArray}(h:dA w a (.slice A l.length c) l):Row strCells 1 w A l:=by
 obtain⟨f,d,e,b,_⟩:=h.form
 injection e with e1 _ e2
 subst e1
 exact b
structure PlMem (w:World)(x:Fl)(B:Nat)(F1:List ByteArray)(es es2:List Int)(eA eA2:Option Addr)(ec ec2:Nat)(v:Value)(R:List ByteArray)(W:World):Prop where
 bel:Below w.heap.size w W
 all:dA W w.heap.size v R
 box:W.heap[B]? =some (.cells #[.slice x.a x.bl.length x.c] 29 (0,0))
 fl:Rt W w.heap.size x F1
 ea:dN W w.heap.size (.slice eA es.length ec) es
 eb:dN W w.heap.size (.slice eA2 es2.length ec2) es2
 apart:∀b,(Value.slice x.a x.bl.length x.c).ownBlock=some b->v.ownBlock≠some b
theorem PlMem.later {w:World}{x:Fl}{B:Nat}{j:List ByteArray}{e b:List Int}{g d:Option Addr}{f c:Nat}{v:Value}{R:List ByteArray}{W i:World}(h:PlMem w x B j e b g d f c v R W)(a:Below W.heap.size W i):PlMem w x B j e b g d f c v R i:=
 ⟨h.bel.trans (a.mono h.bel.size),aO h.all a,aF a h.box,⟨aO h.fl.own a,h.fl.cap,h.fl.is⟩,aO h.ea a,aO h.eb a,h.apart⟩
theorem PlMem.put {w:World}{x:Fl}{B:Nat}{t:List ByteArray}{p i:List Int}{r k:Option Addr}{q j:Nat}{v m:Value}{R s:List ByteArray}{W l:World}(h:PlMem w x B t p i r k q j v R W)(u:dA l w.heap.size m s)(o:Below w.heap.size W l)(n:W.grownBy l v.ownBlock)(d:m.ownBlock=v.ownBlock\/m.ownBlock=some W.heap.size):PlMem w x B t p i r k q j m s l:=by
 have e:Kp [9] W l:=Kp.grown n fun g n=>by
  obtain⟨c,y,e⟩:=own_kind h.all g n
  exact⟨c,_,y,e,by simp⟩
 refine⟨h.bel.trans o,u,e _ _ _ _ h.box (by decide),⟨h.fl.own.grown n (fun b o=>h.apart b o),h.fl.cap,h.fl.is⟩,own_kp h.ea e (by decide),own_kp h.eb e (by decide),?_⟩
 intro b f a
 rcases d with d|d
 ·exact h.apart b f (d▸a)
 ·rw[d]at a
  have:=(EW h.fl.own f).1
  injection a with a
  omega
theorem SessionPlays_any (k:Krn)(n:Int)(rA:Option Addr)(rl:List ByteArray)(rc:Nat)(cA:Option Addr)(o:List Cm)(cc:Nat)(w:World)(hk:k.ok w)(h:jK w rA rl/\rl.length<=rc)(hc:nE w cA o):
  Calls Tryz.prog 11 #[k.v,.int .i64 n,.slice rA rl.length rc,.slice cA o.length cc] w fun e w'=>e=.returned (.bool true)/\Below w.heap.size w w':=by
 show Calls Tryz.prog 11 #[.agg #[.int .i64 k.major,.int .i64 k.minor,.slice k.eA k.ex.length k.eC],.int .i64 n,.slice rA rl.length rc,.slice cA o.length cc] w _
 have x9:=Hp (GZ4 w.heap.size w)
 obtain⟨Q,e0⟩:=Nm w
 have l8:=Hp (show Below w.heap.size w Q from e0▸GZ4 _ _)
 have s4:=Hp (show k.ok Q from e0▸hk)
 have q3:=Hp (show jK Q rA rl from e0▸h.1)
 have l0:=Hp (show nE Q cA o from e0▸hc)
 subst e0
 have t9:=Hp l0.out
 obtain⟨U,X⟩:=Nm (Q.alloc (.cells #[.int .i64 k.major,.int .i64 k.minor,.slice k.eA k.ex.length k.eC] 24))
 have r:Below Q.heap.size Q U:=X▸ZB
 have l7:=Hp (l8.trans (r.mono l8.size))
 have s3:=Hp (s4.below r)
 have q0:=Hp (q3.below r)
 have u8:=Hp (l0.below r)
 have q8:=Hp (show U.heap[Q.heap.size]? =some (.cells #[.int .i64 k.major,.int .i64 k.minor,.slice k.eA k.ex.length k.eC] 24 (0,0)) by rw[X];exact heap_alloc_new Q _)
 have x0:=Hp (show U.heap.size=Q.heap.size+1 by rw[X];simp)
 have v3:=X.symm
 clear X r
 have g0:=h.1.len
 have f9:=hc.len
 unfold big at g0 f9
 clear hk h hc
 go_enter Tryz.func11,Tryz.ntmps11
 go_wp2_with fail
 refine(dG _).mono ?_;rintro e w2 ⟨rfl,q⟩
 have l5:=Hp (l7.trans (q.mono l7.size))
 have s2:=Hp (s3.below q)
 have p9:=Hp (q0.below q)
 have u7:=Hp (u8.below q)
 have d8:=Hp (aF q q8)
 clear q
 go_wp2_with fail
 refine(jF _).mono ?_;rintro e w3 ⟨rfl,S⟩
 have a9:=Hp (l5.trans (S.mono l5.size))
 have s1:=Hp (s2.below S)
 have o9:=Hp (p9.below S)
 have u6:=Hp (u7.below S)
 have q7:=Hp (aF S d8)
 clear S
 go_wp2_with fail
 by_cases t:lD n=0
 ·have f1:=Hp (Ux n rA rl rc w3 o9.out t)
  clear t
  refine(f1.out).mono ?_;rintro e w4 ⟨⟨g,F,Rs,Ds,k0,j0,v6,rfl,hJ,hF,hV,n0⟩,I⟩
  have a8:=Hp (a9.trans (I.mono a9.size))
  have s0:=Hp (s1.below I)
  have u5:=Hp (u6.below I)
  have i2:=Hp (aF I q7)
  obtain⟨A6,c6,rfl,a0,_⟩:=hV.form
  obtain⟨o1,o2⟩:=hJ.open_
  have b2:=kW F
  rw[o2]at b2
  have t5:=Hp (hF.ok (.inr hJ.ok))
  have t0:=Hp hF.is
  have HJ:=Hp hJ
  have q5:=Hp b2.2
  have o6:=Hp (show jK w4 A6 Rs from⟨a0,by unfold big;omega,fun s hs=>GY1 (b2.1 s hs) (by unfold big;omega)⟩)
  have s9:=Hp (RH hV (Nat.le_of_lt_succ (Nat.lt_succ_of_le a9.size)))
  clear hJ hF hV n0 a0 o1 o2 b2 I f1
  obtain⟨w5,W⟩:=Nm (w4.alloc (.cells #[.slice g.a g.bl.length g.c] 29))
  have H:Below w4.heap.size w4 w5:=W▸ZB
  have m6:=Hp (Nat.ne_of_lt (ZL i2.out))
  have l4:=Hp (a8.trans (H.mono a8.size))
  have j6:=Hp (s0.below H)
  have u4:=Hp (u5.below H)
  have i1:=Hp (aF H i2)
  have t3:=Hp (t5.below H)
  have o5:=Hp (o6.below H)
  have s8:=Hp (aO s9 H)
  have t8:=Hp (show w5.heap[w4.heap.size]? =some (.cells #[.slice g.a g.bl.length g.c] 29 (0,0)) by rw[W];exact heap_alloc_new w4 _)
  have v9:=Hp (show w5.heap.size=w4.heap.size+1 by rw[W];simp)
  have v1:=W.symm
  clear W H
  obtain⟨E,hE⟩:=Nm (bJ k)
  have HE:=Hp hE
  have f2:=Hp (iT k w5 j6.out)
  rw[<-hE]at f2
  obtain⟨r0,r1,r2⟩:=qL i1.out
  clear hE
  go_wp2_with fail
  refine(f2.out).mono ?_;rintro e w6 ⟨rfl,D⟩
  have a7:=Hp (l4.trans (D.mono l4.size))
  have j5:=Hp (j6.below D)
  have k7:=Hp (u4.below D)
  have i0:=Hp (aF D i1)
  have t2:=Hp (t3.below D)
  have o4:=Hp (o5.below D)
  have j9:=Hp (aO s8 D)
  have t7:=Hp (aF D t8)
  clear D f2 r0 r1 r2
  by_cases t:E=0
  ·have a5:=Hp (HE.symm.trans t)
   subst t
   obtain⟨P,hP⟩:=Nm (fD k F o)
   obtain⟨F1,es,c1⟩:=P
   have HP:=Hp hP
   have f3:=Hp (play_c (F:=F1) (es:=es) (c:=c1) (cc:=cc) j5.out t2.out k7.out (by rw[t0.out];exact HP.symm))
   obtain⟨r0,r1,r2⟩:=qL i0.out
   have d0:=J4 t7.out
   clear hP
   go_wp2_with fail
   refine(f3.out).mono ?_;rintro e w7 ⟨⟨x,eA,ec,rfl,Z,e9⟩,L⟩
   have u9:=Hp (show∀b,(Value.slice x.a x.bl.length x.c).ownBlock=some b->(Value.slice A6 Rs.length c6).ownBlock≠some b from fun b h1 h2=>by
    have q1:=(EW Z.own h1).2
    have q2:=(EW j9.out h2).1
    omega)
   have l1:=Hp (a7.trans (L.mono a7.size))
   have r9:=Hp (j5.below L)
   have u3:=Hp (k7.below L)
   have h7:=Hp (aF L i0)
   have o3:=Hp (o4.below L)
   have s7:=Hp (aO j9 L)
   have o0:=Hp (RH Z.own a7.size)
   have d5:=Hp (And.intro Z.cap Z.is)
   have r5:=Hp (RH e9 a7.size)
   clear Z e9 L f3 r0 r1 r2 d0
   obtain⟨w8,V⟩:=Nm (w7.alloc (.cells #[.slice x.a x.bl.length x.c] 29))
   have C:Below w7.heap.size w7 w8:=V▸ZB
   have m5:=Hp (Nat.ne_of_lt (ZL h7.out))
   have e7:=Hp (l1.trans (C.mono l1.size))
   have j4:=Hp (r9.below C)
   have u0:=Hp (u3.below C)
   have h6:=Hp (aF C h7)
   have g9:=Hp (o3.below C)
   have s6:=Hp (aO s7 C)
   have n9:=Hp (aO o0 C)
   have r4:=Hp (aO r5 C)
   have i9:=Hp (show w8.heap[w7.heap.size]? =some (.cells #[.slice x.a x.bl.length x.c] 29 (0,0)) by rw[V];exact heap_alloc_new w7 _)
   have v8:=Hp (show w8.heap.size=w7.heap.size+1 by rw[V];simp)
   have b5:=V.symm
   clear V C
   by_cases t4:o.length<=40
   ·have c7:=Lu a5.out HJ.out t4
    rw[<-HP.out]at c7
    have J:=Hp c7
    have m0:¬((40:Int)<o.length):=by omega
    have b4:=Hp t4
    have f4:=Hp (wU k A6 Rs c6 w8 j4.out g9.out a5.out)
    obtain⟨r0,r1,r2⟩:=qL h6.out
    clear c7 t4
    go_wp2_with fail
    refine(f4.out).mono ?_;rintro e w9 ⟨⟨k2,A2,l2,c2,rfl,ht,d2,d1⟩,z⟩
    have e6:=Hp (e7.trans (z.mono e7.size))
    have r8:=Hp (j4.below z)
    have k6:=Hp (u0.below z)
    have q6:=Hp (aF z h6)
    have x8:=Hp (g9.below z)
    have s5:=Hp (aO s6 z)
    have n8:=Hp (aO n9 z)
    have r3:=Hp (aO r4 z)
    have r6:=Hp (aF z i9)
    obtain⟨a3,a1⟩:=Nm (eD k (reL k Rs) o)
    have e5:=Hp a1
    have c5:=(Bf d2 d1 (a:=o) (a':=o) rfl).2
    rw[<-a1]at c5
    have e8:aZ k2 l2=0:=by rw[kQ d2 d1];exact oO a5.out _
    have f5:=D8 k2 A2 c2 l2 cA o cc w9 ht.1 ht.2 k6.out (by have:=b4.out;omega) e8
    rw[c5]at f5
    have F5:=Hp f5
    clear ht d2 d1 a1 c5 e8 f5 z f4 r0 r1 r2
    go_wp2_with fail
    refine(F5.out).mono ?_;rintro e K ⟨⟨k3,A3,l3,c3,d4,b3,rfl,_,_,_,g1⟩,d⟩
    have c4:=Hp (e6.trans (d.mono e6.size))
    have j8:=Hp (r8.below d)
    have k9:=Hp (k6.below d)
    have b8:=Hp (aF d q6)
    have k5:=Hp (aO s5 d)
    have g6:=Hp (aO n8 d)
    have i6:=Hp (aO r3 d)
    have O:=Hp (aF d r6)
    have g8:=Hp (RH g1 (GY1 e6.size (Nat.le_add_right _ 2)))
    clear g1 d F5
    obtain⟨b0,G⟩:=Nm (K.alloc (.cells #[.int .i64 k3.major,.int .i64 k3.minor,.slice k3.eA k3.ex.length k3.eC,.slice A3 l3.length c3] 39))
    have p:Below K.heap.size K b0:=G▸ZB
    have m4:=Hp (Nat.ne_of_lt (ZL b8.out))
    have m7:=Hp (Nat.ne_of_lt (ZL O.out))
    have c0:=Hp (c4.trans (p.mono c4.size))
    have j7:=Hp (j8.below p)
    have k8:=Hp (k9.below p)
    have i3:=Hp (aF p b8)
    have k4:=Hp (aO k5 p)
    have g5:=Hp (aO g6 p)
    have b9:=Hp (aO i6 p)
    have j2:=Hp (aF p O)
    have a4:=Hp (aO g8 p)
    have i4:=Hp (show b0.heap[K.heap.size]? =some (.cells #[.int .i64 k3.major,.int .i64 k3.minor,.slice k3.eA k3.ex.length k3.eC,.slice A3 l3.length c3] 39 (0,0)) by rw[G];exact heap_alloc_new K _)
    have q4:=Hp (show b0.heap.size=K.heap.size+1 by rw[G];simp)
    have m2:=G.symm
    clear G p
    have a6:=Hp (show es.length<=o.length/\a3.length=o.length from⟨J.len,by rw[e5.out];exact Ag _ _ _⟩)
    have o8:=Hp (show a3.take es.length=es by rw[e5.out];exact J.errs.symm)
    have t6:=Hp (er_cap a4)
    have m8:=a6.out.1
    have f7:=a6.out.2
    have m9:=t6.out
    have n1:decide (o.length<es.length)=false:=GY7 (by omega)
    have x6:decide ((o.length:Int)<(es.length:Int))=false:=GY7 (by omega)
    have n2:(es.length:Int)<=b3:=by omega
    have n3:(0:Int)<=es.length:=by omega
    have f6:=Hp (fO eA d4 ec b3 es b0 (AO b9.out) (by have:=Row.take (enc:=fun n=>[iv n]) (k:=1) (fun _=>rfl) (AO a4.out) es.length;rwa [o8.out]at this) (by have:=b4.out;unfold big;omega))
    clear m8 f7 m9
    go_wp2_with fail
    refine(f6.out).mono ?_;rintro e l9 ⟨rfl,f⟩
    have l6:=Hp (c0.trans (f.mono c0.size))
    have x3:=Hp (j7.below f)
    have x4:=Hp (k8.below f)
    have x1:=Hp (aF f i3)
    have k1:=Hp (aO k4 f)
    have g4:=Hp (aO g5 f)
    have i5:=Hp (aO b9 f)
    have j1:=Hp (aF f j2)
    have g7:=Hp (aO a4 f)
    have x2:=Hp (aF f i4)
    have n7:=Hp (show PlMem Q x w7.heap.size F1 es a3 eA d4 ec b3 (.slice A6 Rs.length c6) Rs l9 from⟨l6.out,k1.out,j1.out,⟨g4.out,d5.out.1,d5.out.2⟩,i5.out,g7.out,u9.out⟩)
    clear f f6
    have x5:¬((40:Int)<o.length):=by have:=b4.out;omega
    go_wp2_with fail
    go_loopw [10,17] (fun v i wr=>∃(j:Nat)(A:Option Addr)(c:Nat)(T:List ByteArray),i=.int .i64 j/\v=.slice A T.length c/\j<=es.length/\Go.RowKit.Hid (T=Rs++SG (o.take j) (es.take j))/\PlMem Q x w7.heap.size F1 es a3 eA d4 ec b3 (.slice A T.length c) T wr) (fun _ i _=>es.length -(intOf i).toNat)
    case atStart=>exact⟨0,A6,c6,Rs,rfl,rfl,Nat.zero_le _,Hp (by rw[List.take_zero,List.take_zero];exact(List.append_nil _).symm),n7.out⟩
    case round=>
     obtain⟨j,A,c,T,rfl,rfl,hj,hT,hM⟩:=hrel
     have HM:=Hp hM
     have d6:=Hp hT.out
     have d7:=Hp (show T.length<=6000 by
      have h1:=congrArg List.length hT.out
      rw[GZ8]at h1
      have h2:=okOf_len (o.take j) (es.take j)
      have h3:=q5.out
      have h4:=a6.out.1
      have h5:=b4.out
      rw[GY6]at h2
      omega)
     clear hT
     by_cases B:j<es.length
     ·have v4:(j:Int)<es.length:=by omega
      have R:j<o.length:=by have:=a6.out.1;omega
      have v5:(j:Int)<o.length:=by omega
      obtain⟨ad,rfl,n4,k0⟩:=Mv (AO hM.ea) (GZ4 _ _) j B
      have i8:=Hp (DF B R)
      obtain⟨N,hN⟩:=Nm (es[j]'B)
      rw[<-hN]at k0
      by_cases t:N=0
      ·have a2:=J.good j B (hN.symm.trans t) R
       have d3:=t9.below HM.bel
       obtain⟨x7,rfl,v7,p0,p1,p2,p3,p4,p5,p6,p7,p8⟩:=Jv d3.row (GZ4 _ _) j R
       have c9:=(d3.each _ (GZ9 R)).1
       have M:=Hp (show SG (o.take (j+1)) (es.take (j+1))=SG (o.take j) (es.take j)++[jY (o[j]'R)] by rw[i8.out,if_pos (hN.symm.trans t)])
       obtain⟨y,hy⟩:=Nm (o[j]'R)
       simp only[<-hy]at p0 p1 p2 p3 p4 p5 p6 p7 p8 c9 a2 M
       obtain⟨s,hs⟩:=Nm (jY y)
       have cB:=Hp (show Calls Tryz.prog 64 #[.agg #[.int .i64 y.kind,.string y.m.name,.int .i64 y.m.major,.int .i64 y.m.minor,.string y.m.text,.slice y.m.eA y.m.ex.length y.m.eC,.slice y.m.iA y.m.im.length y.m.iC,.slice y.m.pA y.m.pa.length y.m.pC,.string y.nm]] wr fun e w'=>e=.returned (.string s)/\Below wr.heap.size wr w' from hs▸UU y wr c9 a2)
       have i7:=Hp (show Rs++SG (o.take (j+1)) (es.take (j+1))=T++[s] by rw[M.out,d6.out,List.append_assoc,hs])
       subst t
       clear hM d3 c9 a2 hy hs hN
       go_wp2_with (first
        |(go_at_call 64;refine(cB.out).mono ?_;rintro e U ⟨rfl,r⟩
          obtain⟨w2,b1⟩:=Nm (U.alloc (.cells #[.string s] 9))
          have q:Below U.heap.size U w2:=b1▸ZB
          have e4:=Hp ((HM.later r).later q)
          have d8:=Hp (show Row strCells 1 w2 (some ⟨U.heap.size,0,none⟩) [s] from pF (enc:=strCells) (k:=1) (fun _=>rfl) (b1▸heap_alloc_new _ _) rfl)
          have r7:=Hp (show T.length+[s].length<=1000000 by have:=d7.out;simp only[List.length_singleton];omega)
          have v2:=b1.symm
          clear b1 r q)
        |(at_builtin;refine vK w2 rfl (.tmp 95) (.tmp 101) rfl Q.heap.size _ T rfl e4.all (some ⟨U.heap.size,0,none⟩) 1 [s] rfl d8.out r7.out e4.bel.size ?_
          intro v' K Y d b7 b6
          obtain⟨v0,n5,rfl⟩:=bG Y
          have O:=Hp (e4.put Y d b7 b6)
          clear Y d b7 b6))
       go_roundw
       case rel=>exact⟨j+1,v0,n5,T++[s],by go_num,by rw[GZ8];rfl,B,Hp i7.symm,O.out⟩
       case measure=>(simp[intOf];try omega)
      ·have t1:(N==0)=false:=by simp[t]
       have M:=Hp (show T=Rs++SG (o.take (j+1)) (es.take (j+1)) by rw[i8.out,if_neg (fun e=>t (hN.trans e)),List.append_nil];exact d6.out)
       clear hM t hN
       go_wp2_with fail
       go_roundw
       case rel=>exact⟨j+1,A,c,T,by go_num,rfl,B,Hp M.out,HM.out⟩
       case measure=>(simp[intOf];try omega)
     ·obtain rfl:j=es.length:=by omega
      have o7:=Hp (show T=Rs++SG o es by rw[d6.out,List.take_of_length_le (l:=es) (GZ3 _),Ja])
      have d0:=J4 HM.box
      have c8:=wJ x wr (HM.fl.ok (.inr J.ok))
      rw[HM.fl.is,J.opens.1,J.opens.2,<-o7.out]at c8
      have q9:=Hp c8
      clear hM c8
      go_wp2_with fail
      refine(q9.out).mono ?_;rintro e U ⟨r,A1,n6,R1,rfl,f0,rfl⟩
      have j3:=Hp (HM.later r)
      have f8:=Hp (pX A1 A n6 c R1 R1 U (t_row f0) (t_row j3.all) (by have:=d7.out;unfold big;omega) (by have:=d7.out;unfold big;omega))
      rw[decide_eq_true rfl]at f8
      clear r f0 d0
      go_wp2_with fail
      refine(f8.out).mono ?_;rintro e w2 ⟨rfl,q⟩
      have d9:=Hp (j3.later q)
      clear q f8
      by_cases u:es.length=o.length
      ·have h0:c1=0:=J.all u
       have u':(es.length:Int)=o.length:=by omega
       subst h0
       go_wp2_with fail
       go_ret
       exact⟨by simp,d9.bel⟩
      ·have B:es.length<o.length:=by have:=a6.out.1;omega
       obtain⟨h8,h9⟩:=J.stop B
       dsimp only at h8 h9
       rw[<-e5.out]at h9
       obtain⟨hq,g3⟩:=List.getElem?_eq_some_iff.1 h9
       obtain⟨ad,rfl,n4,k0⟩:=Mv (AO d9.eb) (GZ4 _ _) es.length hq
       rw[g3]at k0
       have u1:((es.length:Int)==o.length)=false:=by simp;omega
       have u2:(es.length:Int)<a3.length:=by omega
       subst h8
       clear h9 g3 hq u B
       go_wp2_with fail
       go_ret
       exact⟨by simp,d9.bel⟩
   ·have g2:fD k F o=([],[],2):=by unfold fD;rw[if_pos (by omega)]
    have m3:=HP.trans g2
    injection m3 with e1 e2
    injection e2 with e2 e3
    subst e1 e2 e3
    have m1:x.bl=[]:=d5.out.2
    have m0:(40:Int)<o.length:=by omega
    have d0:=J4 i9.out
    rw[m1]at d0 b5
    simp only[List.length_nil]at d0 b5
    clear t4 g2
    go_wp2_with fail
    go_ret
    exact⟨by simp,e7.out⟩
  ·have t1:(E != 0)=true:=by simp[t]
   clear t
   go_wp2_with fail
   go_ret
   exact⟨rfl,a7.out⟩
 ·have f1:=Hp (yQ n rA rl rc w3 t)
  clear t
  refine(f1.out).mono ?_;rintro e w4 ⟨rfl,I⟩
  have a8:=Hp (a9.trans (I.mono a9.size))
  clear I
  go_wp2_with fail
  go_ret
  exact⟨by simp,a8.alloc a8.size _⟩
theorem sH :joinedFacts Tryz.prog 11 Tryz.f11 Rows.sessionPlaysSpec Rows.sessionPlaysRow=true:=by
 unfold joinedFacts
 simp only[Bool.and_eq_true]
 and_intros
 ·as_aux_lemma=>kernel_rfl
 ·exact Tryz.laidOut
 ·exact Tryz.Sa
 ·as_aux_lemma=>kernel_rfl
 ·as_aux_lemma=>kernel_rfl
 ·as_aux_lemma=>kernel_rfl
 ·exact Tryz.UF
 ·as_aux_lemma=>kernel_rfl
 ·exact Tryz.SS
 ·as_aux_lemma=>kernel_rfl
 ·as_aux_lemma=>kernel_rfl
 ·as_aux_lemma=>kernel_rfl
 ·as_aux_lemma=>kernel_rfl
 ·as_aux_lemma=>kernel_rfl
 ·as_aux_lemma=>kernel_rfl
 ·as_aux_lemma=>kernel_rfl
 ·as_aux_lemma=>kernel_rfl
 ·as_aux_lemma=>kernel_rfl
 ·as_aux_lemma=>kernel_rfl
 ·as_aux_lemma=>kernel_rfl
 ·as_aux_lemma=>kernel_rfl
 ·as_aux_lemma=>kernel_rfl
 ·exact Tryz.Sc
 ·as_aux_lemma=>kernel_rfl
 ·exact Tryz.jD
 ·exact Tryz.kY
 ·exact Tryz.rW
 ·exact Tryz.xI
 ·as_aux_lemma=>kernel_rfl
 ·as_aux_lemma=>kernel_rfl
 ·as_aux_lemma=>kernel_rfl
 ·as_aux_lemma=>kernel_rfl
theorem UG (G:Os)(c:G.Started)(H:Type)(enc:TypeId×Value->H):
  ReturnsInHanded {} Tryz.checked G 11 .any (Rows.sessionPlaysSpec.pre6 enc Tryz.prog Tryz.f11 Rows.sessionPlaysRow.domain false) (Rows.sessionPlaysSpec.post enc Tryz.prog Tryz.f11 false true false false):=by
 refine returnsInHanded_of_change_sized (C:=Tryz.checked) Tryz.own c (by kernel_rfl) Tryz.func11
  (ChangeSpec.witness6 (enc:=enc) (C:=Tryz.checked) false ⟨#[],#[.agg #[.int .i64 0,.int .i64 0,.slice none 0 0],.int .i64 0,.slice none 0 0,.slice none 0 0],[]⟩ 8 (by kernel_rfl) (by kernel_rfl) (by kernel_rfl) (by kernel_rfl)) ?_
 intro W h b L gs i f J I g _
 have a:∀(j:Nat)t v,Tryz.f11.params[j]? =some t->b[j]? =some v->Value.okWide Tryz.prog W .any h t v:=f
 have d:(DataW.weightsEach Tryz.prog (Tryz.f11.params.toList++Rows.sessionPlaysSpec.plain.varTypes Tryz.prog) (L++gs)).all (· <=reachBytes)=true:=g
 have w:=J
 obtain⟨p,q,x,hV,rfl,a0,Z⟩:=J
 have K:DataW.TrodAll enc Tryz.prog W 0 (fun _=>true) true Tryz.f11.params.toList b.toList L p:=x
 rw[Tryz.params11]at K a d
 obtain⟨F,P,d0,a4,p0,q0,u,rfl,rfl,h0,V⟩:=trodAll_cons K
 obtain⟨E,O,d1,a3,p1,q1,rfl,rfl,rfl,h1,U⟩:=trodAll_cons V
 obtain⟨D,N,d2,a2,p2,q2,rfl,rfl,rfl,h2,T⟩:=trodAll_cons U
 obtain⟨B,M,d3,a1,p3,q3,rfl,rfl,rfl,h3,S⟩:=trodAll_cons T
 obtain⟨rfl,rfl,rfl⟩:=trodAll_nil S
 obtain rfl:b=#[F,E,D,B]:=by cases b;simp_all
 obtain⟨rfl,rfl⟩:=trodVars_none hV
 have A:=fF d (j:=0) rfl rfl
 obtain⟨k,rfl,s⟩:=nO (a 0 24 F rfl rfl) h0 A
 obtain⟨n,rfl,rfl,rfl,w1⟩:=open_int Tryz.underlying3 (a 1 3 E rfl rfl) h1
 have z:=fF d (j:=2) rfl rfl
 obtain⟨R,r,Q,rfl,o⟩:=Ab (a 2 27 D rfl rfl) h2 z
 have y:=fF d (j:=3) rfl rfl
 obtain⟨Y,l,X,rfl,m⟩:=UD (a 3 25 B rfl rfl) h3 y
 refine(SessionPlays_any k n R r Q Y l X W s o m).mono fun e W' ⟨he,hb⟩=>?_
 subst he
 exact⟨_,rfl,nZ Tryz.laidOut w rfl (by decide+kernel) rfl Tryz.underlying4 rfl rfl rfl hb⟩
theorem sessionPlays_holds :Rows.SessionPlaysSaid:=
 OpenClaim.holds_of_wide 11 Tryz.f11 rfl rfl rfl rfl rfl rfl rfl ⟨rfl,rfl,rfl,rfl,rfl⟩ rfl rfl rfl rfl rfl (by kernel_rfl) Tryz.func11 sH
  (of_decide_eq_true (by kernel_rfl)) (by unfold Func.isWrapper;first|(rw[if_pos (by decide+kernel)];kernel_rfl)|(rw[if_neg (by decide+kernel)];exact⟨rfl,rfl⟩))
  (fun b a H enc _=>UG b a H enc)
#print axioms sessionPlays_holds
end Go.Proofs.YtjiedaialianmaaGreat
