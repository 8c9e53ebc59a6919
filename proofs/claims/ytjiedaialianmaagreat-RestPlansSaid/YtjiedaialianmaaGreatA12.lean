import Derived.Test.YtjiedaialianmaaGreatA07
set_option maxRecDepth 100000
set_option maxHeartbeats 16000000
namespace Go.Proofs.YtjiedaialianmaaGreat
section
open Go.RowKit
theorem iV (m:Mod)(w:World)(h:m.ok w):
  Calls Tryz.prog 104 #[m.v] w fun e d=>e=.returned (.int .i64 (aL m))/\Below w.heap.size w d:=by
 obtain⟨T,S,R,a4,a2⟩:=h
 obtain⟨I,Q,P,tx,K,c,B,eA,eC,iA,iC,pA,pC⟩:=m
 simp only at T S R a4 a2
 obtain⟨w0,a1⟩:=Nm (w.alloc (.cells #[.string I,.int .i64 Q,.int .i64 P,.string tx,.slice eA K.length eC,.slice iA c.length iC,.slice pA B.length pC] 70))
 obtain⟨g0,g1,g2,g3,g4,g5,g6,hz,b9⟩:=wE a1
 have f0:w.heap.size<w0.heap.size:=by omega
 have f:=Hp b9
 have HZ:=Hp hz
 have e5:=a1.symm
 clear a1 b9 hz
 obtain⟨E,g⟩:=Nm (aL ⟨I,Q,P,tx,K,c,B,eA,eC,iA,iC,pA,pC⟩)
 rw[<-g]
 have d6:=T.2.1
 have d5:=S.2.1
 have d4:=R.2
 have ht:=a2
 unfold big at d6 d5 d4 ht
 have z1:=Hp (show(tx.size:Int)<=big by unfold big;omega)
 have c0:=Hp T
 have X:=Hp S
 have e3:=Hp R
 have b4:aL ⟨I,Q,P,tx,K,c,B,eA,eC,iA,iC,pA,pC⟩=if isName I=false\/I=RG then 1
  else if Q<0\/255<Q\/P<0\/255<P then 3
  else if 256<tx.size\/6<K.length\/6<c.length\/12<B.length then 2
  else if tx.size=0\/tx.size % 4≠0 then 1
  else if eF [] tx.size K≠0 then eF [] tx.size K
  else if eP [] c≠0 then eP [] c
  else Rp tx.size c.length 0 B:=rfl
 rw[b4]at g
 have s:=Hp (fun W=>Sl I W a4)
 have t:=Hp (fun W(u:Below w.heap.size w W)=>oP eA eC K tx.size W ⟨c0.out.1.below u,c0.out.2⟩ (by omega) z1.out)
 have kq:=rX I
 clear b4 a4 T S R a2
 by_cases Y:isName I=true
 case neg=>
  rw[if_pos (by simp at Y;exact .inl Y)]at g
  rw[show isName I=false by simpa using Y]at s
  clear Y kq
  go_enter Tryz.func104,Tryz.ntmps104
  go_wp2_with (first|(go_at_call 142;(with_reducible refine(s.out _).mono ?_);rintro e d ⟨rfl,rfl⟩)|(go_at_call 75;(with_reducible refine(H.out _).mono ?_);rintro e d ⟨rfl,rfl⟩)|(go_at_call 75;(with_reducible refine(x.out _).mono ?_);rintro e d ⟨rfl,rfl⟩)|(go_at_call 76;(with_reducible refine(t.out _ f.out).mono ?_);rintro e n ⟨rfl,a⟩;obtain⟨r,q⟩:=aJ a;have o:w.heap.size<n.heap.size:=by have:=a.size;(try simp at this);omega))
  go_ret
  exact⟨aC g.symm,f.out⟩
 rw[Y]at s
 by_cases t2:I=RG
 case pos=>
  rw[if_pos (.inr t2)]at g
  rw[show decide (I=RG)=true by simp[t2]]at kq
  clear Y t2
  go_enter Tryz.func104,Tryz.ntmps104
  go_wp2_with (first|(go_at_call 142;(with_reducible refine(s.out _).mono ?_);rintro e d ⟨rfl,rfl⟩)|(go_at_call 75;(with_reducible refine(H.out _).mono ?_);rintro e d ⟨rfl,rfl⟩)|(go_at_call 75;(with_reducible refine(x.out _).mono ?_);rintro e d ⟨rfl,rfl⟩)|(go_at_call 76;(with_reducible refine(t.out _ f.out).mono ?_);rintro e n ⟨rfl,a⟩;obtain⟨r,q⟩:=aJ a;have o:w.heap.size<n.heap.size:=by have:=a.size;(try simp at this);omega))
  go_ret
  exact⟨aC g.symm,f.out⟩
 rw[if_neg (by simp[Y,t2])]at g
 rw[show decide (I=RG)=false by simp[t2]]at kq
 clear Y t2
 by_cases t3:0<=Q/\Q<=255
 case neg=>
  rw[if_pos (by omega)]at g
  have H:=Hp (fun W=>RQ Q 0 255 W (by omega))
  clear t3
  go_enter Tryz.func104,Tryz.ntmps104
  go_wp2_with (first|(go_at_call 142;(with_reducible refine(s.out _).mono ?_);rintro e d ⟨rfl,rfl⟩)|(go_at_call 75;(with_reducible refine(H.out _).mono ?_);rintro e d ⟨rfl,rfl⟩)|(go_at_call 75;(with_reducible refine(x.out _).mono ?_);rintro e d ⟨rfl,rfl⟩)|(go_at_call 76;(with_reducible refine(t.out _ f.out).mono ?_);rintro e n ⟨rfl,a⟩;obtain⟨r,q⟩:=aJ a;have o:w.heap.size<n.heap.size:=by have:=a.size;(try simp at this);omega))
  go_ret
  exact⟨aC g.symm,f.out⟩
 have H:=Hp (fun W=>bK Q 0 255 W t3.1 t3.2)
 by_cases t4:0<=P/\P<=255
 case neg=>
  rw[if_pos (by omega)]at g
  have x:=Hp (fun W=>RQ P 0 255 W (by omega))
  clear t3 t4
  go_enter Tryz.func104,Tryz.ntmps104
  go_wp2_with (first|(go_at_call 142;(with_reducible refine(s.out _).mono ?_);rintro e d ⟨rfl,rfl⟩)|(go_at_call 75;(with_reducible refine(H.out _).mono ?_);rintro e d ⟨rfl,rfl⟩)|(go_at_call 75;(with_reducible refine(x.out _).mono ?_);rintro e d ⟨rfl,rfl⟩)|(go_at_call 76;(with_reducible refine(t.out _ f.out).mono ?_);rintro e n ⟨rfl,a⟩;obtain⟨r,q⟩:=aJ a;have o:w.heap.size<n.heap.size:=by have:=a.size;(try simp at this);omega))
  go_ret
  exact⟨aC g.symm,f.out⟩
 have x:=Hp (fun W=>bK P 0 255 W t4.1 t4.2)
 rw[if_neg (by omega)]at g
 clear t3 t4
 by_cases t4:256<tx.size
 case pos=>
  rw[if_pos (by omega)]at g
  have d0:(256:Int)<(tx.size:Nat):=by omega
  clear t4
  go_enter Tryz.func104,Tryz.ntmps104
  go_wp2_with (first|(go_at_call 142;(with_reducible refine(s.out _).mono ?_);rintro e d ⟨rfl,rfl⟩)|(go_at_call 75;(with_reducible refine(H.out _).mono ?_);rintro e d ⟨rfl,rfl⟩)|(go_at_call 75;(with_reducible refine(x.out _).mono ?_);rintro e d ⟨rfl,rfl⟩)|(go_at_call 76;(with_reducible refine(t.out _ f.out).mono ?_);rintro e n ⟨rfl,a⟩;obtain⟨r,q⟩:=aJ a;have o:w.heap.size<n.heap.size:=by have:=a.size;(try simp at this);omega))
  go_ret
  exact⟨aC g.symm,f.out⟩
 have d0:decide ((256:Int)<(tx.size:Nat))=false:=by simp;omega
 by_cases t5:6<K.length
 case pos=>
  rw[if_pos (by omega)]at g
  have c9:(6:Int)<(K.length:Nat):=by omega
  clear t5
  go_enter Tryz.func104,Tryz.ntmps104
  go_wp2_with (first|(go_at_call 142;(with_reducible refine(s.out _).mono ?_);rintro e d ⟨rfl,rfl⟩)|(go_at_call 75;(with_reducible refine(H.out _).mono ?_);rintro e d ⟨rfl,rfl⟩)|(go_at_call 75;(with_reducible refine(x.out _).mono ?_);rintro e d ⟨rfl,rfl⟩)|(go_at_call 76;(with_reducible refine(t.out _ f.out).mono ?_);rintro e n ⟨rfl,a⟩;obtain⟨r,q⟩:=aJ a;have o:w.heap.size<n.heap.size:=by have:=a.size;(try simp at this);omega))
  go_ret
  exact⟨aC g.symm,f.out⟩
 have c9:decide ((6:Int)<(K.length:Nat))=false:=by simp;omega
 by_cases t6:6<c.length
 case pos=>
  rw[if_pos (by omega)]at g
  have c8:(6:Int)<(c.length:Nat):=by omega
  clear t6
  go_enter Tryz.func104,Tryz.ntmps104
  go_wp2_with (first|(go_at_call 142;(with_reducible refine(s.out _).mono ?_);rintro e d ⟨rfl,rfl⟩)|(go_at_call 75;(with_reducible refine(H.out _).mono ?_);rintro e d ⟨rfl,rfl⟩)|(go_at_call 75;(with_reducible refine(x.out _).mono ?_);rintro e d ⟨rfl,rfl⟩)|(go_at_call 76;(with_reducible refine(t.out _ f.out).mono ?_);rintro e n ⟨rfl,a⟩;obtain⟨r,q⟩:=aJ a;have o:w.heap.size<n.heap.size:=by have:=a.size;(try simp at this);omega))
  go_ret
  exact⟨aC g.symm,f.out⟩
 have c8:decide ((6:Int)<(c.length:Nat))=false:=by simp;omega
 by_cases t7:12<B.length
 case pos=>
  rw[if_pos (by omega)]at g
  have c7:(12:Int)<(B.length:Nat):=by omega
  clear t7
  go_enter Tryz.func104,Tryz.ntmps104
  go_wp2_with (first|(go_at_call 142;(with_reducible refine(s.out _).mono ?_);rintro e d ⟨rfl,rfl⟩)|(go_at_call 75;(with_reducible refine(H.out _).mono ?_);rintro e d ⟨rfl,rfl⟩)|(go_at_call 75;(with_reducible refine(x.out _).mono ?_);rintro e d ⟨rfl,rfl⟩)|(go_at_call 76;(with_reducible refine(t.out _ f.out).mono ?_);rintro e n ⟨rfl,a⟩;obtain⟨r,q⟩:=aJ a;have o:w.heap.size<n.heap.size:=by have:=a.size;(try simp at this);omega))
  go_ret
  exact⟨aC g.symm,f.out⟩
 have c7:decide ((12:Int)<(B.length:Nat))=false:=by simp;omega
 rw[if_neg (by omega)]at g
 clear t4 t5 t6 t7
 obtain⟨r4,tm,a3⟩:∃r4:Int,Int.tmod (tx.size:Int) 4=r4/\r4=((tx.size % 4:Nat):Int):=⟨_,rfl,by rw[Int.tmod_eq_emod_of_nonneg (by omega)];omega⟩
 by_cases t8:tx.size=0
 case pos=>
  rw[if_pos (.inl t8)]at g
  have c6:((tx.size:Int)==0)=true:=by simp[t8]
  clear t8 tm a3
  go_enter Tryz.func104,Tryz.ntmps104
  go_wp2_with (first|(go_at_call 142;(with_reducible refine(s.out _).mono ?_);rintro e d ⟨rfl,rfl⟩)|(go_at_call 75;(with_reducible refine(H.out _).mono ?_);rintro e d ⟨rfl,rfl⟩)|(go_at_call 75;(with_reducible refine(x.out _).mono ?_);rintro e d ⟨rfl,rfl⟩)|(go_at_call 76;(with_reducible refine(t.out _ f.out).mono ?_);rintro e n ⟨rfl,a⟩;obtain⟨r,q⟩:=aJ a;have o:w.heap.size<n.heap.size:=by have:=a.size;(try simp at this);omega))
  go_ret
  exact⟨aC g.symm,f.out⟩
 have c6:((tx.size:Int)==0)=false:=by simp[t8]
 by_cases t9:tx.size % 4=0
 case neg=>
  rw[if_pos (.inr t9)]at g
  have e9:(0:Int)<r4:=by omega
  clear t8 t9 a3
  go_enter Tryz.func104,Tryz.ntmps104
  go_wp2_with (first|(go_at_call 142;(with_reducible refine(s.out _).mono ?_);rintro e d ⟨rfl,rfl⟩)|(go_at_call 75;(with_reducible refine(H.out _).mono ?_);rintro e d ⟨rfl,rfl⟩)|(go_at_call 75;(with_reducible refine(x.out _).mono ?_);rintro e d ⟨rfl,rfl⟩)|(go_at_call 76;(with_reducible refine(t.out _ f.out).mono ?_);rintro e n ⟨rfl,a⟩;obtain⟨r,q⟩:=aJ a;have o:w.heap.size<n.heap.size:=by have:=a.size;(try simp at this);omega))
  go_ret
  exact⟨aC g.symm,f.out⟩
 rw[if_neg (by omega)]at g
 obtain rfl:r4=0:=by omega
 clear t8 t9 a3
 by_cases u1:eF [] tx.size K=0
 case neg=>
  rw[if_pos u1]at g
  generalize eF [] tx.size K=ee at*
  have e8:(ee != 0)=true:=by simp[u1]
  clear u1
  go_enter Tryz.func104,Tryz.ntmps104
  go_wp2_with (first|(go_at_call 142;(with_reducible refine(s.out _).mono ?_);rintro e d ⟨rfl,rfl⟩)|(go_at_call 75;(with_reducible refine(H.out _).mono ?_);rintro e d ⟨rfl,rfl⟩)|(go_at_call 75;(with_reducible refine(x.out _).mono ?_);rintro e d ⟨rfl,rfl⟩)|(go_at_call 76;(with_reducible refine(t.out _ f.out).mono ?_);rintro e n ⟨rfl,a⟩;obtain⟨r,q⟩:=aJ a;have o:w.heap.size<n.heap.size:=by have:=a.size;(try simp at this);omega))
  go_ret
  exact⟨aC g.symm,f.trans (a.mono (by omega))⟩
 rw[if_neg (by omega)]at g
 rw[u1]at t
 have HE:=Hp g
 clear u1 g
 go_enter Tryz.func104,Tryz.ntmps104
 go_wp2_with (first|(go_at_call 142;(with_reducible refine(s.out _).mono ?_);rintro e d ⟨rfl,rfl⟩)|(go_at_call 75;(with_reducible refine(H.out _).mono ?_);rintro e d ⟨rfl,rfl⟩)|(go_at_call 75;(with_reducible refine(x.out _).mono ?_);rintro e d ⟨rfl,rfl⟩)|(go_at_call 76;(with_reducible refine(t.out _ f.out).mono ?_);rintro e n ⟨rfl,a⟩;obtain⟨r,q⟩:=aJ a;have o:w.heap.size<n.heap.size:=by have:=a.size;(try simp at this);omega))
 go_loopw [4] (fun i wr=>∃j:Nat,j<=c.length/\i=.int .i64 j/\gM c j=eP [] c/\Below (w.heap.size+1) w0 wr) (fun i _=>c.length -(intOf i).toNat)
 case atStart=>exact⟨0,by omega,rfl,rfl,a.mono (by have:=HZ.out;omega)⟩
 case round=>
  obtain⟨j,hj,rfl,hI,u⟩:=hrel
  have HI:=Hp hI
  have O:=Hp u
  clear hI
  have f3:=(u.cell (p:=⟨w.heap.size,3,none⟩) (by simp)).trans g3
  have f5:=(u.cell (p:=⟨w.heap.size,5,none⟩) (by simp)).trans g5
  have f6:=(u.cell (p:=⟨w.heap.size,6,none⟩) (by simp)).trans g6
  have d2:w.heap.size<wr.heap.size:=by have:=u.size;have:=HZ.out;omega
  by_cases b:j<c.length
  ·have b6:(j:Int)<c.length:=by omega
   obtain⟨ad,rfl,e0,h0,U,h2,h3⟩:=TA X.out.1 (f.trans (u.mono (by omega))) j b
   obtain⟨a8,a7⟩:=X.out.2.2 c[j] (GZ9 _)
   have d1:=Hp (fun W=>zB (c[j]'b).mod (c[j]'b).name (c[j]'b).major (c[j]'b).minor W a8 a7)
   obtain⟨er,a6⟩:=Nm (dP (c[j]'b))
   have a0:er=dP ⟨(c[j]'b).mod,(c[j]'b).name,(c[j]'b).major,(c[j]'b).minor⟩:=a6
   rw[<-a0]at d1
   have M:=Hp a6
   clear u a6 a0
   by_cases h5:er=1
   ·obtain rfl:=h5
    have l:=Hp ((tY b M.symm).symm.trans HI.out)
    have y:=Hp (show E=1 by rw[HE.out,<-l.out];rfl)
    go_wp2_with (first|(go_at_call 178;(with_reducible refine(d1.out _).mono ?_);rintro e w4 ⟨rfl,C⟩;obtain⟨d9,d8⟩:=aJ C;have d3:w.heap.size<w4.heap.size:=by have:=C.size;(try simp at this);omega))
    go_ret
    exact⟨aC y.symm,(f.trans (O.mono (by omega))).trans (C.mono (by omega))⟩
   ·have f7:(er==1)=false:=by simp[h5]
    have H5:=Hp (show dP (c[j]'b)≠1 by rw[<-M.out];exact h5)
    clear h5
    go_wp2_with (first|(go_at_call 178;(with_reducible refine(d1.out _).mono ?_);rintro e w4 ⟨rfl,C⟩;obtain⟨d9,d8⟩:=aJ C;have d3:w.heap.size<w4.heap.size:=by have:=C.size;(try simp at this);omega))
    go_loopw [6] (fun i wi=>∃k:Nat,k<=j/\i=.int .i64 k/\(∀J(hk:J<c.length),J<k->¬(c[J].mod=c[j].mod/\c[J].name=c[j].name))/\Below (w.heap.size+1) w0 wi) (fun i _=>j -(intOf i).toNat)
    case atStart=>exact⟨0,by omega,rfl,by omega,O.trans (C.mono (by omega))⟩
    case round=>
     obtain⟨k,hk,rfl,hK,G⟩:=hrel
     have V:=Hp hK
     have N:=Hp G
     clear hK
     have f5:=(G.cell (p:=⟨w.heap.size,5,none⟩) (by simp)).trans g5
     obtain⟨_,L,_,i0,i1,_,_⟩:=TA X.out.1 (f.trans (G.mono (by omega))) j b
     obtain rfl:=GY3 L
     by_cases d7:k<j
     ·have b8:k<c.length:=by omega
      have e7:(k:Int)<j:=by omega
      have e6:(k:Int)<c.length:=by omega
      obtain⟨_,L,_,p0,p1,_,_⟩:=TA X.out.1 (f.trans (G.mono (by omega))) k b8
      obtain rfl:=GY3 L
      clear G L
      by_cases q1:c[k].mod=c[j].mod
      ·by_cases q2:c[k].name=c[j].name
       ·have l:=Hp ((nC b H5.out b8 d7 ⟨q1,q2⟩).symm.trans HI.out)
        have y:=Hp (show E=6 by rw[HE.out,<-l.out];rfl)
        have r1:=str_eq q1
        have r2:=str_eq q2
        clear q1 q2
        go_wp2_with fail
        go_quiet (fail)
        go_wp2_with fail
        go_ret
        exact⟨aC y.symm,f.trans ((below_drewN N.out _).mono (by omega))⟩
       ·have HQ:=Hp (fun(hq:c[k].mod=c[j].mod/\c[k].name=c[j].name)=>q2 hq.2)
        have r1:=str_eq q1
        have r2:=mY q2
        clear q1 q2
        go_wp2_with fail
        go_quiet (fail)
        go_wp2_with fail
        go_roundw
        case rel=>exact⟨k+1,by omega,by go_num,fun J h' b=>by rcases Nat.lt_succ_iff_lt_or_eq.1 b with h|rfl;exact V.out J h' h;exact HQ.out,below_drewN N.out _⟩
        case measure=>(simp[intOf];try omega)
      ·have HQ:=Hp (fun(hq:c[k].mod=c[j].mod/\c[k].name=c[j].name)=>q1 hq.1)
       have r1:=mY q1
       clear q1
       go_wp2_with fail
       go_quiet (fail)
       go_wp2_with fail
       go_roundw
       case rel=>exact⟨k+1,by omega,by go_num,fun J h' b=>by rcases Nat.lt_succ_iff_lt_or_eq.1 b with h|rfl;exact V.out J h' h;exact HQ.out,below_drewN N.out _⟩
       case measure=>(simp[intOf];try omega)
     ·obtain rfl:k=j:=by omega
      clear G L
      by_cases h6:er=0
      ·obtain rfl:=h6
       have l:=Hp ((tL b M.symm (fun J h' b=>V.out J h' b)).trans HI.out)
       go_wp2_with fail
       go_roundw
       case rel=>exact⟨k+1,by omega,by go_num,l.out,N.out⟩
       case measure=>(simp[intOf];try omega)
      ·have h7:er=3:=by
        have:=vQ (c[k]'b);have:=H5.out;rw[<-M.out]at*;omega
       obtain rfl:=h7
       have l:=Hp ((qD b M.symm (fun J h' b=>V.out J h' b)).symm.trans HI.out)
       have y:=Hp (show E=3 by rw[HE.out,<-l.out];rfl)
       clear h6
       go_wp2_with fail
       go_ret
       exact⟨aC y.symm,f.trans (N.mono (by omega))⟩
  ·have l:=Hp ((U0 b).symm.trans HI.out)
   have e4:=Hp (show E=Rp tx.size c.length 0 B by rw[HE.out,<-l.out];rfl)
   clear u
   go_wp2_with fail
   go_loopw [7,8] (fun e i wr=>∃(j:Nat)(F:Int),j<=B.length/\i=.int .i64 j/\e=.int .i64 F/\0<=F/\F<=140737488351236/\kK tx.size c.length B j F=E/\Below (w.heap.size+1) w0 wr) (fun _ i _=>B.length -(intOf i).toNat)
   case atStart=>exact⟨0,0,by omega,rfl,rfl,by omega,by omega,e4.symm,O.out⟩
   case round=>
    obtain⟨j,F,hj,rfl,rfl,f4,f2,g,u⟩:=hrel
    have HE:=Hp g
    have O:=Hp u
    clear g
    have f3:=(u.cell (p:=⟨w.heap.size,3,none⟩) (by simp)).trans g3
    have f5:=(u.cell (p:=⟨w.heap.size,5,none⟩) (by simp)).trans g5
    have f6:=(u.cell (p:=⟨w.heap.size,6,none⟩) (by simp)).trans g6
    have d2:w.heap.size<wr.heap.size:=by have:=u.size;have:=HZ.out;omega
    by_cases b:j<B.length
    ·have b6:(j:Int)<B.length:=by omega
     obtain⟨ad,rfl,e0,h0,U,h2,h3⟩:=qE e3.out.1 (f.trans (u.mono (by omega))) j b
     clear u
     obtain⟨p,hp⟩:=Nm (B[j])
     have he:=Hp (fun h=>(Ub (z:=tx.size) (ni:=c.length) (e:=F) b h).symm.trans HE.out)
     have hx:=Hp (fun h=>(tO (z:=tx.size) (ni:=c.length) (e:=F) b h).trans HE.out)
     rw[<-hp]at h0 U h2 h3 he hx
     have HP:=Hp hp
     clear hp
     obtain⟨kd,at_,Z,A⟩:=p
     simp only at h0 U h2 h3
     obtain⟨k,hk⟩:=Nm (aK kd)
     have s:=Hp (fun W=>gL kd W)
     rw[<-hk]at s
     have b7:=VK kd
     rw[<-hk]at b7
     have V:=Hp hk
     clear hk
     have qk:wrap64 ((c.length:Int) -1)=c.length -1:=IntWalk.wrap64_in _ (by omega)
     have qz:wrap64 ((tx.size:Int) -k)=tx.size -k:=IntWalk.wrap64_in _ (by omega)
     rcases b7 with h5|⟨h5,h6⟩
     ·obtain rfl:=h5
      have l:=Hp (Uy (z:=tx.size) (ni:=c.length) (e:=F) (p:=⟨kd,at_,Z,A⟩) V.symm)
      have y:=Hp ((l.symm).trans (he.out (by rw[l.out];omega)))
      go_wp2_with (first|(go_at_call 179;(with_reducible refine(s.out _).mono ?_);rintro e d ⟨rfl,rfl⟩))
      go_ret
      exact⟨aC y.out,f.trans ((O.mono (by omega)).trans ((GZ4 _ _).alloc (by omega) _))⟩
     ·have f1:(k==0)=false:=by simp;omega
      have a5:=Hp (show aK kd≠0 by rw[<-V.out];omega)
      have D:=Hp (fun U=>(UZ (z:=tx.size) (ni:=c.length) (e:=F) (p:=⟨kd,at_,Z,A⟩) a5.out U))
      have a9:=Hp (fun U h2=>(vZ (z:=tx.size) (ni:=c.length) (e:=F) (p:=⟨kd,at_,Z,A⟩) a5.out U h2))
      have b0:=Hp (fun U h2=>(Df (z:=tx.size) (ni:=c.length) (e:=F) (p:=⟨kd,at_,Z,A⟩) a5.out U h2))
      simp only[<-V.out]at D a9 b0
      by_cases b1: -1<=Z/\Z<=c.length -1
      ·have t:=Hp (fun W=>bK Z (-1) (c.length -1) W b1.1 b1.2)
       by_cases b2:0<=A/\A<=65535
       ·have x:=Hp (fun W=>bK A 0 65535 W b2.1 b2.2)
        by_cases b3:0<=at_/\at_<=tx.size -k
        ·have c5:=Hp (fun W=>bK at_ 0 (tx.size -k) W b3.1 b3.2)
         by_cases b5:at_<F
         ·have l:=Hp (a9.out (by omega) b5)
          have y:=Hp ((l.symm).trans (he.out (by rw[l.out];omega)))
          clear b1 b2 b3
          go_wp2_with (first|(go_at_call 179;(with_reducible refine(s.out _).mono ?_);rintro e d ⟨rfl,rfl⟩)|(go_at_call 75;(with_reducible refine(t.out _).mono ?_);rintro e d ⟨rfl,rfl⟩)|(go_at_call 75;(with_reducible refine(x.out _).mono ?_);rintro e d ⟨rfl,rfl⟩)|(go_at_call 75;(with_reducible refine(c5.out _).mono ?_);rintro e d ⟨rfl,rfl⟩))
          go_ret
          exact⟨aC y.out,f.trans ((O.mono (by omega)).trans ((GZ4 _ _).alloc (by omega) _))⟩
         ·have f8:decide (at_<F)=false:=by simp;omega
          have l:=Hp (b0.out (by omega) b5)
          have y:=Hp (hx.out l.out)
          have q3:=Hp (show wrap64 (at_+k)=at_+k from IntWalk.wrap64_in _ (by omega))
          have r1:=Hp (show 0<=at_+k/\at_+k<=140737488351236 by omega)
          clear b1 b2 b3 b5
          go_wp2_with (first|(go_at_call 179;(with_reducible refine(s.out _).mono ?_);rintro e d ⟨rfl,rfl⟩)|(go_at_call 75;(with_reducible refine(t.out _).mono ?_);rintro e d ⟨rfl,rfl⟩)|(go_at_call 75;(with_reducible refine(x.out _).mono ?_);rintro e d ⟨rfl,rfl⟩)|(go_at_call 75;(with_reducible refine(c5.out _).mono ?_);rintro e d ⟨rfl,rfl⟩))
          go_roundw
          case rel=>exact⟨j+1,at_+k,by omega,by go_num,by rw[q3.out],r1.out.1,r1.out.2,by rw[V.out];exact y.out,O.trans ((GZ4 _ _).alloc (by omega) _)⟩
          case measure=>(simp[intOf];try omega)
        ·have c5:=Hp (fun W=>RQ at_ 0 (tx.size -k) W (by omega))
         have l:=Hp (D.out (by omega))
         have y:=Hp ((l.symm).trans (he.out (by rw[l.out];omega)))
         clear b1 b2 b3
         go_wp2_with (first|(go_at_call 179;(with_reducible refine(s.out _).mono ?_);rintro e d ⟨rfl,rfl⟩)|(go_at_call 75;(with_reducible refine(t.out _).mono ?_);rintro e d ⟨rfl,rfl⟩)|(go_at_call 75;(with_reducible refine(x.out _).mono ?_);rintro e d ⟨rfl,rfl⟩)|(go_at_call 75;(with_reducible refine(c5.out _).mono ?_);rintro e d ⟨rfl,rfl⟩))
         go_ret
         exact⟨aC y.out,f.trans ((O.mono (by omega)).trans ((GZ4 _ _).alloc (by omega) _))⟩
       ·have x:=Hp (fun W=>RQ A 0 65535 W (by omega))
        have l:=Hp (D.out (by omega))
        have y:=Hp ((l.symm).trans (he.out (by rw[l.out];omega)))
        clear b1 b2
        go_wp2_with (first|(go_at_call 179;(with_reducible refine(s.out _).mono ?_);rintro e d ⟨rfl,rfl⟩)|(go_at_call 75;(with_reducible refine(t.out _).mono ?_);rintro e d ⟨rfl,rfl⟩)|(go_at_call 75;(with_reducible refine(x.out _).mono ?_);rintro e d ⟨rfl,rfl⟩))
        go_ret
        exact⟨aC y.out,f.trans ((O.mono (by omega)).trans ((GZ4 _ _).alloc (by omega) _))⟩
      ·have t:=Hp (fun W=>RQ Z (-1) (c.length -1) W (by omega))
       have l:=Hp (D.out (by omega))
       have y:=Hp ((l.symm).trans (he.out (by rw[l.out];omega)))
       clear b1
       go_wp2_with (first|(go_at_call 179;(with_reducible refine(s.out _).mono ?_);rintro e d ⟨rfl,rfl⟩)|(go_at_call 75;(with_reducible refine(t.out _).mono ?_);rintro e d ⟨rfl,rfl⟩))
       go_ret
       exact⟨aC y.out,f.trans ((O.mono (by omega)).trans ((GZ4 _ _).alloc (by omega) _))⟩
    ·have l:=Hp ((vN (z:=tx.size) (ni:=c.length) (e:=F) b).symm.trans HE.out)
     clear u
     go_wp2_with fail
     go_ret
     exact⟨aC l.out,f.trans (O.mono (by omega))⟩
end
section
open Go.RowKit
theorem qG (m:Mod)(w:World)(h:m.text.size<=big):
  Calls Tryz.prog 164 #[m.v] w fun e a=>e=.returned (.int .i64 (aH m))/\Below w.heap.size w a:=by
 unfold big at h
 have f:wrap64 ((m.text.size:Int)+64)=m.text.size+64:=IntWalk.wrap64_in _ (by omega)
 have d:wrap64 ((m.text.size:Int)+64 -1)=m.text.size+64 -1:=IntWalk.wrap64_in _ (by omega)
 have c:((m.text.size:Int)+64 -1).tdiv 64=aH m:=by unfold aH;rw[Int.tdiv_eq_ediv_of_nonneg (by omega)];omega
 have b:wrap64 (aH m)=aH m:=by unfold aH;exact IntWalk.wrap64_in _ (by omega)
 go_enter Tryz.func164,Tryz.ntmps164
 go_wp2_with fail
 go_ret
 exact⟨by simp_all,ZB⟩
theorem lH (m:Mod)(w:World)(h:m.text.size<=big):
  Calls Tryz.prog 107 #[m.v] w fun e c=>e=.returned (.int .i64 (aH m))/\Below w.heap.size w c:=by
 unfold big at h
 obtain⟨d,n,j⟩:∃d:Int,(m.text.size:Int).tdiv 64=d/\d=m.text.size / 64:=⟨_,rfl,by rw[Int.tdiv_eq_ediv_of_nonneg (by omega)]⟩
 obtain⟨r,l,i⟩:∃r:Int,(m.text.size:Int).tmod 64=r/\r=m.text.size % 64:=⟨_,rfl,by rw[Int.tmod_eq_emod_of_nonneg (by omega)]⟩
 have f:wrap64 d=d:=IntWalk.wrap64_in _ (by omega)
 have g:wrap64 (d+1)=d+1:=IntWalk.wrap64_in _ (by omega)
 have a:=Hp (show aH m=if 0<r then d+1 else d by unfold aH;split<;>omega)
 clear j i
 by_cases b:0<r
 ·have a:=Hp (a.trans (if_pos b))
  go_enter Tryz.func107,Tryz.ntmps107
  go_wp2_with fail
  go_ret
  exact⟨aC (by rw[a.out];first|rfl|exact g),ZB⟩
 ·have a:=Hp (a.trans (if_neg b))
  have k:decide (0<r)=false:=by simp;omega
  clear b
  go_enter Tryz.func107,Tryz.ntmps107
  go_wp2_with fail
  go_ret
  exact⟨aC (by first|exact a.symm|exact f.trans a.symm),ZB⟩
theorem Ht (A:Option Addr)(c:Nat)(l:List Plc)(g:Nat)(q:Plc->Bool)(w:World)(eg:∀n w,(callFunc g n).run Tryz.prog w=.ok (.enter g n) w)(h:aU w A l)
  (L:∀x∈l,aL x.m=0->∀W,Calls Tryz.prog g #[x.v] W fun e D=>e=.returned (.bool (q x))/\Below W.heap.size W D):
  Calls Tryz.prog 198 #[.slice A l.length c,.func (.func g) #[] #[]] w fun e D=>e=.returned (.int .i64 (bY q l))/\Below w.heap.size w D:=by
 have V:=h.len
 unfold big at V
 have R:=Hp h
 have HQ:=Hp L
 clear h L
 by_cases O:8<l.length
 ·have k:=Hp (show 2=bY q l by unfold bY;rw[if_pos O])
  have I:(8:Int)<l.length:=by omega
  go_enter Tryz.func198,Tryz.ntmps198
  go_wp2_with fail
  go_ret
  exact⟨aC k.out,GZ4 _ _⟩
 have I:decide ((8:Int)<l.length)=false:=by simp;omega
 have Z:=Hp (show fU q l=bY q l by unfold bY;rw[if_neg O])
 go_enter Tryz.func198,Tryz.ntmps198
 go_wp2_with fail
 go_loopw [13] (fun i wr=>∃j:Nat,j<=l.length/\i=.int .i64 j/\SF q l j=bY q l/\Below w.heap.size w wr) (fun i _=>l.length -(intOf i).toNat)
 case atStart=>exact⟨0,by omega,rfl,Z.out,GZ4 _ _⟩
 case round=>
  obtain⟨j,hj,rfl,N,z⟩:=hrel
  have C:=Hp N
  have S:=Hp z
  clear N
  by_cases a:j<l.length
  ·have M:(j:Int)<l.length:=by omega
   obtain⟨ad,rfl,X,P,h1,h2,h3,h4,h5,h6,h7⟩:=RS R.row z j a
   have U:=z.size
   have t:=R.each l[j] (GZ9 _)
   have B:=Hp (fun W(H:Below w.heap.size w W)=>oM (l[j]'a).m W (t.below H))
   obtain⟨Q,o⟩:=Nm (aL (l[j]'a).m)
   rw[<-o]at B
   have d:=Hp o
   have K:=Hp (fun P=>HQ.out (l[j]'a) (GZ9 _) P)
   have s:=Hp ((S.out).trans ((GZ4 w.heap.size wr).alloc (by omega) (.cells #[.string l[j].m.name,iv l[j].m.major,iv l[j].m.minor,.string l[j].m.text,.slice l[j].m.eA l[j].m.ex.length l[j].m.eC,.slice l[j].m.iA l[j].m.im.length l[j].m.iC,.slice l[j].m.pA l[j].m.pa.length l[j].m.pC,iv l[j].first] 83)))
   clear z o t
   by_cases f:Q=0
   ·obtain rfl:=f
    have J:=Hp (K.out d.symm)
    obtain⟨bq,p⟩:=Nm (q (l[j]'a))
    rw[<-p]at J
    have u:=Hp p
    clear p
    cases bq
    ·have k:=Hp ((yH a d.symm u.symm).symm.trans C.out)
     go_wp2_with (first|(go_at_call 113;refine(B.out _ s.out).mono ?_;rintro e y ⟨rfl,b⟩;obtain⟨G,F⟩:=aJ b;have E:wr.heap.size<y.heap.size:=by have:=b.size;simp at this;omega)|(go_at_fn g;refine(J.out _).mono ?_;rintro e T ⟨rfl,r⟩))
     go_ret
     exact⟨aC k.out,(s.trans (b.mono (by simp;omega))).trans (r.mono (by omega))⟩
    ·have k:=Hp ((UL a d.symm u.symm).trans C.out)
     go_wp2_with (first|(go_at_call 113;refine(B.out _ s.out).mono ?_;rintro e y ⟨rfl,b⟩;obtain⟨G,F⟩:=aJ b;have E:wr.heap.size<y.heap.size:=by have:=b.size;simp at this;omega)|(go_at_fn g;refine(J.out _).mono ?_;rintro e T ⟨rfl,r⟩))
     go_roundw
     case rel=>exact⟨j+1,by omega,by go_num,k.out,(s.trans (b.mono (by simp;omega))).trans (r.mono (by omega))⟩
     case measure=>(simp[intOf];try omega)
   ·have k:=Hp ((vW (q:=q) a (by rw[<-d.out];exact f)).symm.trans C.out)
    have Y:(Q != 0)=true:=by simp[f]
    clear f
    go_wp2_with (go_at_call 113;refine(B.out _ s.out).mono ?_;rintro e y ⟨rfl,b⟩)
    go_ret
    exact⟨aC (d.trans k.out),s.trans (b.mono (by simp;omega))⟩
  ·have k:=Hp ((vG (q:=q) a).symm.trans C.out)
   go_wp2_with fail
   go_ret
   exact⟨aC k.out,S.out⟩
theorem xV (A:Option Addr)(c:Nat)(l:List Plc)(first whole:Bool)(w:World)(h:aU w A l):
  Calls Tryz.prog 229 #[.slice A l.length c,.bool first,.bool whole] w fun e M=>e=.returned (.int .i64 (bY (Po first whole) l))/\Below w.heap.size w M:=by
 have hl:=h.len
 unfold big at hl
 have HP:=Hp h
 clear h
 obtain⟨q,U⟩:=Nm (Po first whole)
 rw[<-U]
 have HQ:=Hp U
 clear U
 by_cases h8:8<l.length
 ·have s:=Hp (show 2=bY q l by unfold bY;rw[if_pos h8])
  have Y:(8:Int)<l.length:=by omega
  go_enter Tryz.func229,Tryz.ntmps229
  go_wp2_with fail
  go_ret
  exact⟨aC s.out,GZ4 _ _⟩
 have Y:decide ((8:Int)<l.length)=false:=by simp;omega
 have e0:=Hp (show fU q l=bY q l by unfold bY;rw[if_neg h8])
 go_enter Tryz.func229,Tryz.ntmps229
 go_wp2_with fail
 go_loopw [7] (fun i wr=>∃j:Nat,j<=l.length/\i=.int .i64 j/\SF q l j=bY q l/\Below w.heap.size w wr) (fun i _=>l.length -(intOf i).toNat)
 case atStart=>exact⟨0,by omega,rfl,e0.out,GZ4 _ _⟩
 case round=>
  obtain⟨j,hj,rfl,hE,R⟩:=hrel
  have T:=Hp hE
  have f:=Hp R
  clear hE
  by_cases d:j<l.length
  ·have a0:(j:Int)<l.length:=by omega
   obtain⟨ad,rfl,a2,h0,h1,h2,h3,h4,h5,h6,h7⟩:=RS HP.row R j d
   have a1:=R.size
   have v:=HP.each l[j] (GZ9 _)
   have u:=Hp (fun W(z:Below w.heap.size w W)=>iV (l[j]'d).m W (v.below z))
   have S:=Hp (fun W=>lH (l[j]'d).m W v.text)
   obtain⟨er,x⟩:=Nm (aL (l[j]'d).m)
   rw[<-x]at u
   have k:=Hp x
   --all cells of the row,behind whatever comes
   have C:=Hp (fun W(z:Below w.heap.size w W)=>RS HP.row z j d)
   clear R x v
   by_cases r:er=0
   ·obtain rfl:=r
    have V:=aY k.symm
    have O:=Hp (show 0<=aH l[j].m/\aH l[j].m<=4 by unfold aH;omega)
    clear V
    obtain⟨B,y⟩:=Nm (q (l[j]'d))
    have P:=Hp y
    have p:B=(!first || (decide (0<=l[j].first)&&decide (l[j].first<=16 -(if whole then aH l[j].m else 1)))):=by rw[y,HQ.out];rfl
    clear y
    obtain⟨Q,N⟩:=Nm (aH (l[j]'d).m)
    rw[<-N]at S O p
    have q0:wrap64 (16 -Q)=16 -Q:=by have:=O.out;exact IntWalk.wrap64_in _ (by omega)
    have t:=Hp (fun W=>bE l[j].first 0 (16 -(if whole then Q else 1)) W)
    have HD:=Hp p
    clear N p
    have s:=Hp (fun(X:B=false)=>(yH d k.symm (P.symm.trans X)).symm.trans T.out)
    have Z:=Hp (fun(X:B=true)=>(UL d k.symm (P.symm.trans X)).trans T.out)
    cases first
    ·have n:=Hp (Z.out (by rw[HD.out];rfl))
     cases whole
     ·go_wp2_with (go_at_call 104;refine(u.out _ f.out).mono ?_;rintro e D ⟨rfl,a⟩)
      go_roundw
      case rel=>exact⟨j+1,by omega,by go_num,n.out,f.trans (a.mono (by omega))⟩
      case measure=>(simp[intOf];try omega)
     ·go_wp2_with (first|(go_at_call 104;refine(u.out _ f.out).mono ?_;rintro e D ⟨rfl,a⟩;obtain⟨_,b,_,L,K,J,I,H,G,F,E⟩:=C.out _ (f.trans (a.mono (by omega)));obtain rfl:=GY3 b;have o:=a.size)|(go_at_call 107;refine(S.out _).mono ?_;rintro e w3 ⟨rfl,g⟩))
      go_roundw
      case rel=>exact⟨j+1,by omega,by go_num,n.out,(f.trans (a.mono (by omega))).trans (g.mono (by omega))⟩
      case measure=>(simp[intOf];try omega)
    ·cases whole
     ·rw[if_neg (by simp)]at t
      have p:B=(decide (0<=l[j].first)&&decide (l[j].first<=16 -1)):=by rw[HD.out];simp
      rw[<-p]at t
      clear p
      cases B
      ·have n:=Hp (s.out rfl)
       go_wp2_with (first|(go_at_call 104;refine(u.out _ f.out).mono ?_;rintro e D ⟨rfl,a⟩;obtain⟨_,b,_,L,K,J,I,H,G,F,E⟩:=C.out _ (f.trans (a.mono (by omega)));obtain rfl:=GY3 b;have o:=a.size)|(go_at_call 75;refine(t.out _).mono ?_;rintro e M ⟨rfl,rfl⟩))
       go_ret
       exact⟨aC n.out,f.trans (a.mono (by omega))⟩
      ·have n:=Hp (Z.out rfl)
       go_wp2_with (first|(go_at_call 104;refine(u.out _ f.out).mono ?_;rintro e D ⟨rfl,a⟩;obtain⟨_,b,_,L,K,J,I,H,G,F,E⟩:=C.out _ (f.trans (a.mono (by omega)));obtain rfl:=GY3 b;have o:=a.size)|(go_at_call 75;refine(t.out _).mono ?_;rintro e M ⟨rfl,rfl⟩))
       go_roundw
       case rel=>exact⟨j+1,by omega,by go_num,n.out,f.trans (a.mono (by omega))⟩
       case measure=>(simp[intOf];try omega)
     ·rw[if_pos rfl]at t
      have p:B=(decide (0<=l[j].first)&&decide (l[j].first<=16 -Q)):=by rw[HD.out];simp
      rw[<-p]at t
      clear p
      cases B
      ·have n:=Hp (s.out rfl)
       go_wp2_with (first|(go_at_call 104;refine(u.out _ f.out).mono ?_;rintro e D ⟨rfl,a⟩;obtain⟨_,b,_,L,K,J,I,H,G,F,E⟩:=C.out _ (f.trans (a.mono (by omega)));obtain rfl:=GY3 b;have o:=a.size)|(go_at_call 107;refine(S.out _).mono ?_;rintro e w3 ⟨rfl,g⟩;obtain⟨_,b,_,L,K,J,I,H,G,F,E⟩:=C.out _ ((f.trans (a.mono (by omega))).trans (g.mono (by omega)));obtain rfl:=GY3 b)|(go_at_call 75;refine(t.out _).mono ?_;rintro e M ⟨rfl,rfl⟩))
       go_ret
       exact⟨aC n.out,(f.trans (a.mono (by omega))).trans (g.mono (by omega))⟩
      ·have n:=Hp (Z.out rfl)
       go_wp2_with (first|(go_at_call 104;refine(u.out _ f.out).mono ?_;rintro e D ⟨rfl,a⟩;obtain⟨_,b,_,L,K,J,I,H,G,F,E⟩:=C.out _ (f.trans (a.mono (by omega)));obtain rfl:=GY3 b;have o:=a.size)|(go_at_call 107;refine(S.out _).mono ?_;rintro e w3 ⟨rfl,g⟩;obtain⟨_,b,_,L,K,J,I,H,G,F,E⟩:=C.out _ ((f.trans (a.mono (by omega))).trans (g.mono (by omega)));obtain rfl:=GY3 b)|(go_at_call 75;refine(t.out _).mono ?_;rintro e M ⟨rfl,rfl⟩))
       go_roundw
       case rel=>exact⟨j+1,by omega,by go_num,n.out,(f.trans (a.mono (by omega))).trans (g.mono (by omega))⟩
       case measure=>(simp[intOf];try omega)
   ·have s:=Hp ((vW (q:=q) d (by rw[<-k.out];exact r)).symm.trans T.out)
    have a3:(er != 0)=true:=by simp[r]
    clear r
    go_wp2_with (go_at_call 104;refine(u.out _ f.out).mono ?_;rintro e D ⟨rfl,a⟩)
    go_ret
    exact⟨aC (k.trans s.out),f.trans (a.mono (by omega))⟩
  ·have s:=Hp ((vG (q:=q) d).symm.trans T.out)
   go_wp2_with fail
   go_ret
   exact⟨aC s.out,f.out⟩
theorem Br (k:Krn)(w:World)(h:k.ok w):
  Calls Tryz.prog 84 #[k.v] w fun e b=>e=.returned (.int .i64 (bJ k))/\Below w.heap.size w b:=by
 obtain⟨⟨t,u,s⟩⟩:=h
 have A:=Hp t
 have z:=Hp s
 have B:=Hp u
 unfold big at u
 obtain⟨p,c⟩:=Nm (w.alloc (.cells #[.int .i64 k.major,.int .i64 k.minor,.slice k.eA k.ex.length k.eC] 24))
 obtain⟨H,G,F,D,f⟩:=uE c
 have x:w.heap.size<p.heap.size:=by omega
 have i:=Hp f
 have r:=c.symm
 clear c f t s
 obtain⟨E,a⟩:=Nm (bJ k)
 rw[<-a]
 have d:bJ k=if k.major<0\/255<k.major\/k.minor<0\/255<k.minor then 3 else if 8<k.ex.length then 2 else eF [] 4096 k.ex:=rfl
 rw[d]at a
 clear d
 have y:=Hp (wC k.eA k.eC k.ex 4096 p ⟨A.below i.out,B.out,z.out⟩ (by omega) (by unfold big;omega))
 by_cases n:0<=k.major/\k.major<=255
 ·have g:=Hp (fun W=>(nI k.major 0 255 W).mono fun _ _ h=>(⟨h.1.trans (aV (by simp;omega)),h.2⟩:_=Ending.returned (.bool true)/\_))
  by_cases q:0<=k.minor/\k.minor<=255
  ·have l:=Hp (fun W=>(nI k.minor 0 255 W).mono fun _ _ h=>(⟨h.1.trans (aV (by simp;omega)),h.2⟩:_=Ending.returned (.bool true)/\_))
   rw[if_neg (by omega)]at a
   clear n q
   by_cases j:8<k.ex.length
   ·rw[if_pos j]at a
    have m:(8:Int)<k.ex.length:=by omega
    clear j
    go_enter Tryz.func84,Tryz.ntmps84
    go_wp2_with (first|(go_at_call 153;(with_reducible refine(g.out _).mono ?_);rintro e b ⟨rfl,rfl⟩)|(go_at_call 153;(with_reducible refine(l.out _).mono ?_);rintro e b ⟨rfl,rfl⟩))
    go_ret
    exact⟨aC a.symm,i.out⟩
   ·rw[if_neg j]at a
    have m:decide ((8:Int)<k.ex.length)=false:=by simp;omega
    clear j
    go_enter Tryz.func84,Tryz.ntmps84
    go_wp2_with (first|(go_at_call 153;(with_reducible refine(g.out _).mono ?_);rintro e b ⟨rfl,rfl⟩)|(go_at_call 153;(with_reducible refine(l.out _).mono ?_);rintro e b ⟨rfl,rfl⟩)|(go_at_call 154;(with_reducible refine(y.out).mono ?_);rintro e C ⟨rfl,o⟩))
    go_ret
    exact⟨aC a.symm,i.trans (o.mono (by omega))⟩
  ·have l:=Hp (fun W=>(nI k.minor 0 255 W).mono fun _ _ h=>(⟨h.1.trans (aV (by simp;omega)),h.2⟩:_=Ending.returned (.bool false)/\_))
   rw[if_pos (by omega)]at a
   clear n q
   go_enter Tryz.func84,Tryz.ntmps84
   go_wp2_with (first|(go_at_call 153;(with_reducible refine(g.out _).mono ?_);rintro e b ⟨rfl,rfl⟩)|(go_at_call 153;(with_reducible refine(l.out _).mono ?_);rintro e b ⟨rfl,rfl⟩))
   go_ret
   exact⟨aC a.symm,i.out⟩
 ·have g:=Hp (fun W=>(nI k.major 0 255 W).mono fun _ _ h=>(⟨h.1.trans (aV (by simp;omega)),h.2⟩:_=Ending.returned (.bool false)/\_))
  rw[if_pos (by omega)]at a
  clear n
  go_enter Tryz.func84,Tryz.ntmps84
  go_wp2_with (first|(go_at_call 153;(with_reducible refine(g.out _).mono ?_);rintro e b ⟨rfl,rfl⟩))
  go_ret
  exact⟨aC a.symm,i.out⟩
theorem iT (k:Krn)(w:World)(h:k.ok w):
  Calls Tryz.prog 17 #[k.v] w fun e b=>e=.returned (.int .i64 (bJ k))/\Below w.heap.size w b:=by
 obtain⟨⟨t,u,s⟩⟩:=h
 have A:=Hp t
 have z:=Hp s
 have B:=Hp u
 unfold big at u
 obtain⟨q,c⟩:=Nm (w.alloc (.cells #[.int .i64 k.major,.int .i64 k.minor,.slice k.eA k.ex.length k.eC] 24))
 obtain⟨H,G,F,D,g⟩:=uE c
 have x:w.heap.size<q.heap.size:=by omega
 have j:=Hp g
 have r:=c.symm
 clear c g t s
 obtain⟨E,a⟩:=Nm (bJ k)
 rw[<-a]
 have f:bJ k=if k.major<0\/255<k.major\/k.minor<0\/255<k.minor then 3 else if 8<k.ex.length then 2 else eF [] 4096 k.ex:=rfl
 rw[f]at a
 clear f
 have y:=Hp (oP k.eA k.eC k.ex 4096 q ⟨A.below j.out,B.out,z.out⟩ (by omega) (by unfold big;omega))
 by_cases d:0<=k.major/\k.major<=255
 ·have i:=Hp (fun W=>bK k.major 0 255 W d.1 d.2)
  by_cases m:0<=k.minor/\k.minor<=255
  ·have n:=Hp (fun W=>bK k.minor 0 255 W m.1 m.2)
   rw[if_neg (by omega)]at a
   clear d m
   by_cases l:8<k.ex.length
   ·rw[if_pos l]at a
    have o:(8:Int)<k.ex.length:=by omega
    clear l
    go_enter Tryz.func17,Tryz.ntmps17
    go_wp2_with (first|(go_at_call 75;(with_reducible refine(i.out _).mono ?_);rintro e b ⟨rfl,rfl⟩)|(go_at_call 75;(with_reducible refine(n.out _).mono ?_);rintro e b ⟨rfl,rfl⟩))
    go_ret
    exact⟨aC a.symm,j.out⟩
   ·rw[if_neg l]at a
    have o:decide ((8:Int)<k.ex.length)=false:=by simp;omega
    clear l
    go_enter Tryz.func17,Tryz.ntmps17
    go_wp2_with (first|(go_at_call 75;(with_reducible refine(i.out _).mono ?_);rintro e b ⟨rfl,rfl⟩)|(go_at_call 75;(with_reducible refine(n.out _).mono ?_);rintro e b ⟨rfl,rfl⟩)|(go_at_call 76;(with_reducible refine(y.out).mono ?_);rintro e C ⟨rfl,p⟩))
    go_ret
    exact⟨aC a.symm,j.trans (p.mono (by omega))⟩
  ·have n:=Hp (fun W=>RQ k.minor 0 255 W (by omega))
   rw[if_pos (by omega)]at a
   clear d m
   go_enter Tryz.func17,Tryz.ntmps17
   go_wp2_with (first|(go_at_call 75;(with_reducible refine(i.out _).mono ?_);rintro e b ⟨rfl,rfl⟩)|(go_at_call 75;(with_reducible refine(n.out _).mono ?_);rintro e b ⟨rfl,rfl⟩))
   go_ret
   exact⟨aC a.symm,j.out⟩
 ·have i:=Hp (fun W=>RQ k.major 0 255 W (by omega))
  rw[if_pos (by omega)]at a
  clear d
  go_enter Tryz.func17,Tryz.ntmps17
  go_wp2_with (first|(go_at_call 75;(with_reducible refine(i.out _).mono ?_);rintro e b ⟨rfl,rfl⟩))
  go_ret
  exact⟨aC a.symm,j.out⟩
end
section
open Go.RowKit
theorem yV {k:Krn}{l:List Plc}{i:Imp}(h:i.mod=RG):addrOf k l i=if k.major≠i.major\/k.minor<i.minor then(0,4)else iR k.ex i.name:=by unfold addrOf;rw[if_pos h]
theorem DV {k:Krn}{l:List Plc}{i:Imp}(h:i.mod≠RG)(e:l.find? (named i.mod)=none):addrOf k l i=(0,5):=by unfold addrOf;rw[if_neg h,e]
theorem Dv {k:Krn}{l:List Plc}{i:Imp}(h:i.mod≠RG){x:Plc}(e:l.find? (named i.mod)=some x):
  addrOf k l i=if x.m.major≠i.major\/x.m.minor<i.minor then(0,4)else if(iR x.m.ex i.name).2≠0 then(0,5)else(4096+64*x.first+(iR x.m.ex i.name).1,0):=by unfold addrOf;rw[if_neg h,e]
theorem UE {l:List Exp}{nm:ByteArray}{a:Int}(h:∀x∈l,0<=x.at_/\x.at_<a)(d:0<a):0<=(iR l nm).1/\(iR l nm).1<a:=by
 rcases gW (called nm) l with⟨_,b⟩|⟨j,c,_,b⟩
 ·rw[uV b];exact⟨by simp,d⟩
 ·rw[tZ c b];exact h _ (GZ9 _)
theorem D5 {k:Krn}{l:List Plc}(h:iB k l=0){x:Plc}(b:x∈l):0<=x.first/\x.first<=15/\aL x.m=0:=by
 have a:=(TB (Uo h).2).2 x b
 have:=a.2
 unfold P9 at this
 simp only[Bool.and_eq_true,decide_eq_true_eq]at this
 exact⟨this.1,this.2,a.1⟩
theorem Nj {m:Mod}(h:aL m=0):∀x∈m.ex,0<=x.at_/\x.at_<256:=fun x a=>by
 have f:=aY h
 have:=lJ f.2.2.2.2.2.2.2.2.1 x a
 exact⟨this.2.1,by omega⟩
theorem FQ (k:Krn)(A:Option Addr)(c:Nat)(l:List Plc)(i:Imp)(w:World)(hk:k.ok w)(h:aU w A l)(hp:iB k l=0):
  Calls Tryz.prog 186 #[k.v,.slice A l.length c,i.v] w fun e w'=>e=.returned (.tuple #[.int .i64 (addrOf k l i).1,.int .i64 (addrOf k l i).2])/\Below w.heap.size w w':=by
 obtain⟨wk,L⟩:=Nm (w.alloc (.cells #[.int .i64 k.major,.int .i64 k.minor,.slice k.eA k.ex.length k.eC] 24))
 obtain⟨g0,g1,g2,a3,U⟩:=uE L
 obtain⟨G,M⟩:=Nm (wk.alloc (.cells #[.string i.mod,.string i.name,.int .i64 i.major,.int .i64 i.minor] 173))
 obtain⟨f0,f1,f2,f3,y,t⟩:=oJ M
 rw[a3]at f0 f1 f2 f3 y t
 have k0:=(t.cell (p:=⟨w.heap.size,0,none⟩) (by simp)).trans g0
 have k1:=(t.cell (p:=⟨w.heap.size,1,none⟩) (by simp)).trans g1
 have k2:=(t.cell (p:=⟨w.heap.size,2,none⟩) (by simp)).trans g2
 have j:=Hp (show Below w.heap.size w G from U.trans (t.mono (by omega)))
 have HZ:=Hp y
 have a6:=L.symm
 have a7:=M.symm
 have kq:=rX i.mod
 obtain⟨R,g⟩:=Nm (addrOf k l i)
 rw[<-g]
 have HL:=h.len
 unfold big at HL
 have HP:=Hp h
 have a0:=Hp hp
 have cK:=Hp (fun W(P:Below w.heap.size w W)=>BI k.eA k.eC k.ex i.name W (hk.below P).ex)
 clear L M U t hk h hp g0 g1 g2 y
 by_cases F:i.mod=RG
 ·rw[yV F]at g
  rw[show decide (i.mod=RG)=true by simp[F]]at kq
  clear F
  by_cases s:k.major≠i.major
  ·rw[if_pos (.inl s)]at g
   have a1:(k.major != i.major)=true:=by simp[s]
   clear s
   go_enter Tryz.func186,Tryz.ntmps186
   go_wp2_with fail
   go_quiet (fail)
   go_wp2_with fail
   go_ret2
   exact⟨by rw[g];rfl,below_drewN j.out _⟩
  have a1:(k.major != i.major)=false:=by simpa using s
  by_cases B:k.minor<i.minor
  ·rw[if_pos (.inr B)]at g
   clear s
   go_enter Tryz.func186,Tryz.ntmps186
   go_wp2_with fail
   go_quiet (fail)
   go_wp2_with fail
   go_ret2
   exact⟨by rw[g];rfl,below_drewN j.out _⟩
  have H:decide (k.minor<i.minor)=false:=by simpa using B
  rw[if_neg (by simp only[not_or];exact⟨s,B⟩)]at g
  rw[<-g]at cK
  clear s B
  have z:=nJ k.ex i.name
  have X:VP k.ex i.name=decide (R.2=0):=by unfold VP;rw[<-g]
  rw[X]at cK
  rw[<-g]at z
  have S:=UE (nm:=i.name) (fun x hx=>((Ee (Uo a0.out).1) x hx).2) (by omega:(0:Int)<4096)
  rw[<-g]at S
  clear X g
  obtain⟨r1,r2⟩:=R
  simp only at z S cK ⊢
  by_cases u:r2=0
  ·obtain rfl:=u
   have q1:wrap64 r1=r1:=IntWalk.wrap64_in _ (by omega)
   go_enter Tryz.func186,Tryz.ntmps186
   go_wp2_with fail
   go_quiet (fail)
   go_wp2_with (go_at_call 236;refine(cK.out _ (below_drewN j.out _)).mono ?_;rintro e o ⟨rfl,a⟩)
   go_ret2
   exact⟨by simp,(below_drewN j.out _).trans (a.mono (by have:=j.size;simpa using this))⟩
  ·obtain⟨rfl,rfl⟩:r1=0/\r2=5:=by omega
   go_enter Tryz.func186,Tryz.ntmps186
   go_wp2_with fail
   go_quiet (fail)
   go_wp2_with (go_at_call 236;refine(cK.out _ (below_drewN j.out _)).mono ?_;rintro e o ⟨rfl,a⟩)
   go_ret2
   exact⟨rfl,(below_drewN j.out _).trans (a.mono (by have:=j.size;simpa using this))⟩
 ·have a2:=kq
  rw[show decide (i.mod=RG)=false by simp[F]]at kq
  clear a2
  have y:=HZ.out
  have b0:w.heap.size+1<G.heap.size:=by omega
  have a9:w.heap.size<G.heap.size:=by omega
  have Q:=Hp (fun W(P:Below w.heap.size w W)=>SY A c l i.mod W (HP.row.below P) (by unfold big;omega))
  have LD:=Hp (fun(nq:Nat)(W:World)(P:Below (G.drewN nq).heap.size (G.drewN nq) W)=>(below_drewN (GZ4 G.heap.size G) nq).trans (P.mono (by simp)))
  clear y
  rcases gW (named i.mod) l with⟨Z,Y⟩|⟨n,q,Z,Y⟩
  ·rw[DV F Y]at g
   rw[Z]at Q
   clear Z Y F
   go_enter Tryz.func186,Tryz.ntmps186
   go_wp2_with fail
   go_quiet (fail)
   go_wp2_with (go_at_call 124;refine(Q.out _ (below_drewN j.out _)).mono ?_;rintro e o ⟨rfl,f⟩;have a:=LD.out _ _ f;obtain⟨D,C⟩:=aJ a)
   go_ret2
   exact⟨by rw[g];rfl,j.trans (a.mono (by omega))⟩
  ·rw[Dv F Y]at g
   rw[Z]at Q
   clear Z Y F
   have b1:(n:Int)<l.length:=by omega
   have HK:=Hp (fun W(a4:Below w.heap.size w W)=>RS HP.row a4 n q)
   obtain⟨ad,rfl,a5,_⟩:=RS HP.row (GZ4 _ _) n q
   have T:=HP.each l[n] (GZ9 _)
   obtain⟨p1,p2,p3⟩:=D5 a0.out (x:=l[n]) (GZ9 _)
   have cE:=Hp (fun W(P:Below w.heap.size w W)=>BI (l[n]'q).m.eA (l[n]'q).m.eC (l[n]'q).m.ex i.name W (T.below P).ex)
   have S:=UE (nm:=i.name) (Nj p3) (by omega:(0:Int)<256)
   have z:=nJ (l[n]'q).m.ex i.name
   obtain⟨V,hV⟩:=Nm (iR (l[n]'q).m.ex i.name)
   have X:VP (l[n]'q).m.ex i.name=decide (V.2=0):=by unfold VP;rw[<-hV]
   rw[X]at cE
   rw[<-hV]at cE z S g
   have q1:wrap64 ((l[n]'q).first*64)=(l[n]'q).first*64:=IntWalk.wrap64_in _ (by omega)
   have q2:wrap64 (4096+(l[n]'q).first*64)=4096+(l[n]'q).first*64:=IntWalk.wrap64_in _ (by omega)
   have q3:=Hp (show wrap64 (4096+(l[n]'q).first*64+V.1)=4096+64*(l[n]'q).first+V.1 by rw[IntWalk.wrap64_in _ (by omega)];omega)
   have E:=Hp (show(ad.add (n*8)).block<w.heap.size by rw[aA];exact a5)
   clear X hV T p3
   --the call of Place,and what lies behind it
   by_cases s:l[n].m.major≠i.major\/l[n].m.minor<i.minor
   ·rw[if_pos s]at g
    by_cases B:l[n].m.major=i.major
    ·have t3:l[n].m.minor<i.minor:=by rcases s with h|h;exact absurd B h;exact h
     have H:(l[n].m.major != i.major)=false:=by simp[B]
     clear s B
     go_enter Tryz.func186,Tryz.ntmps186
     go_wp2_with fail
     go_quiet (fail)
     go_wp2_with (go_at_call 124;refine(Q.out _ (below_drewN j.out _)).mono ?_;rintro e o ⟨rfl,f⟩;have a:=LD.out _ _ f;obtain⟨D,C⟩:=aJ a;obtain⟨_,r,_,m0,m1,m2,m3,m4,m5,m6,m7⟩:=HK.out _ (j.trans (a.mono (by omega)));obtain rfl:=GY3 r;have K:=a.size;have J:w.heap.size+1<o.heap.size:=(by omega);have I:w.heap.size<o.heap.size:=(by omega);have N:(ad.add (n*8)).block<o.heap.size:=GY0 E.out (by omega))
     go_quiet (fail)
     go_wp2_with fail
     go_ret2
     exact⟨by rw[g];rfl,below_drewN ((j.trans (a.mono (by omega))).alloc (by omega) _) _⟩
    ·have H:(l[n].m.major != i.major)=true:=by simp[B]
     clear s B
     go_enter Tryz.func186,Tryz.ntmps186
     go_wp2_with fail
     go_quiet (fail)
     go_wp2_with (go_at_call 124;refine(Q.out _ (below_drewN j.out _)).mono ?_;rintro e o ⟨rfl,f⟩;have a:=LD.out _ _ f;obtain⟨D,C⟩:=aJ a;obtain⟨_,r,_,m0,m1,m2,m3,m4,m5,m6,m7⟩:=HK.out _ (j.trans (a.mono (by omega)));obtain rfl:=GY3 r;have K:=a.size;have J:w.heap.size+1<o.heap.size:=(by omega);have I:w.heap.size<o.heap.size:=(by omega);have N:(ad.add (n*8)).block<o.heap.size:=GY0 E.out (by omega))
     go_quiet (fail)
     go_wp2_with fail
     go_ret2
     exact⟨by rw[g];rfl,below_drewN ((j.trans (a.mono (by omega))).alloc (by omega) _) _⟩
   ·rw[if_neg s]at g
    have H:(l[n].m.major != i.major)=false:=by simp;omega
    have a8:decide (l[n].m.minor<i.minor)=false:=by simp;omega
    clear s
    obtain⟨v1,v2⟩:=V
    simp only at z S cE g q3
    by_cases u:v2=0
    ·obtain rfl:=u
     rw[if_neg (by simp)]at g
     go_enter Tryz.func186,Tryz.ntmps186
     go_wp2_with fail
     go_quiet (fail)
     go_wp2_with (go_at_call 124;refine(Q.out _ (below_drewN j.out _)).mono ?_;rintro e o ⟨rfl,f⟩;have a:=LD.out _ _ f;obtain⟨D,C⟩:=aJ a;obtain⟨_,r,_,m0,m1,m2,m3,m4,m5,m6,m7⟩:=HK.out _ (j.trans (a.mono (by omega)));obtain rfl:=GY3 r;have K:=a.size;have J:w.heap.size+1<o.heap.size:=(by omega);have I:w.heap.size<o.heap.size:=(by omega);have N:(ad.add (n*8)).block<o.heap.size:=GY0 E.out (by omega))
     go_quiet (fail)
     go_wp2_with (go_at_call 236;refine(cE.out _ (below_drewN ((j.trans (a.mono (by omega))).alloc (by omega) _) _)).mono ?_;rintro e w2 ⟨rfl,O⟩)
     go_ret2
     exact⟨(Tu (b:=4096+64*(l[n]'q).first+v1) (d:=0) (by first|exact q3.out|omega) rfl).trans (by rw[g]),(below_drewN ((j.trans (a.mono (by omega))).alloc (by omega) _) _).trans (O.mono (by simp;omega))⟩
    ·obtain⟨rfl,rfl⟩:v1=0/\v2=5:=by omega
     rw[if_pos (by simp)]at g
     go_enter Tryz.func186,Tryz.ntmps186
     go_wp2_with fail
     go_quiet (fail)
     go_wp2_with (go_at_call 124;refine(Q.out _ (below_drewN j.out _)).mono ?_;rintro e o ⟨rfl,f⟩;have a:=LD.out _ _ f;obtain⟨D,C⟩:=aJ a;obtain⟨_,r,_,m0,m1,m2,m3,m4,m5,m6,m7⟩:=HK.out _ (j.trans (a.mono (by omega)));obtain rfl:=GY3 r;have K:=a.size;have J:w.heap.size+1<o.heap.size:=(by omega);have I:w.heap.size<o.heap.size:=(by omega);have N:(ad.add (n*8)).block<o.heap.size:=GY0 E.out (by omega))
     go_quiet (fail)
     go_wp2_with (go_at_call 236;refine(cE.out _ (below_drewN ((j.trans (a.mono (by omega))).alloc (by omega) _) _)).mono ?_;rintro e w2 ⟨rfl,O⟩)
     go_ret2
     exact⟨by rw[g];rfl,(below_drewN ((j.trans (a.mono (by omega))).alloc (by omega) _) _).trans (O.mono (by simp;omega))⟩
end
end Go.Proofs.YtjiedaialianmaaGreat
