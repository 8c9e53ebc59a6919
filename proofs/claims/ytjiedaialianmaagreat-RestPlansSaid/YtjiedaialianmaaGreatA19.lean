import Derived.Test.YtjiedaialianmaaGreatA18
set_option maxRecDepth 100000
set_option maxHeartbeats 4000000
namespace Go.Proofs.YtjiedaialianmaaGreat
section
open Go.RowKit
open Gs (Tx)
def Rk :Krn:=⟨0,0,[],none,0⟩
theorem Sg (w:World):Rk.ok w:=⟨⟨Row.nil,Nat.zero_le _,by simp[Rk]⟩⟩
end
section
open Go.RowKit
def Bits (w:World)(b:Nat)(u:Nat->Bool):Prop:=∀k,k<16->w.cell? ⟨b,k,none⟩=some (.bool (u k))/\w.frozen? ⟨b,k,none⟩=false
theorem Bits.below {w w':World}{b B:Nat}{u:Nat->Bool}(h:Bits w b u)(c:Below B w w')(d:b<B):Bits w' b u:=fun k a=>⟨(c.cell (p:=⟨b,k,none⟩) d).trans (h k a).1,(c.frozen (p:=⟨b,k,none⟩) d).trans (h k a).2⟩
theorem Bits.congr {w:World}{b:Nat}{u a:Nat->Bool}(h:Bits w b u)(e:∀k,k<16->u k=a k):Bits w b a:=fun k c=>by rw[<-e k c];exact h k c
theorem Bits.set {w:World}{b:Nat}{u:Nat->Bool}(h:Bits w b u)(i:Nat)(d:i<16)(v:Bool):Bits (w.setCell ⟨b,i,none⟩ (.bool v)) b (fun k=>if k=i then v else u k):=fun k a=>by
 refine⟨?_,by rw[World.frozen?_setCell];exact(h k a).2⟩
 by_cases e:k=i
 ·subst e
  simp only[if_pos]
  exact World.cell?_setCell_same' _ _ _ (by rw[(h k a).1];rfl)
 ·simp only[if_neg e]
  rw[World.cell?_setCell_other _ _ _ _ (by intro c;injection c with _ h3 _;exact e h3.symm)]
  exact(h k a).1
theorem Lp (w:World)(t:TypeId):Bits (w.alloc (.cells #[.bool false,.bool false,.bool false,.bool false,.bool false,.bool false,.bool false,.bool false,.bool false,.bool false,.bool false,.bool false,.bool false,.bool false,.bool false,.bool false] t)) w.heap.size (jA []):=fun k a=>by
 refine⟨?_,by unfold World.frozen?;rw[show(w.alloc _).heap[(⟨w.heap.size,k,none⟩:Addr).block]? =_ from heap_alloc_new w _];simp⟩
 rw[World.cell?_alloc_new]
 show _=some (Value.bool false)
 match k,a with
 |0,_|1,_|2,_|3,_|4,_|5,_|6,_|7,_|8,_|9,_|10,_|11,_|12,_|13,_|14,_|15,_=>rfl
 |k+16,h=>exact absurd h (by omega)
theorem Lh {l:List Plc}{j:Nat}(h:j<l.length)(i:Nat):jA (l.take (j+1)) i=(jA (l.take j) i || (decide (l[j].first<=i)&&decide ((i:Int)<aR l[j]))):=by
 unfold jA
 rw[List.take_succ_eq_append_getElem h,List.any_append]
 simp
theorem gQ.last {w:World}{b:Nat}{A:Option Addr}{K c:Nat}{a:List Run}{r:Run}(h:gQ w b (.slice A K c) (a++[r])):
  ∃g,A=some ⟨g,0,none⟩/\b<=g/\w.cell? ⟨g,a.length*2+1,none⟩=some (.int .i64 r.many)/\w.frozen? ⟨g,a.length*2+1,none⟩=false/\
   ∀m,gQ (w.setCell ⟨g,a.length*2+1,none⟩ (.int .i64 m)) b (.slice A K c) (a++[⟨r.first,m⟩]):=by
 have e:(a++[r]).length=a.length+1:=by simp
 have f:(a.flatMap Run.cells).length=a.length*2:=flat_length (enc:=Run.cells) (k:=2) (fun _=>rfl) a
 obtain⟨y,v⟩:=h
 rcases v with⟨_,x⟩|⟨g,s,d,u,t,q,n,p,l,j⟩
 ·rw[e]at x;omega
 injection u with ha hk hc
 subst ha
 have o:d.toList[a.length*2+1]? =some (.int .i64 r.many):=by
  have:(d.toList.take ((a++[r]).length*2))[a.length*2+1]? =some (.int .i64 r.many):=by
   rw[j,List.flatMap_append,List.getElem?_append_right (by omega),f,show a.length*2+1 -a.length*2=1 by omega];rfl
  rwa [List.getElem?_take_of_lt (by rw[e];omega)]at this
 have i:w.cell? ⟨g,a.length*2+1,none⟩=some (.int .i64 r.many):=by
  simp only[World.cell?,q]
  simpa using o
 refine⟨g,rfl,t,i,frozen_of_row _ _ _ _ _ q,fun m=>?_⟩
 refine⟨by simp[List.flatMap_append,f,Run.cells];omega,.inr ⟨g,s,d.setIfInBounds (a.length*2+1) (.int .i64 m),?_,t,heap_setCell_same w g _ d _ _ q,?_,p,by simpa using l,?_⟩⟩
 ·rw[<-hc,hk];simp
 ·simpa using n
 ·rw[Array.toList_setIfInBounds,List.take_set,show(a++[(⟨r.first,m⟩:Run)]).length=(a++[r]).length by simp,j,List.flatMap_append,List.flatMap_append,List.set_append_right _ _ (by omega),f,show a.length*2+1 -a.length*2=1 by omega]
  rfl
theorem I7 (A:Option Addr)(c:Nat)(l:List Plc)(w:World)(h:aU w A l)(hr:RY l=0):
  Calls Tryz.prog 180 #[.slice A l.length c] w fun e w'=>(∃(A':Option Addr)(c':Nat),e=.returned (.slice A' (RI l).length c')/\xD w' A' (RI l))/\Below w.heap.size w w':=by
 have h8:=(cZ hr).1
 have HP:=Hp h
 have U:=Hp (show∀x∈l,x.m.text.size<=256/\0<=x.first/\x.first<=16/\1<=aH x.m/\aR x<=16 from fun x hx=>by
  obtain⟨h1,h2⟩:=(cZ hr).2.1 x hx
  have h3:=gK h1
  simp only[kE,Bool.and_eq_true,decide_eq_true_eq]at h2
  unfold aR
  exact⟨(aY h1).2.2.1,by omega⟩)
 have b3:=Hp (Lp w 261)
 have H:=Hp (zF (cZ hr).2.2)
 obtain⟨R,a8⟩:=Nm (RI l)
 rw[<-a8]at H ⊢
 clear h hr a8
 go_enter Tryz.func180,Tryz.ntmps180
 go_wp2_with fail
 go_loopw [4] (fun i wr=>∃(j:Nat),j<=l.length/\i=.int .i64 j/\Bits wr w.heap.size (jA (l.take j))/\Below w.heap.size w wr) (fun i _=>l.length -(intOf i).toNat)
 case atStart=>exact⟨0,by omega,rfl,b3.out,ZB⟩
 case round=>
  obtain⟨j,hj,rfl,G,I⟩:=hrel
  have HB:=Hp I
  have HI:=Hp G
  have c8:w.heap.size<wr.heap.size:=by
   have:=(G 0 (by omega)).1
   exact block_lt_of_cell this
  clear G
  by_cases P:j<l.length
  ·have a4:(j:Int)<l.length:=by omega
   obtain⟨f1,f2,f3,f4,f5⟩:=U.out (l[j]'P) (GZ9 _)
   have hU:=Hp (Lh P)
   have D:=Hp (fun(W:World)(b5:Below w.heap.size w W)=>RS HP.row b5 j P)
   obtain⟨y,hy⟩:=Nm (l[j]'P)
   rw[<-hy]at f1 f2 f3 f4 f5 hU D
   obtain⟨f,hf⟩:∃f:Nat,y.first=f:=⟨y.first.toNat,by omega⟩
   obtain⟨M,hM⟩:∃M:Nat,aH y.m=M:=⟨(aH y.m).toNat,by omega⟩
   have he:aR y=y.first+aH y.m:=rfl
   have c6:f+M<=16:=by omega
   have cS:=Hp (fun W=>lH y.m W (by unfold big;omega))
   rw[hM]at cS
   have b6:=Hp (show∀i:Nat,jA (l.take (j+1)) i=(jA (l.take j) i || (decide (f<=i)&&decide (i<f+M))) from fun i=>by rw[hU.out i,hf,show aR y=((f+M:Nat):Int) by omega];congr 2<;>simp<;>omega)
   have HF:=Hp hf
   clear he f1 f2 f3 f4 f5 hU hy hM I hf
   go_wp2_with fail
   go_loopw [5] (fun i a0=>∃(k:Nat),k<=M/\i=.int .i64 k/\Bits a0 w.heap.size (fun i=>jA (l.take j) i || (decide (f<=i)&&decide (i<f+k)))/\Below w.heap.size w a0) (fun i _=>M -(intOf i).toNat)
   case atStart=>exact⟨0,by omega,rfl,HI.congr (fun k _=>by simp;omega),HB.out⟩
   case round=>
    obtain⟨k,hk,rfl,a,B⟩:=hrel
    have C:=Hp B
    have z:=Hp a
    have b0:w.heap.size<wr.heap.size:=block_lt_of_cell (a 0 (by omega)).1
    clear a
    obtain⟨ad,rfl,c7,h0,h1,h2,h3,h4,h5,h6,h7⟩:=D.out wr C.out
    by_cases c3:k<M
    ·have a6:(k:Int)<M:=by omega
     obtain⟨s,hs⟩:=Nm (f+k)
     have q1:IntKind.i64.wrap (y.first+(k:Int))=(s:Int):=by rw[HF.out,IntWalk.i64_in _ (by omega)];omega
     have c0:(s:Int)<16:=by omega
     have c2:(0:Int)<=(s:Int):=by omega
     have b7:=Hp hs
     clear hs
     go_wp2_with (go_at_call 107;refine(cS.out _).mono ?_;rintro e w3 ⟨rfl,Q⟩;have t:=Q.mono (show w.heap.size+1<=wr.heap.size by omega);obtain⟨p0,p1⟩:=(z.below t (by omega)) s (by omega);obtain⟨c9,e',_,k0,k1,k2,k3,k4,k5,k6,k7⟩:=D.out w3 (C.trans (t.mono (by omega)));obtain rfl:=GY3 e';have c1:=Q.size)
     go_roundw
     case rel=>
      refine⟨k+1,by omega,by go_num,?_,((C.trans (t.mono (by omega))).setCell (by simp) _)⟩
      refine((z.below t (by omega)).set s (by omega) true).congr fun i _=>?_
      have:=b7.out
      by_cases hi:i=s
      ·rw[if_pos hi];simp;omega
      ·rw[if_neg hi]
       congr 1
       rw[Bool.eq_iff_iff]
       simp;omega
     case measure=>(simp[intOf];try omega)
    ·have a6:decide ((k:Int)<M)=false:=by simp;omega
     have b9:=Hp (show k=M by omega)
     go_wp2_with (go_at_call 107;refine(cS.out _).mono ?_;rintro e w3 ⟨rfl,Q⟩;have t:=Q.mono (show w.heap.size+1<=wr.heap.size by omega))
     go_roundw
     case rel=>
      refine⟨j+1,by omega,by go_num,?_,C.trans (t.mono (by omega))⟩
      refine(z.below t (by omega)).congr fun i _=>?_
      rw[b6.out i,b9.out]
     case measure=>(simp[intOf];try omega)
  ·have e0:l.take j=l:=List.take_of_length_le (by omega)
   rw[e0]at HI
   obtain⟨u,hu⟩:=Nm (jA l)
   rw[<-hu]at HI H
   have a4:decide ((j:Int)<l.length)=false:=by simp;omega
   clear e0 hu I U b3
   go_wp2_with fail
   go_loopw [6,7] (fun v i wr=>∃(n:Nat),n<=16/\i=.int .i64 n/\Bits wr w.heap.size u/\gQ wr (w.heap.size+1) v (bF u n)/\(bF u n).length<=n/\Below w.heap.size w wr) (fun _ i _=>16 -(intOf i).toNat)
   case atStart=>exact⟨0,by omega,rfl,HI.out,gQ.nil _ _,by simp[bF],HB.out⟩
   case round=>
    obtain⟨n,hn,rfl,a,q,a5,B⟩:=hrel
    have C:=Hp B
    have z:=Hp a
    have b0:w.heap.size<wr.heap.size:=block_lt_of_cell (a 0 (by omega)).1
    obtain⟨K,hK⟩:∃K,K=(bF u n).length:=⟨_,rfl⟩
    have E:=q
    unfold gQ at E
    rw[<-hK]at a5 E
    obtain⟨V,vc,rfl⟩:=vL E
    have Z:=Hp q
    have S:=Hp hK
    clear a q E B hK
    by_cases a1:n<16
    ·have Y:(n:Int)<16:=by omega
     obtain⟨p0,p1⟩:=z.out n a1
     obtain⟨b,I⟩:=Nm (u n)
     rw[<-I]at p0
     cases b
     ·by_cases a3:0<n
      ·have a2:(0:Int)<n:=by omega
       obtain⟨k,hk⟩:∃k,n=k+1:=⟨n -1,by omega⟩
       have a7:k<16:=by omega
       have q1:IntKind.i64.wrap ((n:Int) -1)=k:=by rw[IntWalk.i64_in _ (by omega)];omega
       have c5:(0:Int)<=k:=by omega
       have c4:(k:Int)<16:=by omega
       obtain⟨m0,m1⟩:=z.out k a7
       obtain⟨b2,B⟩:=Nm (u k)
       rw[<-B]at m0
       cases b2
       ·have d:0<n/\u (n -1)=false:=⟨a3,by rw[show n -1=k by omega];exact B.symm⟩
        have J:=tT I.symm d
        obtain⟨X,r,e2,e3,e4⟩:=UM d.1 d.2
        rw[e2,yC]at J
        have b1:=Hp J
        have q:=Z.out
        have a9:K=X.length+1:=by rw[S.out,e2];simp
        rw[e2]at q
        obtain⟨g,b4,hg,t0,t1,t2⟩:=gQ.last q
        subst b4
        obtain⟨p,hp⟩:=Nm X.length
        rw[<-hp]at t0 t1 t2 a9
        have q2:IntKind.i64.wrap ((K:Int) -1)=p:=by rw[IntWalk.i64_in _ (by omega)];omega
        have q3:(p:Int)<K:=by omega
        have q4:(0:Int)<=p:=by omega
        have q5:IntKind.i64.wrap (r.many+1)=r.many+1:=IntWalk.i64_in _ (by omega)
        have T2:=Hp (t2 (r.many+1))
        have b8:=Hp (show(X++[(⟨r.first,r.many+1⟩:Run)]).length<=n+1 by simp;omega)
        clear I B hk J e2 e3 e4 q a9 hp t2 d
        go_wp2_with fail
        go_roundw
        case rel=>exact⟨n+1,by omega,by go_num,fun i hi=>⟨(World.cell?_setCell_other _ _ _ _ (by intro h2;injection h2 with h3 _ _;omega)).trans (z.out i hi).1,by rw[World.frozen?_setCell];exact(z.out i hi).2⟩,by rw[b1.out];exact T2.out,by rw[b1.out];exact b8.out,C.setCell (by simp;omega) _⟩
        case measure=>(simp[intOf];try omega)
       ·have d:¬(0<n/\u (n -1)=false):=fun h=>by have:=h.2;rw[show n -1=k by omega,<-B]at this;cases this
        have J:=Hp (TZ I.symm d)
        clear I B hk d
        go_wp2_with (at_builtin;refine uF wr rfl _ _ rfl (w.heap.size+1) (.slice V K vc) (bF u n) ⟨n,1⟩ rfl rfl Z.out (by have:=S.out;omega) (by omega) ?_;intro v' w1 o N;have O:=Hp o;have HG:=Hp N;clear o N)
        go_roundw
        case rel=>
         have F:Below (w.heap.size+1) wr w1:=((GZ4 _ wr).alloc (by omega) _).grown HG.out (by simp;omega) (fun g hg=>(Z.lt g hg).1)
         exact⟨n+1,by omega,by go_num,z.below F (by omega),by rw[J.out];exact O.out,by have L:=S.out;clear S;rw[J.out,GZ8,List.length_singleton,<-L];omega,C.trans (F.mono (by omega))⟩
        case measure=>(simp[intOf];try omega)
      ·have J:=Hp (TZ I.symm (fun h=>a3 h.1))
       have a2:decide ((0:Int)<n)=false:=by simp;omega
       clear I
       go_wp2_with (at_builtin;refine uF wr rfl _ _ rfl (w.heap.size+1) (.slice V K vc) (bF u n) ⟨n,1⟩ rfl rfl Z.out (by have:=S.out;omega) (by omega) ?_;intro v' w1 o N;have O:=Hp o;have HG:=Hp N;clear o N)
       go_roundw
       case rel=>
        have F:Below (w.heap.size+1) wr w1:=((GZ4 _ wr).alloc (by omega) _).grown HG.out (by simp;omega) (fun g hg=>(Z.lt g hg).1)
        exact⟨n+1,by omega,by go_num,z.below F (by omega),by rw[J.out];exact O.out,by have L:=S.out;clear S;rw[J.out,GZ8,List.length_singleton,<-L];omega,C.trans (F.mono (by omega))⟩
       case measure=>(simp[intOf];try omega)
     ·have J:=Hp (sK I.symm)
      clear I
      go_wp2_with fail
      go_roundw
      case rel=>exact⟨n+1,by omega,by go_num,z.out,J.out▸Z.out,by have L:=S.out;rw[J.out,<-L];omega,C.out⟩
      case measure=>(simp[intOf];try omega)
    ·have Y:decide ((n:Int)<16)=false:=by simp;omega
     obtain rfl:n=16:=by omega
     obtain⟨A',c',hv,T⟩:=gQ.row Z.out
     injection hv with hv1 _ hv2
     subst hv1
     have D:=Hp (show xD wr V R from H.out▸T)
     have HE:=Hp (show Value.slice V K vc=.slice V R.length vc by rw[S.out,H.out])
     clear hv2 T a5
     go_wp2_with fail
     go_ret
     refine⟨?_,C.out⟩
     first|exact⟨V,vc,congrArg Ending.returned HE.out,D.out⟩|exact⟨V,⟨vc,congrArg Ending.returned HE.out⟩,D.out⟩
end
section
open Go.RowKit
theorem JI {many:Int}{r:Run}{l:List Run}:fM many (r::l)=if many<=r.many then r.first else fM many l:=by
 unfold fM
 by_cases a:many<=r.many<;>simp[a]
theorem Jd {many:Int}{l:List Run}{j:Nat}(h:j<l.length):fM many (l.drop j)=if many<=l[j].many then l[j].first else fM many (l.drop (j+1)):=by
 rw[GY4 h,JI]
theorem DI (A:Option Addr)(c:Nat)(l:List Plc)(many:Int)(w:World)(h:aU w A l)(o:RY l=0):
  Calls Tryz.prog 106 #[.slice A l.length c,.int .i64 many] w fun e C=>e=.returned (.int .i64 (fM many (RI l)))/\Below w.heap.size w C:=by
 have B:=Hp (show(RI l).length<=9 by have:=iY l 0;have:=(cZ o).1;unfold RI;omega)
 have z:=Hp (I7 A c l w h o)
 obtain⟨R,x⟩:=Nm (RI l)
 rw[<-x]at z B ⊢
 clear h o x
 go_enter Tryz.func106,Tryz.ntmps106
 go_wp2_with (go_at_call 180;refine(z.out).mono ?_;rintro e s ⟨⟨M,K,rfl,b⟩,a⟩;have H:=Hp b;clear b)
 go_loopw [6] (fun i wr=>∃(j:Nat),j<=R.length/\i=.int .i64 j/\fM many (R.drop j)=fM many R/\Below s.heap.size s wr) (fun i _=>R.length -(intOf i).toNat)
 case atStart=>exact⟨0,by omega,rfl,rfl,GZ4 _ _⟩
 case round=>
  obtain⟨j,J,rfl,y,p⟩:=hrel
  have q:=Hp y
  have r:=Hp p
  have I:=B.out
  clear y
  by_cases g:j<R.length
  ·have u:(j:Int)<R.length:=by omega
   obtain⟨L,rfl,G,F,E⟩:=JN H.out p j g
   have d:=Jd (many:=many) g
   obtain⟨f,v⟩:=Nm (R[j].first)
   obtain⟨m,t⟩:=Nm (R[j].many)
   rw[<-v]at F d
   rw[<-t]at E d
   clear v t p
   by_cases n:many<=m
   ·rw[if_pos n]at d
    have k:=Hp (d.symm.trans q.out)
    clear d
    go_wp2_with fail
    go_ret
    exact⟨aC k.out,a.trans (r.mono a.size)⟩
   ·rw[if_neg n]at d
    have D:decide (many<=m)=false:=by simp;omega
    have k:=Hp (d.symm.trans q.out)
    clear d n
    go_wp2_with fail
    go_roundw
    case rel=>exact⟨j+1,by omega,by go_num,k.out,r.out⟩
    case measure=>(simp[intOf];try omega)
  ·have k:=Hp (show fM many R= -1 by rw[<-q.out,List.drop_eq_nil_of_le (by omega)];rfl)
   go_wp2_with fail
   go_ret
   exact⟨aC k.symm,a.trans (r.mono a.size)⟩
end
end Go.Proofs.YtjiedaialianmaaGreat
