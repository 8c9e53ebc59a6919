import Derived.Test.YtjiedaialianmaaGreatA14
import Derived.Test.YtjiedaialianmaaGreatCPlays04
import Derived.Test.YtjiedaialianmaaGreatCPlays05
set_option maxRecDepth 100000
set_option maxHeartbeats 4000000
namespace Go.Proofs.YtjiedaialianmaaGreat
section
open Go.RowKit
theorem rP {d:Func}{p u v:Tmp}(h:d.results=#[.cell p 29,.tmp u,.tmp v]){a:Array Value}{W:World}{R:Nat}{x old:Value}{Q:Ending->World->Prop}
  (f:a.getD p undef=.pointer (some ⟨R,0,none⟩)) (g:W.heap[R]? =some (.cells #[old] 29 (0,0)))
  (i:Q (.returned (.tuple #[.agg #[x],a.getD u undef,a.getD v undef])) (W.setCell ⟨R,0,none⟩ x)):bodyPost Tryz.prog d Q .ret ⟨a,[]⟩ (W.setCell ⟨R,0,none⟩ x):=by
 have c:(W.setCell ⟨R,0,none⟩ x).heap[R]? =some (.cells #[x] 29 (0,0)):=heap_setCell_same W R 0 _ _ x g
 have b:a[p]?.getD undef=.pointer (some ⟨R,0,none⟩):=by simpa using f
 have e:(results d a).run Tryz.prog (W.setCell ⟨R,0,none⟩ x)=.ok (.tuple #[.agg #[x],a.getD u undef,a.getD v undef]) (W.setCell ⟨R,0,none⟩ x):=by
  simp[results,h,b,asAddr,run_loadVar_row _ R 29 29 #[x] (0,0) _ c Tryz.underlying29 rfl Tryz.jI]
 exact bodyPost_ret e rfl i
def Tc (w:World)(E:Int)(d:List ByteArray)(f:List Ded)(e:Ending)(a:World):Prop:=Below w.heap.size w a/\∃(b:Fl)(A:Option Addr)(c:Nat)(D:List Ded),e=.returned (.tuple #[b.v,.slice A D.length c,.int .i64 E])/\Rt a w.heap.size b d/\mZ a w.heap.size (.slice A D.length c) D/\D=f
theorem Tc.err {w a:World}{E:Int}{b:List ByteArray}{c:List Ded}(h:Below w.heap.size w a)(hF:b=[])(d:c=[]):Tc w E b c (.returned (.tuple #[.agg #[.slice none 0 0],.slice none 0 0,.int .i64 E])) a:=by
 subst hF d
 exact⟨h,F5,none,0,[],rfl,⟨AY _ _,GZ3 _,rfl⟩,World.ownsRow_nil _ _ _ _,rfl⟩
def xU (f:List ByteArray)(s:List UInt8):List ByteArray:=Bu (dF f s.length) (bT f (aW f s))
def OL (f:List ByteArray)(s:List UInt8):List Ded:=if dF f s.length=0 then aW f s else[]
theorem uG (f:Fl)(s:ByteArray)(w:World)(h:f.ok w)(hs:s.size<=big):
  Calls Tryz.prog 27 #[f.v,.string s] w (Tc w (dF f.bl s.size) (xU f.bl (bytesOf s)) (OL f.bl (bytesOf s))):=by
 unfold big at hs
 obtain⟨S,V⟩:=Nm (w.alloc (.cells #[.slice f.a f.bl.length f.c] 29))
 obtain⟨f0,b6,a8⟩:=Ui V
 obtain⟨w2,U⟩:=Nm (S.alloc (.cells #[.slice none 0 0] 29))
 obtain⟨_,hR,b5,Z⟩:=jG U
 have k0:=(Z.cell (p:=⟨w.heap.size,0,none⟩) (by simp;omega)).trans f0
 have i:=Hp (a8.trans (Z.mono (by omega)))
 have y:=Hp (show S.heap.size=w.heap.size+1/\w2.heap.size=w.heap.size+2 by omega)
 have c8:=V.symm
 have c7:=U.symm
 have HR:=Hp hR
 have cF:=Hp (yN f w2 (h.below i.out))
 have H:=Hp h
 have a1:=Hp (RB s)
 unfold xU OL
 rw[a1.out]
 obtain⟨EA,g⟩:=Nm (dF f.bl s.size)
 obtain⟨EF,M⟩:=Nm (bP f.bl)
 rw[<-M]at cF
 rw[<-g]
 have c0:=Hp g
 obtain⟨F0,L⟩:=Nm (Bu EA (bT f.bl (aW f.bl (bytesOf s))))
 obtain⟨D0,N⟩:∃D,D=if EA=0 then aW f.bl (bytesOf s)else[]:=⟨_,rfl⟩
 rw[<-L,<-N]
 have O:=Hp L
 have P:=Hp N
 have n:=Hp (show EA≠0->F0=[]/\D0=[] from fun h=>⟨by rw[L];exact AQ h,by rw[N];exact if_neg h⟩)
 clear L N
 unfold dF at g
 rw[<-M]at g
 have a4:=Hp M
 clear V U a8 Z b6 b5 f0 hR h M
 by_cases t0:EF=0
 ·rw[if_pos t0]at g
  subst t0
  by_cases T:s.size=0
  ·rw[if_pos T]at g
   obtain rfl:s=⟨#[]⟩:=by
    obtain⟨x⟩:=s
    rw[Array.eq_empty_of_size_eq_zero T]
   subst g
   clear T hs
   go_enter Tryz.func27,Tryz.ntmps27
   go_wp2_with (
    go_at_call 94
    refine(cF.out).mono ?_
    rintro e w3 ⟨rfl,b⟩
    have j:=(b.block _ (by have:=y.out;omega)).trans HR.out
    have E:=cell_of_heap j 0
    have zf:=aQ j 0
    simp only[GZ2,GZ0]at E
    have B:=Hp j
    have o:=Hp (i.trans (b.mono i.size))
    clear j b)
   refine rP rfl rfl B.out ?_
   exact Tc.err (o.setCell (p:=⟨S.heap.size,0,none⟩) (by have:=y.out;simp;omega) _) (n.out (by decide)).1 (n.out (by decide)).2
  ·rw[if_neg T]at g
   have G:(s.toList==(⟨#[]⟩:ByteArray).toList)=false:=mY (by rintro rfl;exact T rfl)
   have d0:s.toList.isEmpty=false:=by
    cases h:s.toList with
    |nil=>rw[h,show(⟨#[]⟩:ByteArray).toList=[] from by kernel_rfl]at G;exact absurd G (by decide)
    |cons a l=>rfl
   by_cases t2:800<s.size
   ·rw[if_pos t2]at g
    have b4:(800:Int)<s.size:=by omega
    subst g
    clear G T t2
    go_enter Tryz.func27,Tryz.ntmps27
    go_wp2_with (
     go_at_call 94
     refine(cF.out).mono ?_
     rintro e w3 ⟨rfl,b⟩
     have j:=(b.block _ (by have:=y.out;omega)).trans HR.out
     have E:=cell_of_heap j 0
     have zf:=aQ j 0
     simp only[GZ2,GZ0]at E
     have B:=Hp j
     have o:=Hp (i.trans (b.mono i.size))
     clear j b)
    refine rP rfl rfl B.out ?_
    exact Tc.err (o.setCell (p:=⟨S.heap.size,0,none⟩) (by have:=y.out;simp;omega) _) (n.out (by decide)).1 (n.out (by decide)).2
   ·rw[if_neg t2]at g
    have b4:¬((800:Int)<s.size):=by omega
    have a0:=Hp (show 1<=s.size/\s.size<=800 by omega)
    have cA:=Hp (fun W(hW:Below w.heap.size w W)=>PL f s W (H.below hW) a4.symm a0.out.1 a0.out.2)
    rw[<-g]at cA
    have c9:=Hp g
    clear g G T t2
    by_cases F:EA=0
    ·have HT:=Hp F
     have b3:=Hp (Av (f:=f.bl) (s:=bytesOf s) (by rw[a1.out,<-c0.out];exact F))
     obtain⟨k,r,e0,e,ho,R,Y⟩:=b3.out
     have a5:=Hp (show∀d∈aW f.bl (bytesOf s),eB f.bl.length d=0 by rw[Y];exact FM R)
     have a6:(aW f.bl (bytesOf s)).length<=5000:=by
      rw[Y];unfold CU
      have h1:=iH e (bytesOf s)
      have h2:=iH (128*f.bl.length -5*(k+1)) (Sw e (bytesOf s).length)
      have h3:(Sw e (bytesOf s).length).length=4:=rfl
      have h4:=a0.out.2
      rw[a1.out]at h1
      rw[GZ8,GZ8,List.length_singleton]
      omega
     have b1:=Hp a6
     obtain⟨DD,b0⟩:=Nm (aW f.bl (bytesOf s))
     rw[<-b0]at a5 b1 cA O P
     rw[F]at O P
     have b9:=Hp (O.trans (SK rfl))
     have c2:=Hp (P.trans (if_pos rfl))
     rw[if_pos F]at cA
     subst F
     clear ho R Y a6 b0 O P b3
     go_enter Tryz.func27,Tryz.ntmps27
     go_wp2_with (first
      |(go_at_call 94
        refine(cF.out).mono ?_
        rintro e w3 ⟨rfl,b⟩
        have k3:=(b.cell (p:=⟨w.heap.size,0,none⟩) (by have:=y.out;simp;omega)).trans k0
        have q:=Hp b
        have o:=Hp (i.trans (b.mono i.size))
        clear b)
      |(go_at_call 95
        refine(cA.out _ o.out).mono ?_
        rintro e w4 ⟨t,A4,c4,Q,rfl,A,u⟩
        have k4:=(t.cell (p:=⟨w.heap.size,0,none⟩) (oG k3)).trans k3
        have m:=q.trans (t.mono q.size)
        have a3:=Hp ((m.block _ (by have:=y.out;omega)).trans HR.out)
        have z:=Hp (i.trans (m.mono i.size))
        have b2:=Hp m
        have d1:=Hp o.size
        have b8:=Hp A
        have C:=Hp u
        have cX:=Hp (Gg f A4 c4 Q w4 (H.below z.out) a4.symm (by rw[u];exact a5.out) ⟨A.row,by rw[u];have:=b1.out;unfold big;omega⟩)
        clear t m A u)
      |(go_at_call 77
        refine(cX.out).mono ?_
        rintro e w5 ⟨I,A5,c5,rfl,a7,a9⟩
        have J:=(I.block _ (by have:=y.out;have:=b2.size;omega)).trans a3.out
        have E:=cell_of_heap J 0
        have zf:=aQ J 0
        simp only[GZ2,GZ0]at E
        have a2:=Hp J
        have c6:=Hp (z.trans (I.mono z.size))
        have b7:=Hp a9
        have c1:=Hp (b8.below I (GZ3 _))
        have c3:=Hp a7
        clear J I a9 a7))
     refine rP rfl rfl a2.out ?_
     have X:=(qQ a4.symm (l:=Q) (by rw[C.out];exact a5.out)).2
     refine⟨c6.setCell (p:=⟨S.heap.size,0,none⟩) (by have:=y.out;simp;omega) _,⟨bT f.bl Q,A5,c5⟩,A4,c4,Q,?_,⟨?_,?_,?_⟩,?_,?_⟩
     ·show _=Ending.returned (.tuple #[.agg #[.slice A5 (bT f.bl Q).length c5],_,_]);rw[X];rfl
     ·show dA _ _ (.slice A5 (bT f.bl Q).length c5) _
      rw[X]
      exact(b7.eT a2.out (by decide) 0 _).more z.size
     ·show(bT f.bl Q).length<=c5
      rw[X];exact c3.out
     ·show bT f.bl Q=F0
      rw[b9.out,C.out]
     ·exact(c1.eT a2.out (by decide) 0 _).more o.size
     ·rw[c2.out,C.out]
    ·have u1:(EA != 0)=true:=by simp[F]
     rw[if_neg F]at cA
     have HT:=Hp F
     clear F
     go_enter Tryz.func27,Tryz.ntmps27
     go_wp2_with (first
      |(go_at_call 94
        refine(cF.out).mono ?_
        rintro e w3 ⟨rfl,b⟩
        have k3:=(b.cell (p:=⟨w.heap.size,0,none⟩) (by have:=y.out;simp;omega)).trans k0
        have q:=Hp b
        have o:=Hp (i.trans (b.mono i.size))
        clear b)
      |(go_at_call 95
        refine(cA.out _ o.out).mono ?_
        rintro e w4 ⟨t,A4,c4,Q,rfl,A,u⟩
        have m:=q.trans (t.mono q.size)
        have K:=(m.block _ (by have:=y.out;omega)).trans HR.out
        have E:=cell_of_heap K 0
        have zf:=aQ K 0
        simp only[GZ2,GZ0]at E
        have a3:=Hp K
        have z:=Hp (i.trans (m.mono i.size))
        clear K t m A u))
     refine rP rfl rfl a3.out ?_
     exact Tc.err (z.setCell (p:=⟨S.heap.size,0,none⟩) (by have:=y.out;simp;omega) _) (n.out HT.out).1 (n.out HT.out).2
 ·rw[if_neg t0]at g
  subst g
  have u1:(EA != 0)=true:=by simp[t0]
  have HT:=Hp t0
  clear t0
  go_enter Tryz.func27,Tryz.ntmps27
  go_wp2_with (
   go_at_call 94
   refine(cF.out).mono ?_
   rintro e w3 ⟨rfl,b⟩
   have j:=(b.block _ (by have:=y.out;omega)).trans HR.out
   have E:=cell_of_heap j 0
   have zf:=aQ j 0
   simp only[GZ2,GZ0]at E
   have B:=Hp j
   have o:=Hp (i.trans (b.mono i.size))
   clear j b)
  refine rP rfl rfl B.out ?_
  exact Tc.err (o.setCell (p:=⟨S.heap.size,0,none⟩) (by have:=y.out;simp;omega) _) (n.out HT.out).1 (n.out HT.out).2
def qH (w:World)(E:Int)(b:List ByteArray)(e:Ending)(a:World):Prop:=Below w.heap.size w a/\∃(A:Option Addr)(c:Nat)(R:List ByteArray),e=.returned (.tuple #[.slice A R.length c,.int .i64 E])/\dA a w.heap.size (.slice A R.length c) R/\R=b
theorem qH.err {w a:World}{E:Int}{b:List ByteArray}(h:Below w.heap.size w a)(c:b=[]):qH w E b (.returned (.tuple #[.slice none 0 0,.int .i64 E])) a:=by
 subst c
 exact⟨h,none,0,[],rfl,dA.nil _ _,rfl⟩
theorem wJ (f:Fl)(w:World)(h:f.ok w):Calls Tryz.prog 28 #[f.v] w (qH w (gZ f.bl) (bQ f.bl)):=by
 obtain⟨O,m⟩:=Nm (w.alloc (.cells #[.slice f.a f.bl.length f.c] 29))
 obtain⟨I,o,n⟩:=Ui m
 have D:=m.symm
 have g:=Hp n
 have J:=Hp o
 have H:=Hp h
 have s:=Hp (yN f O (h.below n))
 obtain⟨L,j⟩:=Nm (bP f.bl)
 rw[<-j]at s
 unfold gZ bQ
 rw[<-j]
 have x:=Hp j
 clear m n h o j
 by_cases l:L=0
 ·rw[if_pos l,if_pos l]
  have K:=Hp (x.symm.trans l)
  subst l
  cases q:Re (flat f.bl)with
  |none=>
   have u:=Hp (fun W(t:Below w.heap.size w W)=>Dm f W (H.below t) K.out q)
   clear q
   go_enter Tryz.func28,Tryz.ntmps28
   go_wp2_with (first
    |(go_at_call 94
      refine(s.out).mono ?_
      rintro e C ⟨rfl,b⟩
      have P:=(b.cell (p:=⟨w.heap.size,0,none⟩) (by have:=J.out;simp;omega)).trans I
      have d:=Hp (g.trans (b.mono g.size))
      clear b)
    |(go_at_call 96
      refine(u.out _ d.out).mono ?_
      rintro e N ⟨rfl,i⟩))
   go_ret2
   exact qH.err (d.trans (i.mono d.size)) rfl
  |some p=>
   obtain⟨k,r,e⟩:=p
   have u:=Hp (fun W(t:Below w.heap.size w W)=>ED f W (H.below t) K.out k r e q)
   clear q
   go_enter Tryz.func28,Tryz.ntmps28
   go_wp2_with (first
    |(go_at_call 94
      refine(s.out).mono ?_
      rintro e C ⟨rfl,b⟩
      have P:=(b.cell (p:=⟨w.heap.size,0,none⟩) (by have:=J.out;simp;omega)).trans I
      have d:=Hp (g.trans (b.mono g.size))
      clear b)
    |(go_at_call 96
      refine(u.out _ d.out).mono ?_
      rintro e N ⟨i,B,G,rfl,A,c,F,E⟩
      have M:=cell_of_heap F 2
      simp only[GZ2,GZ0,GZ1]at M
      have z:=Hp (d.trans (i.mono d.size))
      have Q:=Hp E
      have y:=Hp G
      clear i F E G))
   go_ret2
   exact⟨z.out,A,c,r,rfl,Q.more (by have:=d.size;have:=y.out;omega),rfl⟩
 ·rw[if_neg l,if_neg l]
  have u1:(L != 0)=true:=by simp[l]
  clear l
  go_enter Tryz.func28,Tryz.ntmps28
  go_wp2_with (go_at_call 94;refine(s.out).mono ?_;rintro e C ⟨rfl,b⟩)
  go_ret2
  exact qH.err (g.trans (b.mono g.size)) rfl
def lD (b:Int):Int:=if b<3 then 3 else uX b
theorem SL (b:Int)(w:World):
  Calls Tryz.prog 16 #[.int .i64 b] w fun e r=>Below w.heap.size w r/\∃n:Fl,e=.returned (.tuple #[n.v,.int .i64 (lD b)])/\Rt r w.heap.size n (Bu (lD b) (List.replicate b.toNat blank)):=by
 obtain⟨F,d⟩:=Nm (w.alloc (.cells #[.slice none 0 0] 29))
 obtain⟨B,o,j,l⟩:=jG d
 have A:=aQ o 0
 have s:=d.symm
 have c:=Hp l
 have x:=Hp o
 have z:=Hp j
 have u:=Hp (fun W=>P5 b W)
 obtain⟨E,h⟩:=Nm (lD b)
 obtain⟨G,g⟩:=Nm (uX b)
 rw[<-h]
 rw[<-g]at u
 unfold lD at h
 rw[<-g]at h
 clear d l o j g
 by_cases t:b<3
 ·rw[if_pos t]at h
  subst h
  go_enter Tryz.func16,Tryz.ntmps16
  go_wp2_with fail
  refine EL rfl rfl x.out ?_
  exact⟨c.setCell (p:=⟨w.heap.size,0,none⟩) (GZ3 _) _,F5,rfl,AY _ _,GZ3 _,(AQ (by decide)).symm⟩
 ·rw[if_neg t]at h
  subst h
  go_enter Tryz.func16,Tryz.ntmps16
  go_wp2_with (
   go_at_call 74
   refine(u.out _).mono ?_
   rintro e D ⟨f,n,rfl,k⟩
   have a:=(f.block _ (by have:=z.out;omega)).trans x.out
   have y:=cell_of_heap a 0
   have C:=aQ a 0
   simp only[GZ2,GZ0]at y
   have m:=Hp a
   have q:=Hp (c.trans (f.mono c.size))
   have i:=Hp k
   clear a f k)
  refine EL rfl rfl m.out ?_
  exact⟨q.setCell (p:=⟨w.heap.size,0,none⟩) (GZ3 _) _,n,rfl,(i.own.eT m.out (by decide) 0 _).more c.size,i.cap,i.is⟩
end
section
open Go.RowKit
def Ut :ByteArray:=⟨#[115,111,109,101,32,114,101,99,111,114,100]⟩
def jf0 :List ByteArray:=List.replicate 3 blank
def jf1 :List ByteArray:=bT jf0 (aW jf0 (bytesOf Ut))
theorem Qg :lD 3=0:=by kernel_rfl
theorem Ar :bP jf0=0:=by kernel_rfl
theorem Er :dF jf0 (bytesOf Ut).length=0:=by
 have a:(flat jf0).length=384:=fG Ar
 have c:TG (flat jf0) 11=0:=by
  unfold TG
  rw[show Re (flat jf0)=some (0,[],0) from kR 3]
  simp only
  rw[a,if_neg (by decide)]
 have b:(bytesOf Ut).length=11:=rfl
 rw[b]
 unfold dF
 rw[if_pos Ar,if_neg (by decide),if_neg (by decide)]
 exact c
theorem Bv :gZ jf0=0/\bQ jf0=[]:=by
 unfold gZ bQ
 rw[if_pos Ar,if_pos Ar,show Re (flat jf0)=some (0,[],0) from kR 3]
 exact⟨rfl,rfl⟩
theorem vR :bP jf1=0/\gZ jf1=0/\bQ jf1=[Ut]/\0<(aW jf0 (bytesOf Ut)).length:=by
 obtain⟨d,_,c,b,a⟩:=TT Er
 refine⟨d,c,?_,a⟩
 unfold jf1
 rw[b,Bv.2,wR];rfl
theorem jF (w:World):Calls Tryz.prog 13 #[] w fun e w'=>e=.returned (.bool true)/\Below w.heap.size w w':=by
 have Y:=SL 3 w
 rw[Qg,SK rfl,show List.replicate (3:Int).toNat blank=jf0 from rfl]at Y
 have CN:=Hp Y
 clear Y
 obtain⟨R0,E⟩:=Nm Ut
 have b0:=Hp E
 clear E
 go_enter Tryz.func13,Tryz.ntmps13
 go_upto_region 5 with(first
  |(go_at_call 16;refine(CN.out).mono ?_;rintro e S ⟨u,J,rfl,g⟩
    obtain⟨w2,m⟩:=Nm (S.alloc (.cells #[.slice J.a J.bl.length J.c] 29))
    obtain⟨R,_,U,t⟩:=jG m
    have a7:=m.symm
    have v:=(g.ok (.inr Ar)).below t
    have Z:=uG J Ut w2 v (by decide)
    have V:=Er
    rw[RB]at V
    rw[g.is,V]at Z
    have CA:=Hp Z
    have O:=Hp (u.trans (t.mono u.size))
    have a3:=Hp v
    have a4:=Hp g.is
    clear m U u t g v Z V)
  |(go_at_call 27;refine(CA.out).mono ?_;rintro e w3 ⟨s,I,A3,c3,D3,rfl,f,X,H⟩
    have n:I.bl=jf1:=by
     rw[f.is];unfold xU;rw[Er,SK rfl];rfl
    have o:0<D3.length:=by
     rw[H];unfold OL;rw[if_pos Er];exact vR.2.2.2
    obtain⟨w4,l⟩:=Nm (w3.alloc (.cells #[.slice I.a I.bl.length I.c] 29))
    obtain⟨x4,_,T,r⟩:=jG l
    have a6:=l.symm
    have b:=s.trans (r.mono s.size)
    have Q:=(b.cell (p:=⟨S.heap.size,0,none⟩) (oG R)).trans R
    have G:=(f.ok (by rw[<-f.is,n];exact .inr vR.1)).below r
    have x:=wJ I w4 G
    rw[n,vR.2.1,vR.2.2.1]at x
    have CO:=Hp x
    have N:=Hp (O.trans (b.mono O.size))
    have a2:=Hp (a3.below b)
    have a5:=Hp o
    clear l T s r f X H n o b G x CA R)
  |(go_at_call 28;(with_reducible refine(CO.out).mono ?_);rintro e w5 ⟨h,A5,c5,R5,rfl,F,D⟩
    have y5:=(h.cell (p:=⟨S.heap.size,0,none⟩) (oG Q)).trans Q
    have x:=wJ J w5 (a2.below h)
    rw[a4.out,Bv.1,Bv.2]at x
    have CP:=Hp x
    have a1:=Hp F
    have y:=Hp D
    have M:=Hp (N.trans (h.mono N.size))
    clear h F D x CO Q)
  |(go_at_call 28;(with_reducible refine(CP.out).mono ?_);rintro e z ⟨q,A6,c6,R6,rfl,W,C⟩
    have a0:=Hp (a1.below q (GZ3 _))
    have L:=Hp (M.trans (q.mono M.size))
    have a8:R6.length=0:=by rw[C];rfl
    clear q W C))
 obtain⟨W6,i⟩:=Nm (z.alloc (.cells #[.string Ut] 9))
 have d:Below z.heap.size z W6:=i▸ZB
 have A:Row strCells 1 W6 (some ⟨z.heap.size,0,none⟩) [Ut]:=pF (enc:=strCells) (k:=1) (fun _=>rfl) (i▸heap_alloc_new _ _) rfl
 obtain⟨A',c',e',j,_⟩:=dA.form (a0.below d (GZ3 _))
 injection e' with ea eb ec
 subst ea ec
 have P:=pX A5 (some ⟨z.heap.size,0,none⟩) c5 1 R5 [Ut] W6 j A (by rw[y.out];decide) (by decide)
 rw[y.out,show decide (([Ut]:List ByteArray)=[Ut])=true from decide_eq_true rfl]at P
 have a9:R5.length=1:=by rw[y.out];rfl
 have K:=Hp (L.trans (d.mono L.size))
 have B:=i.symm
 change Calls _ _ #[.slice A5 1 c5,.slice _ 1 1] _ _ at P
 have CS:=Hp P
 have o:=a5.out
 unfold Ut at B
 clear i d A j P eb
 go_wp2_with (go_at_call 31;go_loud ((with_reducible refine(CS.out).mono ?_);rintro e w7 ⟨rfl,d⟩))
 go_ret
 exact⟨by first|rfl|simp,K.trans (d.mono K.size)⟩
end
section
open Go.RowKit
theorem JInv.start {a:List ByteArray}(h:bP a=0)(b:Re (flat a)=some (0,[],0)):JInv a a [] [] 0 0:=
 ⟨h,rfl,b,rfl,(fun _ h=>by cases h),GZ3 _,GZ3 _⟩
theorem JInv.bound {b F R:List ByteArray}{D:List Ded}{k e:Nat}(h:JInv b F R D k e):5*k<=4096/\e<=4096:=by
 obtain⟨i,a⟩:=xM h.load
 have g:=a.many
 have f:=a.Ms
 have d:=fG h.ok
 have c:=(fP.1 h.ok).1.2
 omega
theorem JInv.err {d F R:List ByteArray}{D:List Ded}{k e n:Nat}(h:JInv d F R D k e)(a:dF F n≠0)(c:n≠0)(f:n<=800):dF F n=8/\(flat F).length<e+n+5+5*(k+1):=by
 unfold dF at a ⊢
 rw[if_pos h.ok,if_neg c,if_neg (by omega)]at a ⊢
 unfold TG at a ⊢
 rw[h.load]at a ⊢
 simp only at a ⊢
 by_cases b:(flat F).length<e+n+5+5*(k+1)
 ·rw[if_pos b];exact⟨rfl,b⟩
 ·rw[if_neg b]at a;exact absurd rfl a
theorem JInv.open_ {a F R:List ByteArray}{D:List Ded}{k e:Nat}(h:JInv a F R D k e):gZ F=0/\bQ F=R:=by
 unfold gZ bQ
 rw[if_pos h.ok,if_pos h.ok,h.load]
 exact⟨rfl,rfl⟩
theorem JInv.do_ {a F R:List ByteArray}{D:List Ded}{k e:Nat}(h:JInv a F R D k e)(b:bP a=0):Eg a D=0/\bT a D=F:=⟨I4.2 ⟨b,h.deeds⟩,h.done.symm⟩
theorem vK (W:World){k:Array Oper}{e:List Oper}{o:Oper}{a:Act}{Q:Exit->Act->World->Prop}(q:o.guard=none)(s x:Operand)
  (E:o.op=.call {callee:=.builtin .append,args:=#[s,x],argTypes:=#[27,27]}) (b:Nat) (v:Value) (l:List ByteArray) (C:a.eval s=v) (f:dA W b v l)
  (A:Option Addr) (c:Nat) (g:List ByteArray) (B:a.eval x=.slice A g.length c) (D:Row strCells 1 W A g) (t:l.length+g.length<=1000000) (d:b<=W.heap.size)
  (h:∀j i,dA i b j (l++g)->Below b W i->W.grownBy i v.ownBlock->(j.ownBlock=v.ownBlock\/j.ownBlock=some W.heap.size)->wpList Tryz.prog k Q e (a.put o.dst j) i):wpList Tryz.prog k Q (o::e) a W:=by
 obtain⟨z,F,p,n,m⟩:=info_parts Tryz.zQ
 refine eO W q s x 27 E b 9 z (.string ⟨#[]⟩) 1 16 Tryz.underlying27 F p n m rfl (by decide) v l.length (l.map Value.string) C f W.heap.size A g.length c (g.flatMap strCells) B D
  (fun u r=>by rw[<-rZ]at r;obtain⟨y,_,rfl⟩:=List.mem_map.1 r;rfl) (by simp only[maxLen];omega) (by omega) d ?_
 intro j i H w G
 refine h j i ?_ ((GZ4 b W).grown w d (iW f)) w G
 unfold dA
 rw[GZ8,List.map_append,rZ g];exact H
end
section
open Go.RowKit
def Tk (T:Nat)(S:List UInt8)(a:Rest)(w:World):Prop:=
 ∃at_:Nat,w.heap[T]? =some (.cells #[.string (sof S),.int .i64 at_,.bool a.isNone] 244 (0,0))/\at_<=S.length/\(a=none\/a=some (S.drop at_))
theorem Only.drewN {B:Nat}{w a:World}(h:Only B w a)(n:Nat):Only B w (a.drewN n):=⟨h.os,h.tape,h.output,h.size,h.block⟩
theorem AV (T:Nat)(S:List UInt8)(j:Rest)(n:Nat)(w:World)(h:Tk T S j w)(z:S.length<=big)(K:n<=100000):
  Calls Tryz.prog 209 #[.pointer (some ⟨T,0,none⟩),.int .i64 n] w fun e r=>e=.returned (.string (sof (txt n j).1))/\Tk T S (txt n j).2 r/\Only T w r:=by
 obtain⟨a,f,u,c⟩:=h
 have C:=heap_cell f 0
 have B:=heap_cell f 1
 have p:=heap_cell f 2
 have M:=heap_free f 1
 have L:=heap_free f 2
 simp only[GZ2,GZ1,GZ0]at C B p
 have q:=Hp f
 have y:=kH S
 unfold big at z
 clear f
 cases j with
 |none=>
  simp only[Option.isNone_none]at p
  clear c
  go_enter Tryz.func209,Tryz.ntmps209
  go_wp2_with fail
  go_quiet (fail)
  go_wp2_with fail
  go_ret
  exact⟨rfl,⟨a,heap_setCell_same _ T 2 _ _ _ q.out,u,.inl rfl⟩,((Only.refl T w).drewN _).trans (Only.set 2 _)⟩
 |some s=>
  simp only[Option.isNone_some]at p
  have k:s=S.drop a:=by
   rcases c with h|h
   ·cases h
   ·exact GY3 h
  have v:=Hp k
  obtain⟨d,m⟩:=Nm (S.length -a)
  have i:s.length=d:=by rw[k,List.length_drop,m]
  have J:IntKind.i64.wrap ((S.length:Int) -a)=d:=by rw[IntWalk.i64_in _ (by omega)];omega
  by_cases D:d<n
  ·have l:(d:Int)<n:=by omega
   have g:=Hp (wN (n:=n) (s:=s) (by omega))
   clear c k m i
   go_enter Tryz.func209,Tryz.ntmps209
   go_wp2_with fail
   go_quiet (fail)
   go_wp2_with fail
   go_ret
   exact⟨by rw[g.out];rfl,⟨a,by rw[g.out];exact heap_setCell_same _ T 2 _ _ _ q.out,u,.inl (by rw[g.out])⟩,((Only.refl T w).drewN _).trans (Only.set 2 _)⟩
  ·have l:decide ((d:Int)<n)=false:=by simp;omega
   obtain⟨b,t⟩:=Nm (a+n)
   have I:IntKind.i64.wrap ((a:Int)+n)=b:=by rw[IntWalk.i64_in _ (by omega)];omega
   have H:IntKind.i64.wrap ((b:Int) -n)=a:=by rw[IntWalk.i64_in _ (by omega)];omega
   have G:(0:Int)<=a:=by omega
   have F:(a:Int)<=b:=by omega
   have E:(b:Int)<=S.length:=by omega
   have g:=Hp (oU (n:=n) (s:=s) (by omega))
   have x:=Hp t
   have o:b<=S.length:=by omega
   clear c k m i t
   go_enter Tryz.func209,Tryz.ntmps209
   go_wp2_with fail
   go_quiet (fail)
   go_wp2_with fail
   go_quiet (fail)
   go_wp2_with fail
   go_ret
   have A:(sof S).extract a b=sof (txt n (some s)).1:=by
    rw[g.out,Tw,v.out,List.drop_take,show b -a=n by have:=x.out;omega]
   refine⟨by rw[<-A];rfl,⟨b,?_,o,.inr (by rw[g.out,v.out,List.drop_drop,x.out])⟩,?_⟩
   ·rw[g.out]
    exact heap_setCell_same _ T 1 _ _ _ q.out
   ·exact(((Only.refl T w).drewN _).trans (Only.set 1 _)).drewN _
theorem dQ (T:Nat)(S:List UInt8)(b:Rest)(k:Nat)(w:World)(h:Tk T S b w)(I:S.length<=big)(H:1<=k)(F:k<=4):
  Calls Tryz.prog 208 #[.pointer (some ⟨T,0,none⟩),.int .i64 k] w fun e C=>e=.returned (.int .i64 (aI k b).1)/\Tk T S (aI k b).2 C/\Only T w C:=by
 have p:T<w.heap.size:=by obtain⟨a,i,_⟩:=h;exact(ZL i)
 have x:=Hp (AV T S b k w h I (by omega))
 have g:=lI k b
 have f:(txt k b).2=none->(txt k b).1=[]:=fun E=>by
  cases b with
  |none=>rfl
  |some s=>
   by_cases D:s.length<k
   ·rw[wN D]
   ·rw[oU D]at E;cases E
 have v:(aI k b).1=num (txt k b).1:=rfl
 have u:(aI k b).2=(txt k b).2:=rfl
 rw[v,u]
 generalize txt k b=Q at*
 obtain⟨t,n⟩:=Q
 simp only at x g f v u ⊢
 clear v u h
 have j:=kH t
 cases n with
 |none=>
  obtain rfl:=f rfl
  clear g f
  go_enter Tryz.func208,Tryz.ntmps208
  go_wp2_with (go_at_call 209;refine(x.out).mono ?_;rintro e B ⟨rfl,m,d⟩;have A:=Hp m;obtain⟨a,i,_⟩:=m;have z:=heap_cell i 2;simp only[GZ2,GZ1,GZ0,Option.isNone_none]at z;clear i)
  go_ret
  exact⟨rfl,A.out,d⟩
 |some r=>
  have l:t.length=k:=by
   rcases g with h|⟨_,h⟩
   ·exact h
   ·cases h
  have y:=Hp (fun W=>Np (sof t) 0 k W (by rw[j];omega) (by rw[j];exact pU (by omega) (by omega) (by omega) (by omega)))
  have G:((sof t).data.toList.drop 0).take k=t:=by simp[<-l]
  rw[G]at y
  change Hid (∀W,Calls _ _ #[.string (sof t),.int .i64 0,.int .i64 k] W _)at y
  clear G g f l
  go_enter Tryz.func208,Tryz.ntmps208
  go_wp2_with (first|(go_at_call 209;refine(x.out).mono ?_;rintro e B ⟨rfl,m,d⟩;have A:=Hp m;obtain⟨a,i,o⟩:=m;have z:=heap_cell i 2;simp only[GZ2,GZ1,GZ0,Option.isNone_some]at z;clear i o)|(go_at_call 242;with_reducible refine(y.out _).mono ?_;rintro e K ⟨rfl,c⟩))
  go_ret
  have q:T<B.heap.size:=GY0 p d.size
  refine⟨rfl,?_,d.trans ⟨c.os,c.tape,c.output,c.size,fun k F _=>c.block k F⟩⟩
  obtain⟨a,i,J⟩:=A.out
  exact⟨a,(c.block T q).trans i,J⟩
theorem rE (T:Nat)(S:List UInt8)(a:Rest)(w:World)(h:Tk T S a w)(j:S.length<=big):
  Calls Tryz.prog 207 #[.pointer (some ⟨T,0,none⟩)] w fun e i=>e=.returned (.string (sof (nam a).1))/\Tk T S (nam a).2 i/\Only T w i:=by
 have g:=Hp (dQ T S a 1 w h j (by omega) (by omega))
 have q:=(dZ 1 a (by omega)).1
 have b:=Ru a
 have m:nam a=txt (aI 1 a).1.toNat (aI 1 a).2:=rfl
 rw[m]
 generalize aI 1 a=Q at*
 obtain⟨n,c⟩:=Q
 simp only at g q b ⊢
 obtain⟨k,rfl⟩:∃k:Nat,n=k:=⟨n.toNat,by omega⟩
 have r:=Hp (fun W p=>AV T S c k W p j (by omega))
 have o:((k:Int)).toNat=k:=by omega
 rw[o]
 change Hid (Calls _ _ #[_,.int .i64 1] w _)at g
 clear h m o
 go_enter Tryz.func207,Tryz.ntmps207
 go_wp2_with (first|(go_at_call 208;refine(g.out).mono ?_;rintro e v ⟨rfl,b,f⟩;have t:=Hp b;clear b)|(go_at_call 209;refine(r.out _ t.out).mono ?_;rintro e u ⟨rfl,l,d⟩;have s:=Hp l;clear l))
 go_ret
 exact⟨rfl,s.out,f.trans d⟩
end
end Go.Proofs.YtjiedaialianmaaGreat
