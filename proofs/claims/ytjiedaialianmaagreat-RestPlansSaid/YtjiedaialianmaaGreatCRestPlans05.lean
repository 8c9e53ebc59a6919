import Derived.Test.YtjiedaialianmaaGreatA23
import Derived.Test.YtjiedaialianmaaGreatCRestPlans01
import Derived.Test.YtjiedaialianmaaGreatCRestPlans02
set_option maxRecDepth 100000
set_option maxHeartbeats 4000000
namespace Go.Proofs.YtjiedaialianmaaGreat
section
open Go.RowKit Go.Lib Go.Sort
open Gs (Tx)
theorem Order_any (A:Option Addr)(c:Nat)(l:List Plc)(w:World)(h:aU w A l):
  Calls Tryz.prog 58 #[.slice A l.length c] w fun e o=>TxRes o w.heap.size e (orderT l) (orderErr l)/\Below w.heap.size w o:=by
 have k:=Hp (ready_any A c l w h)
 have j:=Hp (fun(e:Dh l=0)W(t:Below w.heap.size w W)=>Ii A c l W (h.below t) (OV e).1)
 obtain⟨E,d⟩:=Nm (orderErr l)
 have g:orderT l=if E≠0 then[]else(rT l).getD []:=by rw[d];rfl
 rw[<-d]
 unfold orderErr at d
 clear h
 obtain⟨N,p⟩:=Nm (orderT l)
 rw[<-p]at g ⊢
 clear p
 generalize rT l=so at*
 generalize Dh l=ge at*
 by_cases i:ge=0
 ·obtain rfl:=i
  rw[if_neg (by omega)]at d
  have q:=Hp (j.out rfl)
  clear j
  cases so with
  |none=>
   rw[if_pos (by rfl)]at d
   subst d
   rw[if_pos (by omega)]at g
   subst g
   go_enter Tryz.func58,Tryz.ntmps58
   go_wp2_with (first
    |(go_at_call 136;refine(k.out).mono ?_;rintro e n ⟨rfl,a⟩)
    |(go_at_call 87;refine(q.out _ a).mono ?_;rintro e r ⟨⟨v,rfl,f⟩,b⟩;have m:=Hp b;clear f b))
   go_ret2
   exact⟨⟨_,rfl,TR.nil _ _⟩,a.trans (m.mono a.size)⟩
  |some out=>
   rw[if_neg (by simp)]at d
   subst d
   rw[if_neg (by omega),Option.getD_some]at g
   subst g
   go_enter Tryz.func58,Tryz.ntmps58
   go_wp2_with (first
    |(go_at_call 136;refine(k.out).mono ?_;rintro e n ⟨rfl,a⟩)
    |(go_at_call 87;refine(q.out _ a).mono ?_;rintro e r ⟨⟨v,rfl,f⟩,b⟩;have u:=Hp f;have m:=Hp b;clear f b))
   go_ret2
   exact⟨⟨_,rfl,u.more a.size⟩,a.trans (m.mono a.size)⟩
 ·rw[if_pos i]at d
  have s:(ge != 0)=true:=by simp[i]
  subst d
  rw[if_pos i]at g
  subst g
  clear i j
  go_enter Tryz.func58,Tryz.ntmps58
  go_wp2_with (first|(go_at_call 136;(with_reducible refine(k.out).mono ?_);rintro e n ⟨rfl,a⟩))
  go_ret2
  exact⟨⟨_,rfl,TR.nil _ _⟩,a⟩
end
section
open Go.RowKit
open Gs (Tx)
theorem Tryz.Q8 :(Tryz.prog.info? 39).map (·.size)=some 4:=by kernel_rfl
section
variable (A:Option Addr) (c:Nat) (a1 a2 a3 b1 b2 b3:Option Addr) (a4 a5 a6 b4 b5 b6:Nat)
theorem Gh :eH (gX a1 a2 a3 b1 b2 b3 a4 a5 a6 b4 b5 b6)=false:=by kernel_rfl
theorem Mk :aZ (RU A c) (gX a1 a2 a3 b1 b2 b3 a4 a5 a6 b4 b5 b6)=0:=by
 unfold aZ
 rw[UB,Gh]
 have h:(bU (RU A c) (gX a1 a2 a3 b1 b2 b3 a4 a5 a6 b4 b5 b6) (gX a1 a2 a3 b1 b2 b3 a4 a5 a6 b4 b5 b6) 0).2=0:=by kernel_rfl
 rw[h];rfl
theorem Qs :aZ Rk (gX a1 a2 a3 b1 b2 b3 a4 a5 a6 b4 b5 b6)=5:=by
 unfold aZ
 have b:aX Rk (gX a1 a2 a3 b1 b2 b3 a4 a5 a6 b4 b5 b6)=0:=by
  have a:=dM (UB none 0 a1 a2 a3 b1 b2 b3 a4 a5 a6 b4 b5 b6)
  unfold aX
  rw[a.2.1,a.2.2.1];rfl
 rw[b,Gh]
 have h:(bU Rk (gX a1 a2 a3 b1 b2 b3 a4 a5 a6 b4 b5 b6) (gX a1 a2 a3 b1 b2 b3 a4 a5 a6 b4 b5 b6) 0).2=5:=by kernel_rfl
 rw[h];rfl
theorem OT :idxOf (named ⟨#[108,105,98]⟩) (gX a1 a2 a3 b1 b2 b3 a4 a5 a6 b4 b5 b6)=1:=by kernel_rfl
theorem PH :idxOf (named ⟨#[110,111]⟩) (gX a1 a2 a3 b1 b2 b3 a4 a5 a6 b4 b5 b6)= -1:=by kernel_rfl
theorem QE :jZ (RU A c) (gX a1 a2 a3 b1 b2 b3 a4 a5 a6 b4 b5 b6) ⟨#[108,105,98]⟩=0:=by
 unfold jZ;rw[Mk,OT];rfl
theorem Ql :jZ (RU A c) (gX a1 a2 a3 b1 b2 b3 a4 a5 a6 b4 b5 b6) ⟨#[110,111]⟩=5:=by
 unfold jZ;rw[Mk,PH];rfl
end
theorem FJ (w:World):Calls Tryz.prog 73 #[] w fun e m=>(∃h f k l a1 a2 a3 a4 a5 a6 b1 b2 b3 b4 b5 b6,e=.returned (rgV (RU h f) k (gX a1 a2 a3 b1 b2 b3 a4 a5 a6 b4 b5 b6) l)/\(RU h f).ok m/\aU m k (gX a1 a2 a3 b1 b2 b3 a4 a5 a6 b4 b5 b6))/\Below w.heap.size w m:=by
 obtain⟨r,c⟩:=Nm (w.alloc (.cells #[.int .i64 0,.int .i64 0,.slice none 0 0,.slice none 0 0] 39))
 have p:=Hp (show r.heap[w.heap.size]? =some (.cells #[.int .i64 0,.int .i64 0,.slice none 0 0,.slice none 0 0] 39 (0,0)) by rw[c];exact heap_alloc_new w _)
 have q:=Hp (show Below w.heap.size w r from c▸ZB)
 have s:=c.symm
 clear c
 go_enter Tryz.func73,Tryz.ntmps73
 go_wp2_with fail
 refine(Sn _).mono ?_;rintro e D ⟨⟨h,f,rfl,j⟩,b⟩
 go_wp2_with fail
 refine(wF _).mono ?_;rintro e t ⟨⟨k,l,a1,a2,a3,a4,a5,a6,b1,b2,b3,b4,b5,b6,rfl,i⟩,d⟩
 have B:=Hp (j.below d)
 have A:=Hp i
 have C:=Hp ((q.trans (b.mono q.size)).trans (d.mono (GY1 q.size b.size)))
 have a:t.heap[w.heap.size]? =_:=(d.block _ (GY0 (ZL p.out) b.size)).trans ((b.block _ (ZL p.out)).trans p.out)
 have g:=Hp a
 have y:=heap_cell a 0
 have x:=heap_cell a 1
 have v:=heap_cell a 2
 have u:=heap_cell a 3
 have H:=heap_free a 0
 have G:=heap_free a 1
 have F:=heap_free a 2
 have E:=heap_free a 3
 simp only[GZ2,GZ0,GZ1]at y x v u
 clear j i b d a
 go_wp2_with fail
 try simp only[Exit.inBlock,Exit.then]
 obtain⟨z,n⟩:=gY g.out (.int .i64 (RU h f).major) (.int .i64 (RU h f).minor) (.slice (RU h f).eA (RU h f).ex.length (RU h f).eC) (.slice k 2 l)
 refine bodyPost_ret (results_cell_row rfl _ _ w.heap.size 39 _ (0,0) _ rfl z Tryz.underlying39 rfl Tryz.Q8) rfl ?_
 have o:=(ZL g.out)
 refine⟨⟨h,f,k,l,a1,a2,a3,a4,a5,a6,b1,b2,b3,b4,b5,b6,rfl,?_,?_⟩,C.trans (n.below (GY2 o))⟩
 ·exact Krn.ok.other ⟨0,0,none,0,0,none,0,0,g.out⟩ n B.out
 ·exact aU.other ⟨0,0,none,0,0,none,0,0,g.out⟩ n A.out
theorem U4 (w:World):Calls Tryz.prog 15 #[] w fun e w'=>e=.returned (.bool true)/\Below w.heap.size w w':=by
 go_enter Tryz.func15,Tryz.ntmps15
 go_wp2_with fail
 refine(FJ _).mono ?_;rintro e w1 ⟨⟨A1,c1,A2,c2,a1,a2,a3,a4,a5,a6,b1,b2,b3,b4,b5,b6,rfl,z,v⟩,C⟩
 have f1:=Hp (Dp (RU A1 c1) A2 c2 (gX a1 a2 a3 b1 b2 b3 a4 a5 a6 b4 b5 b6) ⟨#[108,105,98]⟩ w1 z v)
 rw[QE]at f1
 have E:=Hp (OT a1 a2 a3 b1 b2 b3 a4 a5 a6 b4 b5 b6)
 have F:=Hp (QE A1 c1 a1 a2 a3 b1 b2 b3 a4 a5 a6 b4 b5 b6)
 have P:=Hp C
 clear z v C
 go_wp2_with fail
 refine(f1.out).mono ?_;rintro e a ⟨⟨X,rfl,hX⟩,B⟩
 have r:X.first=4:=(hX.2.1 F.out 1 (by simp) E.out).1
 have N:=Hp (P.trans (B.mono P.size))
 clear hX B f1 E F
 obtain⟨b,xf⟩:=X
 simp only at r
 subst r
 obtain⟨w3,k⟩:=Nm (a.alloc (.cells #[.string b.name,.int .i64 b.major,.int .i64 b.minor,.string b.text,.slice b.eA b.ex.length b.eC,.slice b.iA b.im.length b.iC,.slice b.pA b.pa.length b.pC,.int .i64 4] 83))
 obtain⟨_,_,_,_,_,_,_,d7,q,A⟩:=zH k
 have M:=Hp (N.trans (A.mono N.size))
 have D:=Hp q
 have a7:=k.symm
 clear k A q
 go_wp2_with fail
 refine(FJ _).mono ?_;rintro e w4 ⟨⟨A3,c3,A4,c4,d1,d2,d3,d4,d5,d6,g1,g2,g3,g4,g5,g6,rfl,y,u⟩,i⟩
 have Z:=Hp (Dp (RU A3 c3) A4 c4 (gX d1 d2 d3 g1 g2 g3 d4 d5 d6 g4 g5 g6) ⟨#[110,111]⟩ w4 y u)
 rw[Ql]at Z
 have n7:=(i.cell (p:=⟨a.heap.size,7,none⟩) (by have:=D.out;simp;omega)).trans d7
 have L:=Hp (M.trans (i.mono M.size))
 have o:a.heap.size<w4.heap.size:=by have:=D.out;have:=i.size;omega
 clear y u i d7
 go_wp2_with fail
 refine(Z.out).mono ?_;rintro e w5 ⟨⟨Y,rfl,hY⟩,h⟩
 have m7:=(h.cell (p:=⟨a.heap.size,7,none⟩) o).trans n7
 have K:=Hp (L.trans (h.mono L.size))
 have U:a.heap.size<w5.heap.size:=by have:=h.size;omega
 obtain⟨w6,j⟩:=Nm (w5.alloc (.cells #[.string Y.m.name,.int .i64 Y.m.major,.int .i64 Y.m.minor,.string Y.m.text,.slice Y.m.eA Y.m.ex.length Y.m.eC,.slice Y.m.iA Y.m.im.length Y.m.iC,.slice Y.m.pA Y.m.pa.length Y.m.pC,.int .i64 Y.first] 83))
 obtain⟨_,_,_,_,_,_,_,_,T,l⟩:=zH j
 have o7:=(l.cell (p:=⟨a.heap.size,7,none⟩) U).trans m7
 have J:=Hp (K.trans (l.mono K.size))
 have n:a.heap.size<w6.heap.size:=by omega
 have a0:=j.symm
 clear hY h Z j l T n7 m7 o
 go_wp2_with fail
 refine(FJ _).mono ?_;rintro e w7 ⟨⟨A5,c5,A6,c6,h1,h2,h3,h4,h5,h6,i1,i2,i3,i4,i5,i6,rfl,x,t⟩,g⟩
 have W:=Hp (jE (RU A5 c5) A6 c6 (gX h1 h2 h3 i1 i2 i3 h4 h5 h6 i4 i5 i6) w7 x t)
 rw[Mk]at W
 have p7:=(g.cell (p:=⟨a.heap.size,7,none⟩) n).trans o7
 have I:=Hp (J.trans (g.mono J.size))
 have S:a.heap.size<w7.heap.size:=by have:=g.size;omega
 clear x t g o7
 go_wp2_with fail
 refine(W.out).mono ?_;rintro e w8 ⟨rfl,f⟩
 have q7:=(f.cell (p:=⟨a.heap.size,7,none⟩) S).trans p7
 have H:=Hp (I.trans (f.mono I.size))
 have R:a.heap.size<w8.heap.size:=by have:=f.size;omega
 clear f p7 W
 go_wp2_with fail
 refine(wF _).mono ?_;rintro e w9 ⟨⟨A7,c7,j1,j2,j3,j4,j5,j6,l1,l2,l3,l4,l5,l6,rfl,s⟩,d⟩
 have V:=Hp (jE Rk A7 c7 (gX j1 j2 j3 l1 l2 l3 j4 j5 j6 l4 l5 l6) w9 (Sg _) s)
 rw[Qs]at V
 have r7:=(d.cell (p:=⟨a.heap.size,7,none⟩) R).trans q7
 have G:=Hp (H.trans (d.mono H.size))
 have Q:a.heap.size<w9.heap.size:=by have:=d.size;omega
 clear s d q7
 go_wp2_with fail
 refine(V.out).mono ?_;rintro e a8 ⟨rfl,c⟩
 have s7:=(c.cell (p:=⟨a.heap.size,7,none⟩) Q).trans r7
 have O:=Hp (G.trans (c.mono G.size))
 clear c r7 V
 go_wp2_with fail
 go_ret
 exact⟨by simp,O.out⟩
end
section
open Go.RowKit
abbrev pairL (l k j f e d:Option Addr)(i h g c b a:Nat):List Plc:=[⟨TH l k j i h g,1⟩,⟨lW f e d c b a,4⟩]
theorem begun_find1 (A c a1 a2 a3 a4 a5 a6 b1 b2 b3 b4 b5 b6):findOf (RU A c) (pairL a1 a2 a3 b1 b2 b3 a4 a5 a6 b4 b5 b6) ⟨⟨#[108,105,98]⟩,⟨#[102]⟩,1,1⟩=(4356,0):=by kernel_rfl
theorem begun_find2 (A c a1 a2 a3 a4 a5 a6 b1 b2 b3 b4 b5 b6):findOf (RU A c) (pairL a1 a2 a3 b1 b2 b3 a4 a5 a6 b4 b5 b6) ⟨⟨#[108,105,98]⟩,⟨#[102]⟩,1,3⟩=(0,4):=by kernel_rfl
theorem begun_all (A c a1 a2 a3 a4 a5 a6 b1 b2 b3 b4 b5 b6 c1 c2 c3 c4 c5 c6):allOf (RU A c) (pairL a1 a2 a3 b1 b2 b3 a4 a5 a6 b4 b5 b6) (TH c1 c2 c3 c4 c5 c6)=([4356,2],0):=by kernel_rfl
theorem begun_kern (A c):bJ (RU A c)=0:=by kernel_rfl
theorem resolveBegun_any (w:World):Calls Tryz.prog 45 #[] w fun e w'=>e=.returned (.bool true)/\Below w.heap.size w w':=by
 go_enter Tryz.func45,Tryz.ntmps45
 go_wp2_with fail
 refine(Sn _).mono ?_;rintro e w1 ⟨⟨A1,c1,rfl,W⟩,A⟩
 go_wp2_with fail
 refine(wF _).mono ?_;rintro e w2 ⟨⟨A2,c2,a1,a2,a3,a4,a5,a6,b1,b2,b3,b4,b5,b6,rfl,T⟩,m⟩
 go_wp2_with fail
 refine(Jr _).mono ?_;rintro e p ⟨⟨I,m2,H,G,B,F,rfl,R⟩,g⟩
 have O:=A.size
 have e8:=m.size
 have e7:=g.size
 obtain⟨b,e0,e9,i0,i1,i2,i3⟩:=TA R.im.1 (GZ4 _ _) 0 (by simp[TH])
 have a0:m2=some b:=e0
 subst a0
 have M:p.cell? b=some (.string ⟨#[108,105,98]⟩):=by simpa[TH,Addr.add]using i0
 have L:p.cell? ⟨b.block,b.off+1,none⟩=some (.string ⟨#[102]⟩):=by simpa[TH,Addr.add]using i1
 have K:p.cell? ⟨b.block,b.off+2,none⟩=some (.int .i64 1):=by simpa[TH,Addr.add]using i2
 have J:p.cell? ⟨b.block,b.off+3,none⟩=some (.int .i64 1):=by simpa[TH,Addr.add]using i3
 clear i0 i1 i2 i3 e0
 have Y:(TH I (some b) H G B F).v=.agg #[.string ⟨#[97,112,112]⟩,.int .i64 0,.int .i64 0,.string ⟨#[46,46,46,46,46,46,46,46]⟩,.slice I 0 G,.slice (some b) 2 B,.slice H 2 F]:=rfl
 have X:∀w:World,(Instr.field 70 (.agg #[.string ⟨#[97,112,112]⟩,.int .i64 0,.int .i64 0,.string ⟨#[46,46,46,46,46,46,46,46]⟩,.slice I 0 G,.slice (some b) 2 B,.slice H 2 F]) 5).run Tryz.prog w=.ok (.slice (some b) 2 B) w:=fun _=>by kernel_rfl
 have f1:=Hp (Find_any (RU A1 c1) A2 c2 (pairL a1 a2 a3 b1 b2 b3 a4 a5 a6 b4 b5 b6) ⟨⟨#[108,105,98]⟩,⟨#[102]⟩,1,1⟩ p ((W.below m).below g) (T.below g) (by unfold big;decide))
 rw[begun_find1]at f1
 go_wp2_with fail
 refine(f1.out).mono ?_;rintro e w4 ⟨rfl,c⟩
 clear Y X M L K J f1
 go_wp2_with fail
 refine(Sn _).mono ?_;rintro e w5 ⟨⟨A5,c5,rfl,V⟩,y⟩
 go_wp2_with fail
 refine(wF _).mono ?_;rintro e w6 ⟨⟨A6,c6,d1,d2,d3,d4,d5,d6,e1,e2,e3,e4,e5,e6,rfl,S⟩,l⟩
 go_wp2_with fail
 refine(Jr _).mono ?_;rintro e w7 ⟨⟨n1,n2,n3,n4,n5,n6,rfl,Q⟩,f⟩
 have d9:=y.size
 have d8:=l.size
 have d7:=f.size
 have f2:=Hp (All_any (RU A5 c5) A6 c6 (pairL d1 d2 d3 e1 e2 e3 d4 d5 d6 e4 e5 e6) (TH n1 n2 n3 n4 n5 n6) w7 ((V.below l).below f) (S.below f) Q)
 rw[begun_all]at f2
 go_wp2_with fail
 refine(f2.out).mono ?_;rintro e C ⟨⟨A8,c8,rfl,P⟩,x⟩
 clear f2
 go_wp2_with fail
 refine(Sn _).mono ?_;rintro e w9 ⟨⟨A9,c9,rfl,U⟩,u⟩
 go_wp2_with fail
 refine(wF _).mono ?_;rintro e E ⟨⟨b0,a8,g1,g2,g3,g4,g5,g6,h1,h2,h3,h4,h5,h6,rfl,q⟩,d⟩
 have d0:=x.size
 have N:=u.size
 have c3:=d.size
 have f3:=Hp (Find_any (RU A9 c9) b0 a8 (pairL g1 g2 g3 h1 h2 h3 g4 g5 g6 h4 h5 h6) ⟨⟨#[108,105,98]⟩,⟨#[102]⟩,1,3⟩ E (U.below d) q (by unfold big;decide))
 rw[begun_find2]at f3
 go_wp2_with fail
 refine(f3.out).mono ?_;rintro e c7 ⟨rfl,j⟩
 clear f3
 go_wp2_with fail
 refine(Sn _).mono ?_;rintro e D ⟨⟨a9,a7,rfl,r⟩,i⟩
 have Z:=Hp (Br (RU a9 a7) D r)
 rw[begun_kern]at Z
 go_wp2_with fail
 refine(Z.out).mono ?_;rintro e a ⟨rfl,h⟩
 have c0:=j.size
 have b9:=i.size
 have b7:=h.size
 clear Z
 have t:Below C.heap.size C a:=(u.trans ((d.mono N).trans ((j.mono (by omega)).trans ((i.mono (by omega)).trans (h.mono (by omega))))))
 have s:=fun o=>(GZ4 a.heap.size a).alloc (GZ3 _) o
 have f5:=Hp (SameInts_any A8 (some ⟨a.heap.size,0,none⟩) c8 2 [4356,2] [4356,2] (a.alloc (.cells #[.int .i64 4356,.int .i64 2] 3)) (P.below (t.trans ((s _).mono (by omega)))) (Ry (enc:=fun n=>[iv n]) (k:=1) (fun _=>rfl) (heap_alloc_new a _) rfl) (by unfold big;simp) (by unfold big;simp))
 go_wp2_with (go_at_call 116;refine(f5.out).mono ?_;rintro e c4 ⟨rfl,z⟩)
 go_ret
 refine⟨by simp,?_⟩
 have b8:Below w.heap.size w C:=A.trans ((m.mono O).trans ((g.mono (by omega)).trans ((c.mono (by omega)).trans ((y.mono (by have:=c.size;omega)).trans ((l.mono (by have:=c.size;omega)).trans ((f.mono (by have:=c.size;omega)).trans (x.mono (by have:=c.size;omega))))))))
 exact b8.trans ((t.mono b8.size).trans (((s _).mono (by have:=b8.size;omega)).trans (z.mono (by have:=b8.size;simp;omega))))
end
section
open Go.RowKit Go.Lib
theorem there_of {E:Int}{k:Krn}{A:Option Addr}{l:List Plc}{w:World}(n:k.ok w)(h:aU w A l):∀(W:World)(b:Nat)(d:Krn)(g:Option Addr)(c:List Plc)(i:Nat)(L:List Plc),L.map (·.m)=l.map (·.m)->UQ W b d g c i (wK E k) (wL E L)->
  dL W d g c/\(E=0->d.bare=k.bare/\aD c=aD L)/\(E≠0->d.bare=Rk/\c=[]):=fun W b d g c i L o f=>by
 by_cases t:E=0
 ·have a:=f
  rw[t,wK0,wL0]at a
  exact⟨UQ.QB a n h o,fun _=>⟨a.RU,a.mods⟩,fun e=>absurd t e⟩
 ·have a:=f
  rw[wKE t,wLE t]at a
  have j:c=[]:=by have:=nY a.mods;exact GY9 this
  exact⟨UQ.QB a (Sg W) (⟨Row.nil,Nat.zero_le _,by simp⟩:aU W none []) rfl,fun e=>absurd e t,fun _=>⟨a.RU,j⟩⟩
end
section
open Go.RowKit Go.Lib
theorem AddressesO_any (k:Krn)(A:Option Addr)(c:Nat)(l:List Plc)(nm tx:ByteArray)(mj mn:Int)(ex:List Exp)(a:List Imp)(Y:List Pat)(eA F pA:Option Addr)(eC iC Z:Nat)(w:World)(hk:k.ok w)(h:aU w A l)(z:TC w F a)(a7:a.length<=6)(hp:iB k l=0):
  Calls Tryz.prog 135 #[k.v,.slice A l.length c,.agg #[.string nm,.int .i64 mj,.int .i64 mn,.string tx,.slice eA ex.length eC,.slice F a.length iC,.slice pA Y.length Z]] w fun e T=>
   (∃(A':Option Addr)(c':Nat),e=.returned (.tuple #[.slice A' (aN k l a).1.length c',.int .i64 (aN k l a).2])/\Ints T w.heap.size (.slice A' (aN k l a).1.length c') (aN k l a).1)/\Below w.heap.size w T:=by
 obtain⟨wk,n⟩:=Nm (w.alloc (.cells #[.int .i64 k.major,.int .i64 k.minor,.slice k.eA k.ex.length k.eC] 24))
 obtain⟨g0,g1,g2,G,B⟩:=uE n
 obtain⟨s,o⟩:=Nm (wk.alloc (.cells #[.string nm,.int .i64 mj,.int .i64 mn,.string tx,.slice eA ex.length eC,.slice F a.length iC,.slice pA Y.length Z] 70))
 obtain⟨_,_,_,_,_,f5,_,g,d⟩:=wE o
 rw[G]at f5 g d
 have k0:=(d.cell (p:=⟨w.heap.size,0,none⟩) (by simp)).trans g0
 have k1:=(d.cell (p:=⟨w.heap.size,1,none⟩) (by simp)).trans g1
 have k2:=(d.cell (p:=⟨w.heap.size,2,none⟩) (by simp)).trans g2
 have S:=Hp (show Below w.heap.size w s from B.trans (d.mono (by omega)))
 have HZ:=Hp g
 have a0:=n.symm
 have a1:=o.symm
 have O:=Hp z
 obtain⟨R,L⟩:=Nm (aN k l a)
 rw[<-L]
 have HR:=Hp L
 clear n o B d g0 g1 g2 z L g
 have cA:=Hp (fun W(f:Below w.heap.size w W)i=>FQ k A c l i W (hk.below f) (h.below f) hp)
 clear hk h hp
 go_enter Tryz.func135,Tryz.ntmps135
 go_wp2_with fail
 go_loopw [8,16] (fun v i wr=>∃(j:Nat)(pre:List Int),j<=a.length/\i=.int .i64 j/\pre.length=j/\Ints wr s.heap.size v pre/\glue pre (aN k l (a.drop j))=R/\Below s.heap.size s wr) (fun _ i _=>a.length -(intOf i).toNat)
 case atStart=>exact⟨0,[],by omega,rfl,rfl,Ints.nil _ _,by rw[HR.out];exact Gb,GZ4 _ _⟩
 case round=>
  obtain⟨j,pre,hj,rfl,H,y,hG,f⟩:=hrel
  have Q:=Hp hG
  have HB:=Hp f
  have P:=Hp y
  have C:=Hp H
  clear hG y
  obtain⟨vA,vc,hv,a2⟩:=P.row
  have HV:=Hp hv
  clear hv
  have a6:=f.size
  have g:=HZ.out
  have a5:w.heap.size+1<wr.heap.size:=by omega
  have a4:w.heap.size<wr.heap.size:=by omega
  have r0:=(f.cell (p:=⟨w.heap.size,0,none⟩) (by simp;omega)).trans k0
  have r1:=(f.cell (p:=⟨w.heap.size,1,none⟩) (by simp;omega)).trans k1
  have r2:=(f.cell (p:=⟨w.heap.size,2,none⟩) (by simp;omega)).trans k2
  have r5:=(f.cell (p:=⟨w.heap.size+1,5,none⟩) (by simp;omega)).trans f5
  have N:=Hp (show Below w.heap.size w wr from S.trans (f.mono S.size))
  clear g
  by_cases m:j<a.length
  ·have a3:(j:Int)<a.length:=by omega
   obtain⟨ad,rfl,a8,h0,h1,h2,h3⟩:=TA O.out.1 N.out j m
   have E:=Hp (fun W f=>cA.out W f a[j])
   obtain⟨V,K⟩:=Nm (addrOf k l a[j])
   have r:=Hp (fun I=>(Fw (k:=k) (l:=l) (pre:=pre) m I).symm.trans Q.out)
   have M:=Hp (fun I=>(Jw (k:=k) (l:=l) (pre:=pre) m I).trans Q.out)
   rw[<-K]at r M
   simp only[<-K]at E
   clear K f
   obtain⟨X,U⟩:=V
   simp only at r M E
   have q:=Hp (N.alloc (by omega) (.cells #[.string a[j].mod,.string a[j].name,iv a[j].major,iv a[j].minor] 173))
   by_cases u:U=0
   ·obtain rfl:=u
    have D:=Hp (M.out rfl)
    go_wp2_with (first|(go_at_call 186;refine(E.out _ q.out).mono ?_;rintro e w2 ⟨rfl,b⟩;have t:=b.size)|(at_builtin;refine BQ _ rfl _ _ rfl s.heap.size _ pre X rfl rfl (own_below (P.alloc _) b (GZ3 _)) (by rw[C.out];omega) (by simp at t;omega) ?_;intro v' w4 x J))
    go_roundw
    case rel=>exact⟨j+1,pre++[X],by omega,by go_num,by simp[C.out],x,D.out,(((HB.alloc (by omega) _).trans (b.mono (by simp;omega))).trans J)⟩
    case measure=>(simp[intOf];try omega)
   ·have u':(U != 0)=true:=by simp[u]
    have D:=Hp (r.out u)
    clear u
    go_wp2_with (go_at_call 186;refine(E.out _ q.out).mono ?_;rintro e w2 ⟨rfl,b⟩;have t:=b.size)
    go_ret2
    exact⟨⟨none,0,by rw[<-D.out];rfl,by rw[<-D.out];exact Ints.nil _ _⟩,q.trans (b.mono (by simp;omega))⟩
  ·have r:=Hp ((Hf (k:=k) (l:=l) (pre:=pre) m).symm.trans Q.out)
   go_wp2_with fail
   go_ret2
   exact⟨⟨vA,vc,by rw[<-r.out];rw[HV.out];rfl,by rw[<-r.out];have hI:=P.out;rw[HV.out]at hI;exact RH hI S.size⟩,N.out⟩
theorem AllO_any (k:Krn)(A:Option Addr)(c:Nat)(l:List Plc)(m:Mod)(w:World)(L:k.ok w)(h:aU w A l)(K:m.ok w):
  Calls Tryz.prog 57 #[k.v,.slice A l.length c,m.v] w fun e Q=>
   (∃(H:Option Addr)(G:Nat),e=.returned (.tuple #[.slice H (allOf k l m).1.length G,.int .i64 (allOf k l m).2])/\Ints Q w.heap.size (.slice H (allOf k l m).1.length G) (allOf k l m).1)/\Below w.heap.size w Q:=by
 obtain⟨wk,o⟩:=Nm (w.alloc (.cells #[.int .i64 k.major,.int .i64 k.minor,.slice k.eA k.ex.length k.eC] 24))
 obtain⟨Z,Y,X,I,B⟩:=uE o
 obtain⟨D,q⟩:=Nm (wk.alloc (.cells #[.string m.name,.int .i64 m.major,.int .i64 m.minor,.string m.text,.slice m.eA m.ex.length m.eC,.slice m.iA m.im.length m.iC,.slice m.pA m.pa.length m.pC] 70))
 obtain⟨f0,f1,f2,f3,f4,f5,f6,n,d⟩:=wE q
 rw[I]at f0 f1 f2 f3 f4 f5 f6 n d
 have k0:=(d.cell (p:=⟨w.heap.size,0,none⟩) (by simp)).trans Z
 have k1:=(d.cell (p:=⟨w.heap.size,1,none⟩) (by simp)).trans Y
 have k2:=(d.cell (p:=⟨w.heap.size,2,none⟩) (by simp)).trans X
 have g:=Hp (show Below w.heap.size w D from B.trans (d.mono (by omega)))
 have HZ:=Hp n
 have U:=o.symm
 have V:=q.symm
 have a3:w.heap.size+1<D.heap.size:=by omega
 have a2:w.heap.size<D.heap.size:=by omega
 obtain⟨R,f⟩:=Nm (allOf k l m)
 rw[<-f]
 unfold allOf at f
 have F:=Hp (Placed_any k A c l D (L.below g.out) (h.below g.out))
 have P:=Hp (fun W(C:Below w.heap.size w W)=>oM m W (K.below C))
 have E:=Hp (fun hp hi W(C:Below w.heap.size w W)=>AddressesO_any k A c l m.name m.text m.major m.minor m.ex m.im m.pa m.eA m.iA m.pA m.eC m.iC m.pC W (L.below C) (h.below C) (K.below C).im hi hp)
 clear o q B d L h K Z Y X n
 by_cases j:iB k l=0
 ·rw[if_neg (by omega)]at f
  rw[j]at F
  by_cases r:aL m=0
  ·rw[if_neg (by omega)]at f
   rw[r]at P
   have T:=aY r
   have c4:=Hp (E.out j T.2.2.2.2.2.2.1)
   clear j r E T
   go_enter Tryz.func57,Tryz.ntmps57
   go_wp2_with (first|(go_at_call 134;refine(F.out).mono ?_;rintro e i ⟨rfl,a⟩;obtain⟨z,y⟩:=aJ a;have u:=a.size;have t:w.heap.size+1<i.heap.size:=(by omega);have s:w.heap.size<i.heap.size:=(by omega))|(go_at_call 113;refine(P.out _ (g.trans (a.mono (by omega)))).mono ?_;rintro e w2 ⟨rfl,b⟩;obtain⟨N,M⟩:=aJ b;have J:=b.size)|(go_at_call 135;refine(c4.out _ ((g.trans (a.mono (by omega))).trans (b.mono (by omega)))).mono ?_;rintro e w3 ⟨⟨H,G,rfl,x⟩,O⟩))
   go_ret2
   exact⟨⟨H,G,by rw[f];rfl,by rw[f];exact RH x ((g.trans (a.mono (by omega))).trans (b.mono (by omega))).size⟩,((g.trans (a.mono (by omega))).trans (b.mono (by omega))).trans (O.mono (by omega))⟩
  ·rw[if_pos r]at f
   have a0:(aL m != 0)=true:=by simp[r]
   clear j r E
   generalize aL m=ie at*
   go_enter Tryz.func57,Tryz.ntmps57
   go_wp2_with (first|(go_at_call 134;refine(F.out).mono ?_;rintro e i ⟨rfl,a⟩;obtain⟨z,y⟩:=aJ a;have u:=a.size;have t:w.heap.size+1<i.heap.size:=(by omega);have s:w.heap.size<i.heap.size:=(by omega))|(go_at_call 113;refine(P.out _ (g.trans (a.mono (by omega)))).mono ?_;rintro e w2 ⟨rfl,b⟩;obtain⟨N,M⟩:=aJ b;have J:=b.size))
   go_ret2
   exact⟨⟨none,0,by rw[f];rfl,by rw[f];exact Ints.nil _ _⟩,(g.trans (a.mono (by omega))).trans (b.mono (by omega))⟩
 ·rw[if_pos j]at f
  have a1:(iB k l==0)=false:=by simp[j]
  have S:(iB k l != 0)=true:=by simp[j]
  clear j E
  generalize iB k l=pe at*
  go_enter Tryz.func57,Tryz.ntmps57
  go_wp2_with (go_at_call 134;refine(F.out).mono ?_;rintro e i ⟨rfl,a⟩;obtain⟨z,y⟩:=aJ a;have u:=a.size;have t:w.heap.size+1<i.heap.size:=(by omega);have s:w.heap.size<i.heap.size:=(by omega))
  go_ret2
  exact⟨⟨none,0,by rw[f];rfl,by rw[f];exact Ints.nil _ _⟩,g.trans (a.mono (by omega))⟩
theorem RunsO_any (A:Option Addr)(c:Nat)(l:List Plc)(w:World)(h:aU w A l)(hr:RY l=0):
  Calls Tryz.prog 138 #[.slice A l.length c] w fun e w'=>(∃(A':Option Addr)(c':Nat),e=.returned (.slice A' (RI l).length c')/\gQ w' w.heap.size (.slice A' (RI l).length c') (RI l))/\Below w.heap.size w w':=by
 obtain⟨h8,s,a0⟩:=cZ hr
 have O:=Hp (show∀x∈l,x.m.text.size<=256/\0<=x.first/\x.first<=16/\0<=aR x/\aR x<=16 from fun x hx=>by
  obtain⟨B,h2⟩:=s x hx
  have h3:=gK B
  simp only[kE,Bool.and_eq_true,decide_eq_true_eq]at h2
  unfold aR
  exact⟨(aY B).2.2.1,by omega⟩)
 have HP:=Hp h
 have HS:=Hp (show(RI l).length<=9 by have:=iY l 0;unfold RI;omega)
 obtain⟨R,hR⟩:=Nm (RI l)
 rw[<-hR]at HS ⊢
 have HR:=Hp hR
 clear h hr s a0 hR
 obtain⟨z,n⟩:∃z,z=(w.alloc (.cells #[.slice none 0 0] 93)).alloc (.cells #[.int .i64 0] 3):=⟨_,rfl⟩
 have Y:z.heap.size=w.heap.size+1+1:=by subst n;simp
 have H:Boxed z w.heap.size 93 (.slice none 0 0):=by subst n;exact(Boxed.new _ _ _).alloc _
 have K:Boxed z (w.heap.size+1) 3 (.int .i64 0):=by
  subst n
  have:=Boxed.new (w.alloc (.cells #[.slice none 0 0] 93)) 3 (.int .i64 0)
  simpa using this
 have I:Below w.heap.size w z:=by subst n;exact(ZB).alloc (by simp) _
 subst n
 have a1:=Hp H
 have a8:=Hp K
 have a6:=Hp I
 clear H K I Y
 go_enter Tryz.func138,Tryz.ntmps138
 go_wp2_with fail
 go_loopw [11] (fun i wr=>∃(j:Nat)(a:Int)(v:Value)(d:List Run),j<=l.length/\i=.int .i64 j/\Boxed wr w.heap.size 93 v/\Boxed wr (w.heap.size+1) 3 (.int .i64 a)/\gQ wr (w.heap.size+2) v d/\d++dC a (l.drop j)=R/\0<=a/\a<=16/\Below w.heap.size w wr) (fun i _=>l.length -(intOf i).toNat)
 case atStart=>exact⟨0,0,_,[],by omega,rfl,a1.out,a8.out,gQ.nil _ _,HR.symm,by omega,by omega,a6.out⟩
 case round=>
  obtain⟨j,a,v,d,hj,rfl,hO,hA,P,hE,G,F,Q⟩:=hrel
  have HE:=Hp hE
  have HB:=Hp Q
  have HO:=Hp hO
  have HA:=Hp hA
  have HV:=Hp P
  have b3:d.length<=9:=by have B:=HS.out;rw[<-hE,GZ8]at B;omega
  have b5:=hA.lt
  obtain⟨vA,vc,rfl⟩:=vL P
  have U:=Hp P.lt
  clear hE hO hA P
  by_cases p:j<l.length
  ·have b0:(j:Int)<l.length:=by omega
   obtain⟨ad,rfl,b4,h0,B,h2,h3,h4,h5,h6,h7⟩:=RS HP.row Q j p
   have Z:=Q.size
   have L:=Hp ((congrArg (d++ ·) (LF p a).symm).trans HE.out)
   obtain⟨f1,T,S,f4,f5⟩:=O.out (l[j]'p) (GZ9 _)
   obtain⟨y,hy⟩:=Nm (l[j]'p)
   rw[<-hy]at f1 T S f4 f5 h0 B h2 h3 h4 h5 h6 h7 L
   clear hy
   obtain⟨V,k⟩:=Nm (wr.alloc (.cells #[.string y.m.name,.int .i64 y.m.major,.int .i64 y.m.minor,.string y.m.text,.slice y.m.eA y.m.ex.length y.m.eC,.slice y.m.iA y.m.im.length y.m.iC,.slice y.m.pA y.m.pa.length y.m.pC,.int .i64 y.first] 83))
   obtain⟨x0,x1,x2,x3,x4,x5,x6,x7,b1,E⟩:=zH k
   have a9:=k.symm
   have cG:=Hp (KQ w.heap.size a y.first _ d V (k▸HO.out.alloc _) (k▸HA.out.alloc _) (k▸HV.out.alloc _) (by omega) G F T S)
   have cE:=Hp (fun W=>zR y W f1 T S)
   have a7:=Hp (show Boxed V (w.heap.size+1) 3 (.int .i64 a) from k▸HA.out.alloc _)
   have a4:=Hp (show Below w.heap.size w V from Q.trans (E.mono Z))
   obtain⟨N,hN⟩:=Nm (aR y)
   rw[<-hN]at f4 f5 cE L
   clear k E hN f1 T S
   go_wp2_with (first|(go_at_call 202;refine(cG.out).mono ?_;rintro e w2 ⟨⟨u,rfl⟩,v',r,o,b⟩;have X:=b.size;have f:some wr.heap.size≠(Value.slice vA d.length vc).ownBlock:=(fun h=>by have:=(U.out wr.heap.size h.symm).2;omega);have C:some (w.heap.size+1)≠(Value.slice vA d.length vc).ownBlock:=(fun h=>by have:=(U.out (w.heap.size+1) h.symm).1;omega);have J:=Hp (b.box a7.out (by omega) C);have k0:=(b.at_ wr.heap.size 0 (by omega) (by omega) f).trans x0;have k1:=(b.at_ wr.heap.size 1 (by omega) (by omega) f).trans x1;have k2:=(b.at_ wr.heap.size 2 (by omega) (by omega) f).trans x2;have k3:=(b.at_ wr.heap.size 3 (by omega) (by omega) f).trans x3;have k4:=(b.at_ wr.heap.size 4 (by omega) (by omega) f).trans x4;have k5:=(b.at_ wr.heap.size 5 (by omega) (by omega) f).trans x5;have k6:=(b.at_ wr.heap.size 6 (by omega) (by omega) f).trans x6;have k7:=(b.at_ wr.heap.size 7 (by omega) (by omega) f).trans x7;have a3:=Hp b)|(go_at_call 91;refine(cE.out _).mono ?_;rintro e w3 ⟨rfl,q⟩;have b2:=q.size;have t:=dX J.out q J.lt;have p0:=t.cell;have p1:=t.frozen))
   go_roundw
   case rel=>
    refine⟨j+1,N,v',d++Rb a y.first,by omega,by go_num,(dX r q r.lt).kept (grownBy_setCell' _ _ _) (by simp),t.set _,ownsRow_setCell_below (PV o q (GZ3 _)) (by simp) _,by rw[List.append_assoc];exact L.out,f4,f5,?_⟩
    exact((a4.trans (a3.below (GZ3 _) (by omega) (fun g D=>by have:=(U.out g D).1;omega))).trans (q.mono (by omega))).setCell (by simp) _
   case measure=>(simp[intOf];try omega)
  ·have L:=Hp ((congrArg (d++ ·) (MR p a).symm).trans HE.out)
   have cG:=Hp (KQ w.heap.size a 16 _ d wr HO.out HA.out HV.out (by omega) G F (by omega) (by omega))
   have a2:=Hp (fun g D=>(U.out g D).1)
   go_wp2_with (first|(go_at_call 202;refine(cG.out).mono ?_;rintro e w2 ⟨⟨u,rfl⟩,v',r,o,b⟩;have X:=b.size;have o0:=r.cell;have a5:=Hp (HB.trans (b.below (GZ3 _) (by omega) (fun g D=>by have:=a2.out g D;omega)));rw[show d++Rb a 16=R from L.out]at o;obtain⟨A',c',rfl⟩:=vL o;have M:=Hp (RH o (Nat.le_add_right w.heap.size 2))))
   go_ret
   exact⟨⟨_,_,rfl,M.out⟩,a5.out⟩
theorem FreeO_any (A:Option Addr)(c:Nat)(l:List Plc)(w:World)(h:aU w A l):
  Calls Tryz.prog 59 #[.slice A l.length c] w fun e m=>(∃(k:Option Addr)(j:Nat),e=.returned (.tuple #[.slice k (freeOf l).length j,.int .i64 (RY l)])/\gQ m w.heap.size (.slice k (freeOf l).length j) (freeOf l))/\Below w.heap.size w m:=by
 have i:=Hp (Ji A c l w h)
 obtain⟨E,d⟩:=Nm (RY l)
 have hF:freeOf l=if E≠0 then[]else RI l:=by unfold freeOf;rw[d]
 rw[<-d]at i ⊢
 by_cases f:E=0
 ·obtain rfl:=f
  have n:=Hp (fun W(q:Below w.heap.size w W)=>RunsO_any A c l W (h.below q) d.symm)
  rw[if_neg (by omega)]at hF
  rw[<-hF]at n
  clear d hF h
  go_enter Tryz.func59,Tryz.ntmps59
  go_wp2_with (first|(go_at_call 137;refine(i.out).mono ?_;rintro e o ⟨rfl,a⟩)|(go_at_call 138;refine(n.out _ a).mono ?_;rintro e s ⟨⟨k,j,rfl,b⟩,g⟩;have r:=Hp (RH b a.size)))
  go_ret2
  exact⟨⟨_,_,rfl,r.out⟩,a.trans (g.mono a.size)⟩
 ·have p:(E != 0)=true:=by simp[f]
  rw[if_pos f]at hF
  rw[hF]
  clear d hF h f
  go_enter Tryz.func59,Tryz.ntmps59
  go_wp2_with (first|(go_at_call 137;refine(i.out).mono ?_;rintro e o ⟨rfl,a⟩))
  go_ret2
  exact⟨⟨none,0,rfl,gQ.nil _ _⟩,a⟩
end
section
open Go.RowKit
open Gs (Tx)
theorem order_len {r:Tx->Tx->Bool}:∀(f:Nat)(left a c:List Tx),Gs.order r f left a=some c->c.length=a.length+f
 |0,left,a,c,h=>by unfold Gs.order at h;cases h;rfl
 |f+1,left,a,c,h=>by
  unfold Gs.order at h
  split at h
  ·have:=order_len f _ _ c h
   rw[this,GZ8];simp;omega
  ·cases h
theorem orderT_len (l:List Plc):(orderT l).length<=l.length:=by
 unfold orderT;split
 ·simp
 ·cases e:rT l with
  |none=>simp
  |some c=>
   have:=order_len _ _ _ _ e
   simp only[Option.getD_some]
   rw[this];simp
theorem Hl.nil (W:World):Hl W none []:=Row.nil
end
end Go.Proofs.YtjiedaialianmaaGreat
