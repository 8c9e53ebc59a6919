import Derived.Test.YtjiedaialianmaaGreatA12
import Derived.Test.YtjiedaialianmaaGreatCPlays06
set_option maxRecDepth 100000
set_option maxHeartbeats 8000000
namespace Go.Proofs.YtjiedaialianmaaGreat
open Go.RowKit
theorem Tk.same {T:Nat}{S:List UInt8}{c:Rest}{w b:World}(h:Tk T S c w)(e:b.heap[T]? =w.heap[T]?):Tk T S c b:=by
 obtain⟨a,d,f⟩:=h
 exact⟨a,e.trans d,f⟩
theorem Tk.lt {T:Nat}{S:List UInt8}{b:Rest}{w:World}(h:Tk T S b w):T<w.heap.size:=by
 obtain⟨a,c,_⟩:=h
 exact(ZL c)
theorem Tk.kp {T:Nat}{S:List UInt8}{c:Rest}{w b:World}(h:Tk T S c w)(d:Only T w b):Kp [244] w b:=by
 obtain⟨a,e,_⟩:=h
 exact d.kp e (by simp)
def LI1 (T:Nat)(S:List UInt8)(b a:Nat)(e tx:ByteArray)(g f:Int)(V:World)(c:List Exp)(d:Rest)(W:World):Prop:=
 Tk T S d W/\xR a T b V W/\∃v,MB W b e g f tx v (.slice none 0 0) (.slice none 0 0)/\ExpOwn W a v c
def LI2 (T:Nat)(S:List UInt8)(c a:Nat)(f tx:ByteArray)(h g:Int)(b:Value)(i:List Exp)(V:World)(d:List Imp)(e:Rest)(W:World):Prop:=
 Tk T S e W/\xR a T c V W/\ExpOwn W a b i/\∃v,MB W c f h g tx b v (.slice none 0 0)/\ImpOwn W a v d
def LI3 (T:Nat)(S:List UInt8)(d a:Nat)(g tx:ByteArray)(i h:Int)(c:Value)(k:List Exp)(b:Value)(j:List Imp)(V:World)(e:List Pat)(f:Rest)(W:World):Prop:=
 Tk T S f W/\xR a T d V W/\ExpOwn W a c k/\ImpOwn W a b j/\∃v,MB W d g i h tx c b v/\PatOwn W a v e
theorem wV (l:List UInt8)(w:World)(hl:l.length<=big):
  Calls Tryz.prog 145 #[.string (sof l)] w fun e w'=>(∃m:Mod,e=.returned (.tuple #[m.v,.int .i64 (dO l)])/\m.ok w'/\m.own w' w.heap.size/\gI m (iD l))/\Below w.heap.size w w':=by
 obtain⟨W0,g9⟩:∃W,W=((w.alloc (.cells #[.string ⟨#[]⟩,.int .i64 0,.int .i64 0,.string ⟨#[]⟩,.slice none 0 0,.slice none 0 0,.slice none 0 0] 70)).alloc (.cells #[.string (sof l),.int .i64 0,.bool false] 244)).alloc (.cells #[.string ⟨#[]⟩,.int .i64 0,.int .i64 0,.string ⟨#[]⟩,.slice none 0 0,.slice none 0 0,.slice none 0 0] 70):=⟨_,rfl⟩
 have HW0:=Hp g9.symm
 have zW:W0.heap.size=w.heap.size+1+1+1:=by subst g9;simp
 have y4:Tk (w.heap.size+1) l (some l) W0:=by
  subst g9
  refine⟨0,?_,Nat.zero_le _,.inr rfl⟩
  rw[heap_alloc_old _ _ (by simp)]
  exact heap_alloc2_new w _ _
 have q5:MB W0 (w.heap.size+1+1) ⟨#[]⟩ 0 0 ⟨#[]⟩ (.slice none 0 0) (.slice none 0 0) (.slice none 0 0):=by
  subst g9
  have:=heap_alloc_new ((w.alloc (.cells #[.string ⟨#[]⟩,.int .i64 0,.int .i64 0,.string ⟨#[]⟩,.slice none 0 0,.slice none 0 0,.slice none 0 0] 70)).alloc (.cells #[.string (sof l),.int .i64 0,.bool false] 244)) (.cells #[.string ⟨#[]⟩,.int .i64 0,.int .i64 0,.string ⟨#[]⟩,.slice none 0 0,.slice none 0 0,.slice none 0 0] 70)
  simpa[MB]using this
 have y3:W0.heap[w.heap.size]? =some (.cells #[.string ⟨#[]⟩,.int .i64 0,.int .i64 0,.string ⟨#[]⟩,.slice none 0 0,.slice none 0 0,.slice none 0 0] 70 (0,0)):=by
  subst g9
  rw[heap_alloc_old _ _ (by simp;omega),heap_alloc2_old]
 have e7:Below w.heap.size w W0:=by
  subst g9
  exact((ZB).alloc (by simp) _).alloc (by simp;omega) _
 have r3:=dZ 2 (d2 l).2 (by omega)
 change 0<=(d3 l).1/\(d3 l).1<=65535 at r3
 obtain⟨n,hn⟩:∃n:Nat,(d3 l).1=n:=⟨(d3 l).1.toNat,by omega⟩
 have c0:=Hp (fun W K=>rE (w.heap.size+1) l (some l) W K hl)
 change Hid (∀W,_->Calls _ _ _ W fun e w'=>e=.returned (.string (sof (d0 l).1))/\Tk _ _ (d0 l).2 w'/\_)at c0
 have c1:=Hp (fun W K=>dQ (w.heap.size+1) l (d0 l).2 1 W K hl (by omega) (by omega))
 change Hid (∀W,_->Calls _ _ #[_,.int .i64 1] W fun e w'=>e=.returned (.int .i64 (d1 l).1)/\Tk _ _ (d1 l).2 w'/\_)at c1
 have c2:=Hp (fun W K=>dQ (w.heap.size+1) l (d1 l).2 1 W K hl (by omega) (by omega))
 change Hid (∀W,_->Calls _ _ #[_,.int .i64 1] W fun e w'=>e=.returned (.int .i64 (d2 l).1)/\Tk _ _ (d2 l).2 w'/\_)at c2
 have c3:=Hp (fun W K=>dQ (w.heap.size+1) l (d2 l).2 2 W K hl (by omega) (by omega))
 change Hid (∀W,_->Calls _ _ #[_,.int .i64 2] W fun e w'=>e=.returned (.int .i64 (d3 l).1)/\Tk _ _ (d3 l).2 w'/\_)at c3
 have c4:=Hp (fun W K=>AV (w.heap.size+1) l (d3 l).2 n W K hl (by omega))
 have x9:txt n (d3 l).2=d4 l:=by unfold d4;rw[hn];rfl
 rw[x9]at c4
 rw[hn]at c3
 obtain⟨T,p9⟩:=Nm (sof (d0 l).1)
 obtain⟨a1,p8⟩:∃a,a=(d1 l).1:=⟨_,rfl⟩
 obtain⟨a2,p6⟩:∃a,a=(d2 l).1:=⟨_,rfl⟩
 obtain⟨a3,p5⟩:=Nm (sof (d4 l).1)
 rw[<-p9]at c0
 rw[<-p8]at c1
 rw[<-p6]at c2
 rw[<-p5]at c4
 have HA0:=Hp p9
 have HA1:=Hp p8
 have HA2:=Hp p6
 have HA3:=Hp p5
 obtain⟨s1,w6⟩:∃s,s=(d0 l).2:=⟨_,rfl⟩
 obtain⟨s2,w5⟩:∃s,s=(d1 l).2:=⟨_,rfl⟩
 obtain⟨s3,w4⟩:∃s,s=(d2 l).2:=⟨_,rfl⟩
 obtain⟨s4,w3⟩:∃s,s=(d3 l).2:=⟨_,rfl⟩
 obtain⟨s5,o3⟩:∃s,s=(d4 l).2:=⟨_,rfl⟩
 rw[<-w6]at c0 c1
 rw[<-w5]at c1 c2
 rw[<-w4]at c2 c3
 rw[<-w3]at c3 c4
 rw[<-o3]at c4
 have HS5:=Hp o3
 have HZ0:=Hp y3
 have i1:=Hp e7
 have ZW:=Hp zW
 obtain⟨b,o9⟩:=Nm (w.heap.size+1+1)
 rw[<-o9]at q5
 have a5:=Hp o9
 have q0:w.heap.size+1<b:=by omega
 have RW:=Hp y4
 have MW:=Hp q5
 have y7:=Hp (show b+1<=W0.heap.size by omega)
 have OW:=Hp (show W0.os=w.os/\W0.tape=w.tape/\W0.output=w.output from⟨i1.os,i1.tape,i1.output⟩)
 clear g9 zW y4 q5 y3 e7 r3 hn x9 p9 p8 p6 p5 w6 w5 w4 w3 o3 o9
 go_enter Tryz.func145,Tryz.ntmps145
 go_wp2_with fail
 rw[HW0.out,<-a5.out]
 refine(c0.out _ RW.out).mono ?_
 rintro e u0 ⟨rfl,h0,t⟩
 have k0:=Hp (RW.kp t)
 have r9:=Hp (show MB u0 b ⟨#[]⟩ 0 0 ⟨#[]⟩ (.slice none 0 0) (.slice none 0 0) (.slice none 0 0) from k0.out _ _ _ _ MW.out (by decide))
 have ZU0:=Hp (GY1 y7 t.size)
 have NU0:=Hp (show∀k,k<b->k≠w.heap.size+1->u0.heap[k]? =W0.heap[k]? from fun k f p=>t.block k (by have:=y7.out;omega) p)
 have v9:=heap_cell (show u0.heap[b]? =_ from r9.out) 0
 have p1_0:=heap_free (show u0.heap[b]? =_ from r9.out) 0
 simp only[GZ2,GZ0]at v9
 obtain⟨v0,i5⟩:=Nm (u0.setCell ⟨b,0,none⟩ (.string T))
 have hv0':=i5.symm
 have s0:∀k,k≠b->v0.heap[k]? =u0.heap[k]?:=fun k f=>by rw[i5];exact Below.heap_setCell _ _ _ _ f
 have M0:=Hp (show MB v0 b T 0 0 ⟨#[]⟩ (.slice none 0 0) (.slice none 0 0) (.slice none 0 0) from by unfold MB;rw[i5,heap_setCell_same u0 b 0 _ _ _ r9.out];rfl)
 have R0:=Hp (h0.same (s0 _ (by omega)))
 have q9:=Hp (show b+1<=v0.heap.size by have:=ZU0.out;rw[i5];simpa using this)
 have N0:=Hp (show∀k,k<b->k≠w.heap.size+1->v0.heap[k]? =W0.heap[k]? from fun k f p=>by
  rw[s0 k (by omega),NU0.out k f p])
 have O0:=Hp (show v0.os=w.os/\v0.tape=w.tape/\v0.output=w.output from i5▸⟨t.os.trans OW.out.1,t.tape.trans OW.out.2.1,t.output.trans OW.out.2.2⟩)
 clear h0 t i5 s0
 go_wp2_with fail
 refine(c1.out _ R0.out).mono ?_
 rintro e u1 ⟨rfl,p,q⟩
 have k1:=Hp (R0.kp q)
 have r8:=Hp (show MB u1 b T 0 0 ⟨#[]⟩ (.slice none 0 0) (.slice none 0 0) (.slice none 0 0) from k1.out _ _ _ _ M0.out (by decide))
 have ZU1:=Hp (GY1 q9 q.size)
 have NU1:=Hp (show∀k,k<b->k≠w.heap.size+1->u1.heap[k]? =v0.heap[k]? from fun k f p=>q.block k (by have:=q9.out;omega) p)
 have v8:=heap_cell (show u1.heap[b]? =_ from r8.out) 1
 have p1_1:=heap_free (show u1.heap[b]? =_ from r8.out) 1
 simp only[GZ2,GZ1,GZ0]at v8
 obtain⟨v1,i4⟩:=Nm (u1.setCell ⟨b,1,none⟩ (.int .i64 a1))
 have hv1':=i4.symm
 have s1:∀k,k≠b->v1.heap[k]? =u1.heap[k]?:=fun k f=>by rw[i4];exact Below.heap_setCell _ _ _ _ f
 have M1:=Hp (show MB v1 b T a1 0 ⟨#[]⟩ (.slice none 0 0) (.slice none 0 0) (.slice none 0 0) from by unfold MB;rw[i4,heap_setCell_same u1 b 1 _ _ _ r8.out];rfl)
 have R1:=Hp (p.same (s1 _ (by omega)))
 have q8:=Hp (show b+1<=v1.heap.size by have:=ZU1.out;rw[i4];simpa using this)
 have N1:=Hp (show∀k,k<b->k≠w.heap.size+1->v1.heap[k]? =W0.heap[k]? from fun k f p=>by
  rw[s1 k (by omega),NU1.out k f p];exact N0.out k f p)
 have O1:=Hp (show v1.os=w.os/\v1.tape=w.tape/\v1.output=w.output from i4▸⟨q.os.trans O0.out.1,q.tape.trans O0.out.2.1,q.output.trans O0.out.2.2⟩)
 clear p q i4 s1
 go_wp2_with fail
 refine(c2.out _ R1.out).mono ?_
 rintro e u2 ⟨rfl,h2,C⟩
 have k2:=Hp (R1.kp C)
 have r7:=Hp (show MB u2 b T a1 0 ⟨#[]⟩ (.slice none 0 0) (.slice none 0 0) (.slice none 0 0) from k2.out _ _ _ _ M1.out (by decide))
 have ZU2:=Hp (GY1 q8 C.size)
 have NU2:=Hp (show∀k,k<b->k≠w.heap.size+1->u2.heap[k]? =v1.heap[k]? from fun k f p=>C.block k (by have:=q8.out;omega) p)
 have v7:=heap_cell (show u2.heap[b]? =_ from r7.out) 2
 have p1_2:=heap_free (show u2.heap[b]? =_ from r7.out) 2
 simp only[GZ2,GZ1,GZ0]at v7
 obtain⟨v2,i3⟩:=Nm (u2.setCell ⟨b,2,none⟩ (.int .i64 a2))
 have hv2':=i3.symm
 have s2:∀k,k≠b->v2.heap[k]? =u2.heap[k]?:=fun k f=>by rw[i3];exact Below.heap_setCell _ _ _ _ f
 have M2:=Hp (show MB v2 b T a1 a2 ⟨#[]⟩ (.slice none 0 0) (.slice none 0 0) (.slice none 0 0) from by unfold MB;rw[i3,heap_setCell_same u2 b 2 _ _ _ r7.out];rfl)
 have R2:=Hp (h2.same (s2 _ (by omega)))
 have q7:=Hp (show b+1<=v2.heap.size by have:=ZU2.out;rw[i3];simpa using this)
 have N2:=Hp (show∀k,k<b->k≠w.heap.size+1->v2.heap[k]? =W0.heap[k]? from fun k f p=>by
  rw[s2 k (by omega),NU2.out k f p];exact N1.out k f p)
 have O2:=Hp (show v2.os=w.os/\v2.tape=w.tape/\v2.output=w.output from i3▸⟨C.os.trans O1.out.1,C.tape.trans O1.out.2.1,C.output.trans O1.out.2.2⟩)
 clear h2 C i3 s2
 go_wp2_with fail
 refine(c3.out _ R2.out).mono ?_
 rintro e u3 ⟨rfl,h3,B⟩
 have k3:=Hp (R2.kp B)
 have MU3:=Hp (show MB u3 b T a1 a2 ⟨#[]⟩ (.slice none 0 0) (.slice none 0 0) (.slice none 0 0) from k3.out _ _ _ _ M2.out (by decide))
 have ZU3:=Hp (GY1 q7 B.size)
 have NU3:=Hp (show∀k,k<b->k≠w.heap.size+1->u3.heap[k]? =v2.heap[k]? from fun k f p=>B.block k (by have:=q7.out;omega) p)
 obtain⟨v3,hv3⟩:=Nm u3
 subst hv3
 have M3:=MU3
 have R3:=Hp h3
 have q6:=ZU3
 have N3:=Hp (show∀k,k<b->k≠w.heap.size+1->v3.heap[k]? =W0.heap[k]? from fun k f p=>by
  rw[NU3.out k f p];exact N2.out k f p)
 have O3:=Hp (show v3.os=w.os/\v3.tape=w.tape/\v3.output=w.output from⟨B.os.trans O2.out.1,B.tape.trans O2.out.2.1,B.output.trans O2.out.2.2⟩)
 clear h3 B
 go_wp2_with fail
 refine(c4.out _ R3.out).mono ?_
 rintro e u4 ⟨rfl,h4,g7⟩
 have k4:=Hp (R3.kp g7)
 have r6:=Hp (show MB u4 b T a1 a2 ⟨#[]⟩ (.slice none 0 0) (.slice none 0 0) (.slice none 0 0) from k4.out _ _ _ _ M3.out (by decide))
 have ZU4:=Hp (GY1 q6 g7.size)
 have NU4:=Hp (show∀k,k<b->k≠w.heap.size+1->u4.heap[k]? =v3.heap[k]? from fun k f p=>g7.block k (by have:=q6.out;omega) p)
 have v6:=heap_cell (show u4.heap[b]? =_ from r6.out) 3
 have p1_4:=heap_free (show u4.heap[b]? =_ from r6.out) 3
 simp only[GZ2,GZ1,GZ0]at v6
 obtain⟨v4,i2⟩:=Nm (u4.setCell ⟨b,3,none⟩ (.string a3))
 have hv4':=i2.symm
 have s4:∀k,k≠b->v4.heap[k]? =u4.heap[k]?:=fun k f=>by rw[i2];exact Below.heap_setCell _ _ _ _ f
 have M4:=Hp (show MB v4 b T a1 a2 a3 (.slice none 0 0) (.slice none 0 0) (.slice none 0 0) from by unfold MB;rw[i2,heap_setCell_same u4 b 3 _ _ _ r6.out];rfl)
 have R4:=Hp (h4.same (s4 _ (by omega)))
 have ZV4:=Hp (show b+1<=v4.heap.size by have:=ZU4.out;rw[i2];simpa using this)
 have N4:=Hp (show∀k,k<b->k≠w.heap.size+1->v4.heap[k]? =W0.heap[k]? from fun k f p=>by
  rw[s4 k (by omega),NU4.out k f p];exact N3.out k f p)
 have O4:=Hp (show v4.os=w.os/\v4.tape=w.tape/\v4.output=w.output from i2▸⟨g7.os.trans O3.out.1,g7.tape.trans O3.out.2.1,g7.output.trans O3.out.2.2⟩)
 clear h4 g7 i2 s4
 go_wp2_with fail
 have z0:=R4
 have M1w:=M4
 have L1w:=Hp (show xR (b+1) (w.heap.size+1) b v4 v4 from⟨ZV4.out,fun _ _ _ _=>rfl,rfl,rfl,rfl⟩)
 clear R0 M0 q9 N0 O0 R1 M1 q8 N1 O1 R2 M2 q7 N2 O2 R3 M3 q6 N3 O3 c0 c1 c2 c3 c4 MW RW
 have U:=dZ 1 s5 (by omega)
 have ro1:=Ru s5
 obtain⟨c1,o8⟩:∃c:Nat,(aI 1 s5).1=c:=⟨(aI 1 s5).1.toNat,by omega⟩
 rw[o8]at U ro1
 obtain⟨z1,n8⟩:∃z,z=(aI 1 s5).2:=⟨_,rfl⟩
 obtain⟨T1,q4⟩:=Nm (dU gF c1 z1)
 have z7:=Hp q4
 have HD1:=Hp (show T1=d5 l by
  have p:(aI 1 s5).1.toNat=c1:=by omega
  rw[q4,n8,<-p,HS5.out]
  rfl)
 have Z:=Hp (fun W K=>dQ (w.heap.size+1) l s5 1 W K hl (by omega) (by omega))
 change Hid (∀W,_->Calls _ _ #[_,.int .i64 1] W fun e w'=>e=.returned (.int .i64 (aI 1 s5).1)/\Tk _ _ (aI 1 s5).2 w'/\_)at Z
 rw[o8,<-n8]at Z
 clear o8 n8 q4 U
 refine(Z.out _ z0.out).mono ?_
 rintro e b1 ⟨rfl,hR,ho⟩
 have w1:=Hp (z0.kp ho)
 have J1:=Hp (show LI1 (w.heap.size+1) l b (b+1) T a3 a1 a2 v4 [] z1 b1 from⟨hR,L1w.only ho,.slice none 0 0,w1.out _ _ _ _ M1w.out (by decide),ExpOwn.nil _ _⟩)
 clear hR ho Z
 go_upto_block 0 with fail
 go_cut [7,8] from 27 to 46 (fun _ _ wx=>LI1 (w.heap.size+1) l b (b+1) T a3 a1 a2 v4 T1.1 T1.2 wx)
 case first=>
  go_wp2_with fail
  go_loopw [7] (fun i wr=>∃(j:Nat)(u:List Exp)(S:Rest),i=.int .i64 j/\j<=c1/\u.length<=j/\LI1 (w.heap.size+1) l b (b+1) T a3 a1 a2 v4 u S wr/\u++(dU gF (c1 -j) S).1=T1.1/\(dU gF (c1 -j) S).2=T1.2) (fun i _=>c1 -(intOf i).toNat)
  case atStart=>exact⟨0,[],_,rfl,by omega,GZ3 _,J1.out,by rw[z7.out];rfl,by rw[z7.out];rfl⟩
  case round=>
   obtain⟨j,u,S,rfl,hj,c9,hI,Y,e2⟩:=hrel
   have HI:=Hp hI
   obtain⟨⟨at_,hh,_⟩,_⟩:=hI
   have t1:=heap_cell hh 1
   have t2:=heap_cell hh 2
   simp only[GZ2,GZ1,GZ0]at t1 t2
   clear hh
   by_cases J:j=c1
   ·have E1:=Hp (show u=T1.1 by rw[<-Y,J];simp[dU])
    have E2:=Hp (show S=T1.2 by rw[<-e2,J];simp[dU])
    have g8:¬(j<c1):=by omega
    clear Y e2 J
    go_wp2_with fail
    go_meet
    rw[<-E1.out,<-E2.out]
    exact HI.out
   ·have g8:(j:Int)<c1:=by omega
    cases S with
    |none=>
     obtain⟨k,f⟩:∃k,c1 -j=k+1:=⟨c1 -j -1,by omega⟩
     have E1:=Hp (show u=T1.1 by rw[<-Y,f,SX];simp)
     have E2:=Hp (show none=T1.2 by rw[<-e2,f,SX])
     simp only[Option.isNone_none]at t2
     clear Y e2 f J
     go_wp2_with fail
     go_meet
     rw[<-E1.out,<-E2.out]
     exact HI.out
    |some s=>
     simp only[Option.isNone_some]at t2
     rw[show c1 -j=(c1 -(j+1))+1 by omega,UA]at Y e2
     have E1:=Hp (show(u++[(gF (some s)).1])++(dU gF (c1 -(j+1)) (gF (some s)).2).1=T1.1 by rw[<-Y];simp)
     have E2:=Hp e2
     have HJ:=Hp (show j+1<=c1 by omega)
     have k5:=Hp c9
     have w2:u.length<=255:=by omega
     obtain⟨hR,hL,vE,hM,hO⟩:=HI.out
     have R:=Hp hR
     have LK:=Hp hL
     have M:=Hp hM
     have EE:=Hp hO
     clear Y e2 J hR hL hM hO c9 HI
     have g0:=Hp (fun W K=>rE (w.heap.size+1) l (some s) W K hl)
     have g1:=Hp (fun W K=>dQ (w.heap.size+1) l (nam (some s)).2 2 W K hl (by omega) (by omega))
     change Hid (∀W,_->Calls _ _ #[_,.int .i64 2] W _)at g1
     have hx:gF (some s)=(⟨sof (nam (some s)).1,(aI 2 (nam (some s)).2).1⟩,(aI 2 (nam (some s)).2).2):=rfl
     obtain⟨U,e3⟩:∃a,a=(aI 2 (nam (some s)).2).1:=⟨_,rfl⟩
     rw[<-e3]at g1 hx
     obtain⟨t2,d8⟩:∃x,x=(aI 2 (nam (some s)).2).2:=⟨_,rfl⟩
     rw[<-d8]at g1 hx
     obtain⟨V,e4⟩:=Nm (sof (nam (some s)).1)
     rw[<-e4]at g0 hx
     obtain⟨t1,d9⟩:∃x,x=(nam (some s)).2:=⟨_,rfl⟩
     rw[<-d9]at g0 g1
     have HX:=Hp hx
     clear hx e4 d9 e3 d8
     obtain⟨N,d⟩:=Nm (wr.alloc (.cells #[.string ⟨#[]⟩,.int .i64 0] 159))
     have k6:=Hp d.symm
     have b0:∀k,k<wr.heap.size->N.heap[k]? =wr.heap[k]?:=fun k f=>d▸heap_alloc_old wr _ f
     have X0:=Hp (show N.heap[wr.heap.size]? =some (.cells #[.string ⟨#[]⟩,.int .i64 0] 159 (0,0)) from d▸heap_alloc_new _ _)
     have K0:=Hp (show Kp [244,159] wr N from d▸(Kp.refl _ wr).alloc _)
     have f1:=Hp (R.same (b0 _ R.lt))
     have l0:=Hp (show ExpOwn N (b+1) vE u from d▸EE.out.alloc _)
     have a4:=Hp (show vE.ownBlock≠some wr.heap.size from fun h=>by have:=EE.lt _ h;omega)
     have v5:wr.heap.size<N.heap.size:=(ZL X0.out)
     have y0:b+1<=wr.heap.size:=LK.size
     have F0:=Hp (show∀k,k<b+1->k≠w.heap.size+1->N.heap[k]? =wr.heap[k]? from fun k f _=>b0 k (by omega))
     have Y0:=Hp (show N.os=wr.os/\N.tape=wr.tape/\N.output=wr.output from d▸⟨rfl,rfl,rfl⟩)
     clear d b0
     go_wp2_with fail
     rw[k6.out]
     refine(g0.out _ f1.out).mono ?_
     rintro e n0 ⟨rfl,h0,t⟩
     have a9:=Hp (f1.kp t)
     have u7:=t.size
     have P:=Hp (a9.out _ _ _ _ X0.out (by decide))
     have k8:=Hp (show ExpOwn n0 (b+1) vE u from own_kp l0.out a9.out (by decide))
     have e9:=heap_cell P.out 0
     have m8:=heap_free P.out 0
     simp only[GZ2,GZ0]at e9
     obtain⟨G,d⟩:=Nm (n0.setCell ⟨wr.heap.size,0,none⟩ (.string V))
     have l8:=d.symm
     have i7:G.heap.size=n0.heap.size:=by subst d;simp
     have a7:∀k,k≠wr.heap.size->G.heap[k]? =n0.heap[k]?:=fun k f=>by rw[d];exact Below.heap_setCell _ _ _ _ f
     have X1:=Hp (show G.heap[wr.heap.size]? =some (.cells #[.string V,.int .i64 0] 159 (0,0)) from by rw[d,heap_setCell_same n0 _ 0 _ _ _ P.out];rfl)
     have f4:Kp [244,159] n0 G:=d▸Kp.set P.out (by simp) 0 _
     have K1:=Hp (show Kp [244,159] wr G from(K0.trans (a9.mono (by simp))).trans f4)
     have f0:=Hp (h0.same (a7 _ (by have:=R.lt;omega)))
     have k9:=Hp (show ExpOwn G (b+1) vE u from d▸ownsRow_setCell_other k8.out a4.out _)
     have F1:=Hp (show∀k,k<b+1->k≠w.heap.size+1->G.heap[k]? =wr.heap[k]? from fun k f p=>(a7 k (by omega)).trans ((t.block k (by omega) p).trans (F0.out k f p)))
     have Y1:=Hp (show G.os=wr.os/\G.tape=wr.tape/\G.output=wr.output from d▸⟨t.os.trans Y0.out.1,t.tape.trans Y0.out.2.1,t.output.trans Y0.out.2.2⟩)
     have u9:wr.heap.size<G.heap.size:=by omega
     clear h0 t d a7 i7 f4
     go_wp2_with fail
     refine(g1.out _ f0.out).mono ?_
     rintro e Z ⟨rfl,p,q⟩
     have a8:=Hp (f0.kp q)
     have u6:=q.size
     have O:=Hp (a8.out _ _ _ _ X1.out (by decide))
     have k7:=Hp (show ExpOwn Z (b+1) vE u from own_kp k9.out a8.out (by decide))
     have e8:=heap_cell O.out 1
     have m7:=heap_free O.out 1
     simp only[GZ2,GZ1,GZ0]at e8
     obtain⟨D,y⟩:=Nm (Z.setCell ⟨wr.heap.size,1,none⟩ (.int .i64 U))
     have l7:=y.symm
     have i6:D.heap.size=Z.heap.size:=by subst y;simp
     have a6:∀k,k≠wr.heap.size->D.heap[k]? =Z.heap[k]?:=fun k f=>by rw[y];exact Below.heap_setCell _ _ _ _ f
     have X2:=Hp (show D.heap[wr.heap.size]? =some (.cells #[.string V,.int .i64 U] 159 (0,0)) from by rw[y,heap_setCell_same Z _ 1 _ _ _ O.out];rfl)
     have f3:Kp [244,159] Z D:=y▸Kp.set O.out (by simp) 1 _
     have K2:=Hp (show Kp [244,159] wr D from(K1.trans (a8.mono (by simp))).trans f3)
     have h9:=Hp (p.same (a6 _ (by have:=R.lt;omega)))
     have f6:=Hp (show ExpOwn D (b+1) vE u from y▸ownsRow_setCell_other k7.out a4.out _)
     have F2:=Hp (show∀k,k<b+1->k≠w.heap.size+1->D.heap[k]? =wr.heap[k]? from fun k f p=>(a6 k (by omega)).trans ((q.block k (by omega) p).trans (F1.out k f p)))
     have Y2:=Hp (show D.os=wr.os/\D.tape=wr.tape/\D.output=wr.output from y▸⟨q.os.trans Y1.out.1,q.tape.trans Y1.out.2.1,q.output.trans Y1.out.2.2⟩)
     have u8:wr.heap.size<D.heap.size:=by omega
     clear p q y a6 i6 f3
     have MM:=Hp (show MB D b T a1 a2 a3 vE (.slice none 0 0) (.slice none 0 0) from K2.out _ _ _ _ M.out (by decide))
     have m4:=heap_cell (show D.heap[b]? =_ from MM.out) 4
     have x0:=heap_cell X2.out 0
     have x1:=heap_cell X2.out 1
     simp only[GZ2,GZ1,GZ0]at m4 x0 x1
     have y1:b+1<=D.heap.size:=by omega
     go_wp2_with (at_builtin;refine append_Exp D rfl _ _ rfl (b+1) vE u ⟨V,U⟩ rfl rfl f6.out (by omega) (by omega) ?_;intro v' w7 A b7;have f5:=Hp A;obtain⟨g,j4,rfl⟩:=ownsRow_succ (show w7.ownsRow (b+1) _ 2 v' (u.length+1) _ by have h:=A;unfold ExpOwn at h;simpa using h);have HG:=Hp b7;have b6:some b≠vE.ownBlock:=(fun h=>by have:=(f6.lt b h.symm).1;omega);have M7:=Hp (show MB w7 b T a1 a2 a3 vE (.slice none 0 0) (.slice none 0 0) from(b7.block b (by simp;omega) b6).trans ((heap_alloc_old D _ (by omega)).trans MM.out));have p7:=heap_cell (show w7.heap[b]? =_ from M7.out) 4;have f7:=heap_free (show w7.heap[b]? =_ from M7.out) 4;simp only[GZ2,GZ1,GZ0]at p7;clear A b7 b6)
     have KX:=Hp (show Kp [244,70,159] wr w7 from((K2.alloc _).trans (Kp.grown (ts:=[244,159]) HG.out (fun g hg=>by
      obtain⟨c',fz,h⟩:=own_kind (f6.alloc (.cells #[.string V,.int .i64 U] 159)) g hg
      exact⟨_,_,_,h,by simp⟩))).mono (by simp))
     have BX:=Hp (fun k(f:k<b+1)=>(HG.block k (by simp;omega) (fun h=>by have:=(f6.lt k h.symm).1;omega)).trans (heap_alloc_old D (.cells #[.string V,.int .i64 U] 159) (show k<D.heap.size by omega)))
     have SZ:=HG.size
     go_roundw
     case rel=>
      refine⟨j+1,u++[⟨V,U⟩],t2,by go_num,HJ.out,by rw[GZ8];have:=k5.out;simp;omega,⟨?_,?_,.slice (some ⟨g,0,none⟩) (u.length+1) j4,?_,?_⟩,by have h:=E1.out;rw[HX.out]at h;exact h,by have h:=E2.out;rw[HX.out]at h;exact h⟩
      ·exact h9.same ((Below.heap_setCell _ _ _ _ (Nat.ne_of_lt q0)).trans (BX.out _ (by omega)))
      ·refine LK.step ?_ (fun k p h2 h3=>(Below.heap_setCell _ _ _ _ h3).trans ((BX.out k p).trans (F2.out k p h2))) ⟨HG.os.trans Y2.out.1,HG.tape.trans Y2.out.2.1,HG.output.trans Y2.out.2.2⟩
       simp at SZ ⊢
       omega
      ·unfold MB
       rw[heap_setCell_same w7 b 4 _ _ _ M7.out]
       rfl
      ·exact ownsRow_setCell_below (a:=⟨b,4,none⟩) f5.out (Nat.lt_succ_self b) _
     case measure=>(have:=HJ.out;simp[intOf];try omega)
 case rest=>
  obtain⟨x2,rfl⟩:=Nm wc
  obtain⟨b8,e6,vE,e5,b9⟩:=hcut
  obtain⟨es,b4⟩:=Nm T1.1
  obtain⟨s6,b5⟩:=Nm T1.2
  rw[<-b4]at b9
  rw[<-b5]at b8
  have t5:=Hp (show es=(d5 l).1 by rw[b4,HD1.out])
  have HS6:=Hp (show s6=(d5 l).2 by rw[b5,HD1.out])
  have y9:=Hp b8
  have L2w:=Hp e6
  have M2w:=Hp e5
  have OE2:=Hp b9
  clear b4 b5 b8 e6 e5 b9 J1 w1
  go_wp2_with fail
  have r2:=dZ 1 s6 (by omega)
  have ro2:=Ru s6
  obtain⟨c2,o7⟩:∃c:Nat,(aI 1 s6).1=c:=⟨(aI 1 s6).1.toNat,by omega⟩
  rw[o7]at r2 ro2
  obtain⟨z2,n7⟩:∃z,z=(aI 1 s6).2:=⟨_,rfl⟩
  obtain⟨T2,q3⟩:=Nm (dU Ro c2 z2)
  have z6:=Hp q3
  have HD2:=Hp (show T2=d6 l by
   have p:(aI 1 s6).1.toNat=c2:=by omega
   rw[q3,n7,<-p,HS6.out]
   rfl)
  have n2:=Hp (fun W K=>dQ (w.heap.size+1) l s6 1 W K hl (by omega) (by omega))
  change Hid (∀W,_->Calls _ _ #[_,.int .i64 1] W fun e w'=>e=.returned (.int .i64 (aI 1 s6).1)/\Tk _ _ (aI 1 s6).2 w'/\_)at n2
  rw[o7,<-n7]at n2
  clear o7 n7 q3 r2
  refine(n2.out _ y9.out).mono ?_
  rintro e b2 ⟨rfl,hR,ho⟩
  have n5:=Hp (y9.kp ho)
  have J2:=Hp (show LI2 (w.heap.size+1) l b (b+1) T a3 a1 a2 vE es v4 [] z2 b2 from⟨hR,L2w.only ho,own_kp OE2.out n5.out (by decide),.slice none 0 0,n5.out _ _ _ _ M2w.out (by decide),ImpOwn.nil _ _⟩)
  clear hR ho n2
  go_upto_block 2 with fail
  go_cut [9,10] from 48 to 71 (fun _ _ wx=>LI2 (w.heap.size+1) l b (b+1) T a3 a1 a2 vE es v4 T2.1 T2.2 wx)
  case first=>
   go_wp2_with fail
   go_loopw [9] (fun i wr=>∃(j:Nat)(u:List Imp)(S:Rest),i=.int .i64 j/\j<=c2/\u.length<=j/\LI2 (w.heap.size+1) l b (b+1) T a3 a1 a2 vE es v4 u S wr/\u++(dU Ro (c2 -j) S).1=T2.1/\(dU Ro (c2 -j) S).2=T2.2) (fun i _=>c2 -(intOf i).toNat)
   case atStart=>exact⟨0,[],_,rfl,by omega,GZ3 _,J2.out,by rw[z6.out];rfl,by rw[z6.out];rfl⟩
   case round=>
    obtain⟨j,u,S,rfl,hj,c9,hI,Y,e2⟩:=hrel
    have HI:=Hp hI
    obtain⟨⟨at_,hh,_⟩,_⟩:=hI
    have t1:=heap_cell hh 1
    have t2:=heap_cell hh 2
    simp only[GZ2,GZ1,GZ0]at t1 t2
    clear hh
    by_cases J:j=c2
    ·have E1:=Hp (show u=T2.1 by rw[<-Y,J];simp[dU])
     have E2:=Hp (show S=T2.2 by rw[<-e2,J];simp[dU])
     have g8:¬(j<c2):=by omega
     clear Y e2 J
     go_wp2_with fail
     go_meet
     rw[<-E1.out,<-E2.out]
     exact HI.out
    ·have g8:(j:Int)<c2:=by omega
     cases S with
     |none=>
      obtain⟨k,f⟩:∃k,c2 -j=k+1:=⟨c2 -j -1,by omega⟩
      have E1:=Hp (show u=T2.1 by rw[<-Y,f,SX];simp)
      have E2:=Hp (show none=T2.2 by rw[<-e2,f,SX])
      simp only[Option.isNone_none]at t2
      clear Y e2 f J
      go_wp2_with fail
      go_meet
      rw[<-E1.out,<-E2.out]
      exact HI.out
     |some s=>
      simp only[Option.isNone_some]at t2
      rw[show c2 -j=(c2 -(j+1))+1 by omega,UA]at Y e2
      have E1:=Hp (show(u++[(Ro (some s)).1])++(dU Ro (c2 -(j+1)) (Ro (some s)).2).1=T2.1 by rw[<-Y];simp)
      have E2:=Hp e2
      have HJ:=Hp (show j+1<=c2 by omega)
      have k5:=Hp c9
      have w2:u.length<=255:=by omega
      obtain⟨hR,hL,o0,vI,hM,hO⟩:=HI.out
      have R:=Hp hR
      have LK:=Hp hL
      have M:=Hp hM
      have EE:=Hp hO
      have r5:=Hp o0
      clear Y e2 J hR hL hM hO c9 HI o0
      have g0:=Hp (fun W K=>rE (w.heap.size+1) l (some s) W K hl)
      have g1:=Hp (fun W K=>rE (w.heap.size+1) l (nam (some s)).2 W K hl)
      have g2:=Hp (fun W K=>dQ (w.heap.size+1) l (nam (nam (some s)).2).2 1 W K hl (by omega) (by omega))
      change Hid (∀W,_->Calls _ _ #[_,.int .i64 1] W _)at g2
      have g3:=Hp (fun W K=>dQ (w.heap.size+1) l (aI 1 (nam (nam (some s)).2).2).2 1 W K hl (by omega) (by omega))
      change Hid (∀W,_->Calls _ _ #[_,.int .i64 1] W _)at g3
      have hx:Ro (some s)=(⟨sof (nam (some s)).1,sof (nam (nam (some s)).2).1,(aI 1 (nam (nam (some s)).2).2).1,(aI 1 (aI 1 (nam (nam (some s)).2).2).2).1⟩,(aI 1 (aI 1 (nam (nam (some s)).2).2).2).2):=rfl
      obtain⟨r3,j1⟩:∃a,a=(aI 1 (aI 1 (nam (nam (some s)).2).2).2).1:=⟨_,rfl⟩
      rw[<-j1]at g3 hx
      obtain⟨t4,i9⟩:∃x,x=(aI 1 (aI 1 (nam (nam (some s)).2).2).2).2:=⟨_,rfl⟩
      rw[<-i9]at g3 hx
      obtain⟨r2,j2⟩:∃a,a=(aI 1 (nam (nam (some s)).2).2).1:=⟨_,rfl⟩
      rw[<-j2]at g2 hx
      obtain⟨t3,j0⟩:∃x,x=(aI 1 (nam (nam (some s)).2).2).2:=⟨_,rfl⟩
      rw[<-j0]at g2 g3
      obtain⟨U,e3⟩:=Nm (sof (nam (nam (some s)).2).1)
      rw[<-e3]at g1 hx
      obtain⟨t2,d8⟩:∃x,x=(nam (nam (some s)).2).2:=⟨_,rfl⟩
      rw[<-d8]at g1 g2
      obtain⟨V,e4⟩:=Nm (sof (nam (some s)).1)
      rw[<-e4]at g0 hx
      obtain⟨t1,d9⟩:∃x,x=(nam (some s)).2:=⟨_,rfl⟩
      rw[<-d9]at g0 g1
      have HX:=Hp hx
      clear hx e4 d9 e3 d8 j2 j0 j1 i9
      obtain⟨N,d⟩:=Nm (wr.alloc (.cells #[.string ⟨#[]⟩,.string ⟨#[]⟩,.int .i64 0,.int .i64 0] 173))
      have k6:=Hp d.symm
      have b0:∀k,k<wr.heap.size->N.heap[k]? =wr.heap[k]?:=fun k f=>d▸heap_alloc_old wr _ f
      have X0:=Hp (show N.heap[wr.heap.size]? =some (.cells #[.string ⟨#[]⟩,.string ⟨#[]⟩,.int .i64 0,.int .i64 0] 173 (0,0)) from d▸heap_alloc_new _ _)
      have K0:=Hp (show Kp [244,173] wr N from d▸(Kp.refl _ wr).alloc _)
      have f1:=Hp (R.same (b0 _ R.lt))
      have l0:=Hp (show ImpOwn N (b+1) vI u from d▸EE.out.alloc _)
      have a4:=Hp (show vI.ownBlock≠some wr.heap.size from fun h=>by have:=EE.lt _ h;omega)
      have v5:wr.heap.size<N.heap.size:=(ZL X0.out)
      have y0:b+1<=wr.heap.size:=LK.size
      have F0:=Hp (show∀k,k<b+1->k≠w.heap.size+1->N.heap[k]? =wr.heap[k]? from fun k f _=>b0 k (by omega))
      have Y0:=Hp (show N.os=wr.os/\N.tape=wr.tape/\N.output=wr.output from d▸⟨rfl,rfl,rfl⟩)
      clear d b0
      go_wp2_with fail
      rw[k6.out]
      refine(g0.out _ f1.out).mono ?_
      rintro e n0 ⟨rfl,h0,t⟩
      have a9:=Hp (f1.kp t)
      have u7:=t.size
      have P:=Hp (a9.out _ _ _ _ X0.out (by decide))
      have k8:=Hp (show ImpOwn n0 (b+1) vI u from own_kp l0.out a9.out (by decide))
      have e9:=heap_cell P.out 0
      have m8:=heap_free P.out 0
      simp only[GZ2,GZ0]at e9
      obtain⟨G,d⟩:=Nm (n0.setCell ⟨wr.heap.size,0,none⟩ (.string V))
      have l8:=d.symm
      have i7:G.heap.size=n0.heap.size:=by subst d;simp
      have a7:∀k,k≠wr.heap.size->G.heap[k]? =n0.heap[k]?:=fun k f=>by rw[d];exact Below.heap_setCell _ _ _ _ f
      have X1:=Hp (show G.heap[wr.heap.size]? =some (.cells #[.string V,.string ⟨#[]⟩,.int .i64 0,.int .i64 0] 173 (0,0)) from by rw[d,heap_setCell_same n0 _ 0 _ _ _ P.out];rfl)
      have f4:Kp [244,173] n0 G:=d▸Kp.set P.out (by simp) 0 _
      have K1:=Hp (show Kp [244,173] wr G from(K0.trans (a9.mono (by simp))).trans f4)
      have f0:=Hp (h0.same (a7 _ (by have:=R.lt;omega)))
      have k9:=Hp (show ImpOwn G (b+1) vI u from d▸ownsRow_setCell_other k8.out a4.out _)
      have F1:=Hp (show∀k,k<b+1->k≠w.heap.size+1->G.heap[k]? =wr.heap[k]? from fun k f p=>(a7 k (by omega)).trans ((t.block k (by omega) p).trans (F0.out k f p)))
      have Y1:=Hp (show G.os=wr.os/\G.tape=wr.tape/\G.output=wr.output from d▸⟨t.os.trans Y0.out.1,t.tape.trans Y0.out.2.1,t.output.trans Y0.out.2.2⟩)
      have u9:wr.heap.size<G.heap.size:=by omega
      clear h0 t d a7 i7 f4
      go_wp2_with fail
      refine(g1.out _ f0.out).mono ?_
      rintro e Z ⟨rfl,p,q⟩
      have a8:=Hp (f0.kp q)
      have u6:=q.size
      have O:=Hp (a8.out _ _ _ _ X1.out (by decide))
      have k7:=Hp (show ImpOwn Z (b+1) vI u from own_kp k9.out a8.out (by decide))
      have e8:=heap_cell O.out 1
      have m7:=heap_free O.out 1
      simp only[GZ2,GZ1,GZ0]at e8
      obtain⟨D,y⟩:=Nm (Z.setCell ⟨wr.heap.size,1,none⟩ (.string U))
      have l7:=y.symm
      have i6:D.heap.size=Z.heap.size:=by subst y;simp
      have a6:∀k,k≠wr.heap.size->D.heap[k]? =Z.heap[k]?:=fun k f=>by rw[y];exact Below.heap_setCell _ _ _ _ f
      have X2:=Hp (show D.heap[wr.heap.size]? =some (.cells #[.string V,.string U,.int .i64 0,.int .i64 0] 173 (0,0)) from by rw[y,heap_setCell_same Z _ 1 _ _ _ O.out];rfl)
      have f3:Kp [244,173] Z D:=y▸Kp.set O.out (by simp) 1 _
      have K2:=Hp (show Kp [244,173] wr D from(K1.trans (a8.mono (by simp))).trans f3)
      have h9:=Hp (p.same (a6 _ (by have:=R.lt;omega)))
      have f6:=Hp (show ImpOwn D (b+1) vI u from y▸ownsRow_setCell_other k7.out a4.out _)
      have F2:=Hp (show∀k,k<b+1->k≠w.heap.size+1->D.heap[k]? =wr.heap[k]? from fun k f p=>(a6 k (by omega)).trans ((q.block k (by omega) p).trans (F1.out k f p)))
      have Y2:=Hp (show D.os=wr.os/\D.tape=wr.tape/\D.output=wr.output from y▸⟨q.os.trans Y1.out.1,q.tape.trans Y1.out.2.1,q.output.trans Y1.out.2.2⟩)
      have u8:wr.heap.size<D.heap.size:=by omega
      clear p q y a6 i6 f3
      go_wp2_with fail
      refine(g2.out _ h9.out).mono ?_
      rintro e n2 ⟨rfl,h2,C⟩
      have g5:=Hp (h9.kp C)
      have zu2:=C.size
      have c7:=Hp (g5.out _ _ _ _ X2.out (by decide))
      have t9:=Hp (show ImpOwn n2 (b+1) vI u from own_kp f6.out g5.out (by decide))
      have j6:=heap_cell c7.out 2
      have y6:=heap_free c7.out 2
      simp only[GZ2,GZ1,GZ0]at j6
      obtain⟨p3,I⟩:=Nm (n2.setCell ⟨wr.heap.size,2,none⟩ (.int .i64 r2))
      have x7:=I.symm
      have n4:p3.heap.size=n2.heap.size:=by subst I;simp
      have f9:∀k,k≠wr.heap.size->p3.heap[k]? =n2.heap[k]?:=fun k f=>by rw[I];exact Below.heap_setCell _ _ _ _ f
      have X3:=Hp (show p3.heap[wr.heap.size]? =some (.cells #[.string V,.string U,.int .i64 r2,.int .i64 0] 173 (0,0)) from by rw[I,heap_setCell_same n2 _ 2 _ _ _ c7.out];rfl)
      have j9:Kp [244,173] n2 p3:=I▸Kp.set c7.out (by simp) 2 _
      have K3:=Hp (show Kp [244,173] wr p3 from(K2.trans (g5.mono (by simp))).trans j9)
      have j7:=Hp (h2.same (f9 _ (by have:=R.lt;omega)))
      have u5:=Hp (show ImpOwn p3 (b+1) vI u from I▸ownsRow_setCell_other t9.out a4.out _)
      have F3:=Hp (show∀k,k<b+1->k≠w.heap.size+1->p3.heap[k]? =wr.heap[k]? from fun k f p=>(f9 k (by omega)).trans ((C.block k (by omega) p).trans (F2.out k f p)))
      have Y3:=Hp (show p3.os=wr.os/\p3.tape=wr.tape/\p3.output=wr.output from I▸⟨C.os.trans Y2.out.1,C.tape.trans Y2.out.2.1,C.output.trans Y2.out.2.2⟩)
      have zp3:wr.heap.size<p3.heap.size:=by omega
      clear h2 C I f9 n4 j9
      go_wp2_with fail
      refine(g3.out _ j7.out).mono ?_
      rintro e n3 ⟨rfl,h3,B⟩
      have g4:=Hp (j7.kp B)
      have zu3:=B.size
      have c6:=Hp (g4.out _ _ _ _ X3.out (by decide))
      have t8:=Hp (show ImpOwn n3 (b+1) vI u from own_kp u5.out g4.out (by decide))
      have j5:=heap_cell c6.out 3
      have y5:=heap_free c6.out 3
      simp only[GZ2,GZ1,GZ0]at j5
      obtain⟨F,H⟩:=Nm (n3.setCell ⟨wr.heap.size,3,none⟩ (.int .i64 r3))
      have x6:=H.symm
      have m9:F.heap.size=n3.heap.size:=by subst H;simp
      have f8:∀k,k≠wr.heap.size->F.heap[k]? =n3.heap[k]?:=fun k f=>by rw[H];exact Below.heap_setCell _ _ _ _ f
      have X4:=Hp (show F.heap[wr.heap.size]? =some (.cells #[.string V,.string U,.int .i64 r2,.int .i64 r3] 173 (0,0)) from by rw[H,heap_setCell_same n3 _ 3 _ _ _ c6.out];rfl)
      have j8:Kp [244,173] n3 F:=H▸Kp.set c6.out (by simp) 3 _
      have K4:=Hp (show Kp [244,173] wr F from(K3.trans (g4.mono (by simp))).trans j8)
      have r4:=Hp (h3.same (f8 _ (by have:=R.lt;omega)))
      have c8:=Hp (show ImpOwn F (b+1) vI u from H▸ownsRow_setCell_other t8.out a4.out _)
      have F4:=Hp (show∀k,k<b+1->k≠w.heap.size+1->F.heap[k]? =wr.heap[k]? from fun k f p=>(f8 k (by omega)).trans ((B.block k (by omega) p).trans (F3.out k f p)))
      have Y4:=Hp (show F.os=wr.os/\F.tape=wr.tape/\F.output=wr.output from H▸⟨B.os.trans Y3.out.1,B.tape.trans Y3.out.2.1,B.output.trans Y3.out.2.2⟩)
      have zp4:wr.heap.size<F.heap.size:=by omega
      clear h3 B H f8 m9 j8
      have MM:=Hp (show MB F b T a1 a2 a3 vE vI (.slice none 0 0) from K4.out _ _ _ _ M.out (by decide))
      have m4:=heap_cell (show F.heap[b]? =_ from MM.out) 5
      have x0:=heap_cell X4.out 0
      have x1:=heap_cell X4.out 1
      have x2:=heap_cell X4.out 2
      have x3:=heap_cell X4.out 3
      simp only[GZ2,GZ1,GZ0]at m4 x0 x1 x2 x3
      have y1:b+1<=F.heap.size:=by omega
      go_wp2_with (at_builtin;refine append_Imp F rfl _ _ rfl (b+1) vI u ⟨V,U,r2,r3⟩ rfl rfl c8.out (by omega) (by omega) ?_;intro v' w7 A b7;have f5:=Hp A;obtain⟨g,j4,rfl⟩:=ownsRow_succ (show w7.ownsRow (b+1) _ 4 v' (u.length+1) _ by have h:=A;unfold ImpOwn at h;simpa using h);have HG:=Hp b7;have b6:some b≠vI.ownBlock:=(fun h=>by have:=(c8.lt b h.symm).1;omega);have M7:=Hp (show MB w7 b T a1 a2 a3 vE vI (.slice none 0 0) from(b7.block b (by simp;omega) b6).trans ((heap_alloc_old F _ (by omega)).trans MM.out));have p7:=heap_cell (show w7.heap[b]? =_ from M7.out) 5;have f7:=heap_free (show w7.heap[b]? =_ from M7.out) 5;simp only[GZ2,GZ1,GZ0]at p7;clear A b7 b6)
      have KX:=Hp (show Kp [244,70,173] wr w7 from((K4.alloc _).trans (Kp.grown (ts:=[244,173]) HG.out (fun g hg=>by
       obtain⟨c',fz,h⟩:=own_kind (c8.alloc (.cells #[.string V,.string U,.int .i64 r2,.int .i64 r3] 173)) g hg
       exact⟨_,_,_,h,by simp⟩))).mono (by simp))
      have BX:=Hp (fun k(f:k<b+1)=>(HG.block k (by simp;omega) (fun h=>by have:=(c8.lt k h.symm).1;omega)).trans (heap_alloc_old F (.cells #[.string V,.string U,.int .i64 r2,.int .i64 r3] 173) (show k<F.heap.size by omega)))
      have SZ:=HG.size
      go_roundw
      case rel=>
       refine⟨j+1,u++[⟨V,U,r2,r3⟩],t4,by go_num,HJ.out,by rw[GZ8];have:=k5.out;simp;omega,⟨?_,?_,own_kp r5.out (KX.trans (Kp.set (show w7.heap[b]? =_ from M7.out) (by simp) 5 _)) (by decide),.slice (some ⟨g,0,none⟩) (u.length+1) j4,?_,?_⟩,by have h:=E1.out;rw[HX.out]at h;exact h,by have h:=E2.out;rw[HX.out]at h;exact h⟩
       ·exact r4.same ((Below.heap_setCell _ _ _ _ (Nat.ne_of_lt q0)).trans (BX.out _ (by omega)))
       ·refine LK.step ?_ (fun k p h2 h3=>(Below.heap_setCell _ _ _ _ h3).trans ((BX.out k p).trans (F4.out k p h2))) ⟨HG.os.trans Y4.out.1,HG.tape.trans Y4.out.2.1,HG.output.trans Y4.out.2.2⟩
        simp at SZ ⊢
        omega
       ·unfold MB
        rw[heap_setCell_same w7 b 5 _ _ _ M7.out]
        rfl
       ·exact ownsRow_setCell_below (a:=⟨b,5,none⟩) f5.out (Nat.lt_succ_self b) _
      case measure=>(have:=HJ.out;simp[intOf];try omega)
  case rest=>
   obtain⟨x3,rfl⟩:=Nm wc
   obtain⟨b8,e6,i8,vI,e5,b9⟩:=hcut
   obtain⟨is,b4⟩:=Nm T2.1
   obtain⟨s7,b5⟩:=Nm T2.2
   rw[<-b4]at b9
   rw[<-b5]at b8
   have s9:=Hp (show is=(d6 l).1 by rw[b4,HD2.out])
   have HS7:=Hp (show s7=(d6 l).2 by rw[b5,HD2.out])
   have y8:=Hp b8
   have L3w:=Hp e6
   have M3w:=Hp e5
   have OI3:=Hp b9
   have OE3:=Hp i8
   clear b4 b5 b8 e6 e5 b9 J2 n5 i8
   go_wp2_with fail
   have r3:=dZ 1 s7 (by omega)
   have ro3:=Ru s7
   obtain⟨c3,o6⟩:∃c:Nat,(aI 1 s7).1=c:=⟨(aI 1 s7).1.toNat,by omega⟩
   rw[o6]at r3 ro3
   obtain⟨z3,n6⟩:∃z,z=(aI 1 s7).2:=⟨_,rfl⟩
   obtain⟨T3,q1⟩:=Nm (dU fZ c3 z3)
   have z5:=Hp q1
   have z9:=Hp (show T3=d7 l by
    have p:(aI 1 s7).1.toNat=c3:=by omega
    rw[q1,n6,<-p,HS7.out]
    rfl)
   have n3:=Hp (fun W K=>dQ (w.heap.size+1) l s7 1 W K hl (by omega) (by omega))
   change Hid (∀W,_->Calls _ _ #[_,.int .i64 1] W fun e w'=>e=.returned (.int .i64 (aI 1 s7).1)/\Tk _ _ (aI 1 s7).2 w'/\_)at n3
   rw[o6,<-n6]at n3
   clear o6 n6 q1 r3
   refine(n3.out _ y8.out).mono ?_
   rintro e b3 ⟨rfl,hR,ho⟩
   have l1:=Hp (y8.kp ho)
   have J3:=Hp (show LI3 (w.heap.size+1) l b (b+1) T a3 a1 a2 vE es vI is v4 [] z3 b3 from⟨hR,L3w.only ho,own_kp OE3.out l1.out (by decide),own_kp OI3.out l1.out (by decide),.slice none 0 0,l1.out _ _ _ _ M3w.out (by decide),PatOwn.nil _ _⟩)
   clear hR ho n3
   go_upto_block 4 with fail
   go_cut [11,12] from 73 to 97 (fun _ _ wx=>LI3 (w.heap.size+1) l b (b+1) T a3 a1 a2 vE es vI is v4 T3.1 T3.2 wx)
   case first=>
    go_wp2_with fail
    go_loopw [11] (fun i wr=>∃(j:Nat)(u:List Pat)(S:Rest),i=.int .i64 j/\j<=c3/\u.length<=j/\LI3 (w.heap.size+1) l b (b+1) T a3 a1 a2 vE es vI is v4 u S wr/\u++(dU fZ (c3 -j) S).1=T3.1/\(dU fZ (c3 -j) S).2=T3.2) (fun i _=>c3 -(intOf i).toNat)
    case atStart=>exact⟨0,[],_,rfl,by omega,GZ3 _,J3.out,by rw[z5.out];rfl,by rw[z5.out];rfl⟩
    case round=>
     obtain⟨j,u,S,rfl,hj,c9,hI,Y,e2⟩:=hrel
     have HI:=Hp hI
     obtain⟨⟨at_,hh,_⟩,_⟩:=hI
     have t1:=heap_cell hh 1
     have t2:=heap_cell hh 2
     simp only[GZ2,GZ1,GZ0]at t1 t2
     clear hh
     by_cases J:j=c3
     ·have E1:=Hp (show u=T3.1 by rw[<-Y,J];simp[dU])
      have E2:=Hp (show S=T3.2 by rw[<-e2,J];simp[dU])
      have g8:¬(j<c3):=by omega
      clear Y e2 J
      go_wp2_with fail
      go_meet
      rw[<-E1.out,<-E2.out]
      exact HI.out
     ·have g8:(j:Int)<c3:=by omega
      cases S with
      |none=>
       obtain⟨k,f⟩:∃k,c3 -j=k+1:=⟨c3 -j -1,by omega⟩
       have E1:=Hp (show u=T3.1 by rw[<-Y,f,SX];simp)
       have E2:=Hp (show none=T3.2 by rw[<-e2,f,SX])
       simp only[Option.isNone_none]at t2
       clear Y e2 f J
       go_wp2_with fail
       go_meet
       rw[<-E1.out,<-E2.out]
       exact HI.out
      |some s=>
       simp only[Option.isNone_some]at t2
       rw[show c3 -j=(c3 -(j+1))+1 by omega,UA]at Y e2
       have E1:=Hp (show(u++[(fZ (some s)).1])++(dU fZ (c3 -(j+1)) (fZ (some s)).2).1=T3.1 by rw[<-Y];simp)
       have E2:=Hp e2
       have HJ:=Hp (show j+1<=c3 by omega)
       have k5:=Hp c9
       have w2:u.length<=255:=by omega
       obtain⟨hR,hL,o0,o1,vP,hM,hO⟩:=HI.out
       have R:=Hp hR
       have LK:=Hp hL
       have M:=Hp hM
       have EE:=Hp hO
       have r5:=Hp o0
       have PO1:=Hp o1
       clear Y e2 J hR hL hM hO c9 HI o0 o1
       have g0:=Hp (fun W K=>dQ (w.heap.size+1) l (some s) 1 W K hl (by omega) (by omega))
       change Hid (∀W,_->Calls _ _ #[_,.int .i64 1] W _)at g0
       have g1:=Hp (fun W K=>dQ (w.heap.size+1) l (aI 1 (some s)).2 2 W K hl (by omega) (by omega))
       change Hid (∀W,_->Calls _ _ #[_,.int .i64 2] W _)at g1
       have g2:=Hp (fun W K=>dQ (w.heap.size+1) l (aI 2 (aI 1 (some s)).2).2 1 W K hl (by omega) (by omega))
       change Hid (∀W,_->Calls _ _ #[_,.int .i64 1] W _)at g2
       have w9:=dZ 1 (aI 2 (aI 1 (some s)).2).2 (by omega)
       have g3:=Hp (fun W K=>dQ (w.heap.size+1) l (aI 1 (aI 2 (aI 1 (some s)).2).2).2 2 W K hl (by omega) (by omega))
       change Hid (∀W,_->Calls _ _ #[_,.int .i64 2] W _)at g3
       have hx:fZ (some s)=(⟨(aI 1 (some s)).1,(aI 2 (aI 1 (some s)).2).1,(aI 1 (aI 2 (aI 1 (some s)).2).2).1 -1,(aI 2 (aI 1 (aI 2 (aI 1 (some s)).2).2).2).1⟩,(aI 2 (aI 1 (aI 2 (aI 1 (some s)).2).2).2).2):=rfl
       obtain⟨r3,j1⟩:∃a,a=(aI 2 (aI 1 (aI 2 (aI 1 (some s)).2).2).2).1:=⟨_,rfl⟩
       rw[<-j1]at g3 hx
       obtain⟨t4,i9⟩:∃x,x=(aI 2 (aI 1 (aI 2 (aI 1 (some s)).2).2).2).2:=⟨_,rfl⟩
       rw[<-i9]at g3 hx
       obtain⟨r2,j2⟩:∃a,a=(aI 1 (aI 2 (aI 1 (some s)).2).2).1:=⟨_,rfl⟩
       rw[<-j2]at g2 hx w9
       obtain⟨y2,n9⟩:=Nm (r2 -1)
       have q2:IntKind.i64.wrap (r2 -1)=y2:=by rw[n9];exact IntWalk.i64_in _ (by omega)
       rw[<-n9]at hx
       obtain⟨t3,j0⟩:∃x,x=(aI 1 (aI 2 (aI 1 (some s)).2).2).2:=⟨_,rfl⟩
       rw[<-j0]at g2 g3
       obtain⟨U,e3⟩:∃a,a=(aI 2 (aI 1 (some s)).2).1:=⟨_,rfl⟩
       rw[<-e3]at g1 hx
       obtain⟨t2,d8⟩:∃x,x=(aI 2 (aI 1 (some s)).2).2:=⟨_,rfl⟩
       rw[<-d8]at g1 g2
       obtain⟨V,e4⟩:∃a,a=(aI 1 (some s)).1:=⟨_,rfl⟩
       rw[<-e4]at g0 hx
       obtain⟨t1,d9⟩:∃x,x=(aI 1 (some s)).2:=⟨_,rfl⟩
       rw[<-d9]at g0 g1
       have HX:=Hp hx
       clear hx e4 d9 e3 d8 j2 j0 j1 i9 n9 w9
       obtain⟨N,d⟩:=Nm (wr.alloc (.cells #[.int .i64 0,.int .i64 0,.int .i64 0,.int .i64 0] 180))
       have k6:=Hp d.symm
       have b0:∀k,k<wr.heap.size->N.heap[k]? =wr.heap[k]?:=fun k f=>d▸heap_alloc_old wr _ f
       have X0:=Hp (show N.heap[wr.heap.size]? =some (.cells #[.int .i64 0,.int .i64 0,.int .i64 0,.int .i64 0] 180 (0,0)) from d▸heap_alloc_new _ _)
       have K0:=Hp (show Kp [244,180] wr N from d▸(Kp.refl _ wr).alloc _)
       have f1:=Hp (R.same (b0 _ R.lt))
       have l0:=Hp (show PatOwn N (b+1) vP u from d▸EE.out.alloc _)
       have a4:=Hp (show vP.ownBlock≠some wr.heap.size from fun h=>by have:=EE.lt _ h;omega)
       have v5:wr.heap.size<N.heap.size:=(ZL X0.out)
       have y0:b+1<=wr.heap.size:=LK.size
       have F0:=Hp (show∀k,k<b+1->k≠w.heap.size+1->N.heap[k]? =wr.heap[k]? from fun k f _=>b0 k (by omega))
       have Y0:=Hp (show N.os=wr.os/\N.tape=wr.tape/\N.output=wr.output from d▸⟨rfl,rfl,rfl⟩)
       clear d b0
       go_wp2_with fail
       rw[k6.out]
       refine(g0.out _ f1.out).mono ?_
       rintro e n0 ⟨rfl,h0,t⟩
       have a9:=Hp (f1.kp t)
       have u7:=t.size
       have P:=Hp (a9.out _ _ _ _ X0.out (by decide))
       have k8:=Hp (show PatOwn n0 (b+1) vP u from own_kp l0.out a9.out (by decide))
       have e9:=heap_cell P.out 0
       have m8:=heap_free P.out 0
       simp only[GZ2,GZ0]at e9
       obtain⟨G,d⟩:=Nm (n0.setCell ⟨wr.heap.size,0,none⟩ (.int .i64 V))
       have l8:=d.symm
       have i7:G.heap.size=n0.heap.size:=by subst d;simp
       have a7:∀k,k≠wr.heap.size->G.heap[k]? =n0.heap[k]?:=fun k f=>by rw[d];exact Below.heap_setCell _ _ _ _ f
       have X1:=Hp (show G.heap[wr.heap.size]? =some (.cells #[.int .i64 V,.int .i64 0,.int .i64 0,.int .i64 0] 180 (0,0)) from by rw[d,heap_setCell_same n0 _ 0 _ _ _ P.out];rfl)
       have f4:Kp [244,180] n0 G:=d▸Kp.set P.out (by simp) 0 _
       have K1:=Hp (show Kp [244,180] wr G from(K0.trans (a9.mono (by simp))).trans f4)
       have f0:=Hp (h0.same (a7 _ (by have:=R.lt;omega)))
       have k9:=Hp (show PatOwn G (b+1) vP u from d▸ownsRow_setCell_other k8.out a4.out _)
       have F1:=Hp (show∀k,k<b+1->k≠w.heap.size+1->G.heap[k]? =wr.heap[k]? from fun k f p=>(a7 k (by omega)).trans ((t.block k (by omega) p).trans (F0.out k f p)))
       have Y1:=Hp (show G.os=wr.os/\G.tape=wr.tape/\G.output=wr.output from d▸⟨t.os.trans Y0.out.1,t.tape.trans Y0.out.2.1,t.output.trans Y0.out.2.2⟩)
       have u9:wr.heap.size<G.heap.size:=by omega
       clear h0 t d a7 i7 f4
       go_wp2_with fail
       refine(g1.out _ f0.out).mono ?_
       rintro e Z ⟨rfl,p,q⟩
       have a8:=Hp (f0.kp q)
       have u6:=q.size
       have O:=Hp (a8.out _ _ _ _ X1.out (by decide))
       have k7:=Hp (show PatOwn Z (b+1) vP u from own_kp k9.out a8.out (by decide))
       have e8:=heap_cell O.out 1
       have m7:=heap_free O.out 1
       simp only[GZ2,GZ1,GZ0]at e8
       obtain⟨D,y⟩:=Nm (Z.setCell ⟨wr.heap.size,1,none⟩ (.int .i64 U))
       have l7:=y.symm
       have i6:D.heap.size=Z.heap.size:=by subst y;simp
       have a6:∀k,k≠wr.heap.size->D.heap[k]? =Z.heap[k]?:=fun k f=>by rw[y];exact Below.heap_setCell _ _ _ _ f
       have X2:=Hp (show D.heap[wr.heap.size]? =some (.cells #[.int .i64 V,.int .i64 U,.int .i64 0,.int .i64 0] 180 (0,0)) from by rw[y,heap_setCell_same Z _ 1 _ _ _ O.out];rfl)
       have f3:Kp [244,180] Z D:=y▸Kp.set O.out (by simp) 1 _
       have K2:=Hp (show Kp [244,180] wr D from(K1.trans (a8.mono (by simp))).trans f3)
       have h9:=Hp (p.same (a6 _ (by have:=R.lt;omega)))
       have f6:=Hp (show PatOwn D (b+1) vP u from y▸ownsRow_setCell_other k7.out a4.out _)
       have F2:=Hp (show∀k,k<b+1->k≠w.heap.size+1->D.heap[k]? =wr.heap[k]? from fun k f p=>(a6 k (by omega)).trans ((q.block k (by omega) p).trans (F1.out k f p)))
       have Y2:=Hp (show D.os=wr.os/\D.tape=wr.tape/\D.output=wr.output from y▸⟨q.os.trans Y1.out.1,q.tape.trans Y1.out.2.1,q.output.trans Y1.out.2.2⟩)
       have u8:wr.heap.size<D.heap.size:=by omega
       clear p q y a6 i6 f3
       go_wp2_with fail
       refine(g2.out _ h9.out).mono ?_
       rintro e n2 ⟨rfl,h2,C⟩
       have g5:=Hp (h9.kp C)
       have zu2:=C.size
       have c7:=Hp (g5.out _ _ _ _ X2.out (by decide))
       have t9:=Hp (show PatOwn n2 (b+1) vP u from own_kp f6.out g5.out (by decide))
       have j6:=heap_cell c7.out 2
       have y6:=heap_free c7.out 2
       simp only[GZ2,GZ1,GZ0]at j6
       obtain⟨p3,I⟩:=Nm (n2.setCell ⟨wr.heap.size,2,none⟩ (.int .i64 y2))
       have x7:=I.symm
       have n4:p3.heap.size=n2.heap.size:=by subst I;simp
       have f9:∀k,k≠wr.heap.size->p3.heap[k]? =n2.heap[k]?:=fun k f=>by rw[I];exact Below.heap_setCell _ _ _ _ f
       have X3:=Hp (show p3.heap[wr.heap.size]? =some (.cells #[.int .i64 V,.int .i64 U,.int .i64 y2,.int .i64 0] 180 (0,0)) from by rw[I,heap_setCell_same n2 _ 2 _ _ _ c7.out];rfl)
       have j9:Kp [244,180] n2 p3:=I▸Kp.set c7.out (by simp) 2 _
       have K3:=Hp (show Kp [244,180] wr p3 from(K2.trans (g5.mono (by simp))).trans j9)
       have j7:=Hp (h2.same (f9 _ (by have:=R.lt;omega)))
       have u5:=Hp (show PatOwn p3 (b+1) vP u from I▸ownsRow_setCell_other t9.out a4.out _)
       have F3:=Hp (show∀k,k<b+1->k≠w.heap.size+1->p3.heap[k]? =wr.heap[k]? from fun k f p=>(f9 k (by omega)).trans ((C.block k (by omega) p).trans (F2.out k f p)))
       have Y3:=Hp (show p3.os=wr.os/\p3.tape=wr.tape/\p3.output=wr.output from I▸⟨C.os.trans Y2.out.1,C.tape.trans Y2.out.2.1,C.output.trans Y2.out.2.2⟩)
       have zp3:wr.heap.size<p3.heap.size:=by omega
       clear h2 C I f9 n4 j9
       go_wp2_with fail
       refine(g3.out _ j7.out).mono ?_
       rintro e n3 ⟨rfl,h3,B⟩
       have g4:=Hp (j7.kp B)
       have zu3:=B.size
       have c6:=Hp (g4.out _ _ _ _ X3.out (by decide))
       have t8:=Hp (show PatOwn n3 (b+1) vP u from own_kp u5.out g4.out (by decide))
       have j5:=heap_cell c6.out 3
       have y5:=heap_free c6.out 3
       simp only[GZ2,GZ1,GZ0]at j5
       obtain⟨F,H⟩:=Nm (n3.setCell ⟨wr.heap.size,3,none⟩ (.int .i64 r3))
       have x6:=H.symm
       have m9:F.heap.size=n3.heap.size:=by subst H;simp
       have f8:∀k,k≠wr.heap.size->F.heap[k]? =n3.heap[k]?:=fun k f=>by rw[H];exact Below.heap_setCell _ _ _ _ f
       have X4:=Hp (show F.heap[wr.heap.size]? =some (.cells #[.int .i64 V,.int .i64 U,.int .i64 y2,.int .i64 r3] 180 (0,0)) from by rw[H,heap_setCell_same n3 _ 3 _ _ _ c6.out];rfl)
       have j8:Kp [244,180] n3 F:=H▸Kp.set c6.out (by simp) 3 _
       have K4:=Hp (show Kp [244,180] wr F from(K3.trans (g4.mono (by simp))).trans j8)
       have r4:=Hp (h3.same (f8 _ (by have:=R.lt;omega)))
       have c8:=Hp (show PatOwn F (b+1) vP u from H▸ownsRow_setCell_other t8.out a4.out _)
       have F4:=Hp (show∀k,k<b+1->k≠w.heap.size+1->F.heap[k]? =wr.heap[k]? from fun k f p=>(f8 k (by omega)).trans ((B.block k (by omega) p).trans (F3.out k f p)))
       have Y4:=Hp (show F.os=wr.os/\F.tape=wr.tape/\F.output=wr.output from H▸⟨B.os.trans Y3.out.1,B.tape.trans Y3.out.2.1,B.output.trans Y3.out.2.2⟩)
       have zp4:wr.heap.size<F.heap.size:=by omega
       clear h3 B H f8 m9 j8
       have MM:=Hp (show MB F b T a1 a2 a3 vE vI vP from K4.out _ _ _ _ M.out (by decide))
       have m4:=heap_cell (show F.heap[b]? =_ from MM.out) 6
       have x0:=heap_cell X4.out 0
       have x1:=heap_cell X4.out 1
       have x2:=heap_cell X4.out 2
       have x3:=heap_cell X4.out 3
       simp only[GZ2,GZ1,GZ0]at m4 x0 x1 x2 x3
       have y1:b+1<=F.heap.size:=by omega
       go_wp2_with (at_builtin;refine append_Pat F rfl _ _ rfl (b+1) vP u ⟨V,U,y2,r3⟩ rfl rfl c8.out (by omega) (by omega) ?_;intro v' w7 A b7;have f5:=Hp A;obtain⟨g,j4,rfl⟩:=ownsRow_succ (show w7.ownsRow (b+1) _ 4 v' (u.length+1) _ by have h:=A;unfold PatOwn at h;simpa using h);have HG:=Hp b7;have b6:some b≠vP.ownBlock:=(fun h=>by have:=(c8.lt b h.symm).1;omega);have M7:=Hp (show MB w7 b T a1 a2 a3 vE vI vP from(b7.block b (by simp;omega) b6).trans ((heap_alloc_old F _ (by omega)).trans MM.out));have p7:=heap_cell (show w7.heap[b]? =_ from M7.out) 6;have f7:=heap_free (show w7.heap[b]? =_ from M7.out) 6;simp only[GZ2,GZ1,GZ0]at p7;clear A b7 b6)
       have KX:=Hp (show Kp [244,70,180] wr w7 from((K4.alloc _).trans (Kp.grown (ts:=[244,180]) HG.out (fun g hg=>by
        obtain⟨c',fz,h⟩:=own_kind (c8.alloc (.cells #[.int .i64 V,.int .i64 U,.int .i64 y2,.int .i64 r3] 180)) g hg
        exact⟨_,_,_,h,by simp⟩))).mono (by simp))
       have BX:=Hp (fun k(f:k<b+1)=>(HG.block k (by simp;omega) (fun h=>by have:=(c8.lt k h.symm).1;omega)).trans (heap_alloc_old F (.cells #[.int .i64 V,.int .i64 U,.int .i64 y2,.int .i64 r3] 180) (show k<F.heap.size by omega)))
       have SZ:=HG.size
       go_roundw
       case rel=>
        refine⟨j+1,u++[⟨V,U,y2,r3⟩],t4,by go_num,HJ.out,by rw[GZ8];have:=k5.out;simp;omega,⟨?_,?_,own_kp r5.out (KX.trans (Kp.set (show w7.heap[b]? =_ from M7.out) (by simp) 6 _)) (by decide),own_kp PO1.out (KX.trans (Kp.set (show w7.heap[b]? =_ from M7.out) (by simp) 6 _)) (by decide),.slice (some ⟨g,0,none⟩) (u.length+1) j4,?_,?_⟩,by have h:=E1.out;rw[HX.out]at h;exact h,by have h:=E2.out;rw[HX.out]at h;exact h⟩
        ·exact r4.same ((Below.heap_setCell _ _ _ _ (Nat.ne_of_lt q0)).trans (BX.out _ (by omega)))
        ·refine LK.step ?_ (fun k p h2 h3=>(Below.heap_setCell _ _ _ _ h3).trans ((BX.out k p).trans (F4.out k p h2))) ⟨HG.os.trans Y4.out.1,HG.tape.trans Y4.out.2.1,HG.output.trans Y4.out.2.2⟩
         simp at SZ ⊢
         omega
        ·unfold MB
         rw[heap_setCell_same w7 b 6 _ _ _ M7.out]
         rfl
        ·exact ownsRow_setCell_below (a:=⟨b,6,none⟩) f5.out (Nat.lt_succ_self b) _
       case measure=>(have:=HJ.out;simp[intOf];try omega)
   case rest=>
    obtain⟨x4,rfl⟩:=Nm wc
    obtain⟨b8,e6,i8,w0,vP,e5,b9⟩:=hcut
    obtain⟨ps,b4⟩:=Nm T3.1
    obtain⟨s8,b5⟩:=Nm T3.2
    rw[<-b4]at b9
    rw[<-b5]at b8
    have z4:=Hp (show ps=(d7 l).1 by rw[b4,z9.out])
    have t7:=Hp (show s8=(d7 l).2 by rw[b5,z9.out])
    have R4w:=Hp b8
    have f2:=Hp e6
    have i0:=Hp e5
    have l2:=Hp b9
    have l4:=Hp i8
    have l3:=Hp w0
    clear b4 b5 b8 e6 e5 b9 J3 l1 i8 w0
    obtain⟨eA,eC,rfl,hE⟩:=l4.row
    obtain⟨iA,iC,rfl,hI⟩:=l3.row
    obtain⟨pA,pC,rfl,hP⟩:=l2.row
    clear hE hI hP
    have c5:x4.heap[w.heap.size]? =some (.cells #[.string ⟨#[]⟩,.int .i64 0,.int .i64 0,.string ⟨#[]⟩,.slice none 0 0,.slice none 0 0,.slice none 0 0] 70 (0,0)):=
     (f2.low _ (by have:=a5.out;omega) (by omega) (by have:=a5.out;omega)).trans ((N4.out _ (by have:=a5.out;omega) (by omega)).trans HZ0.out)
    have e7:Below w.heap.size w x4:=by
     refine⟨f2.os.1.trans O4.out.1,f2.os.2.1.trans O4.out.2.1,f2.os.2.2.trans O4.out.2.2,by have:=f2.size;have:=a5.out;omega,fun k f=>?_⟩
     have:=a5.out
     exact(f2.low k (by omega) (by omega) (by omega)).trans ((N4.out k (by omega) (by omega)).trans (i1.block k f))
    have z0':=heap_cell c5 0
    have z1':=heap_cell c5 1
    have z2':=heap_cell c5 2
    have z3':=heap_cell c5 3
    have z4':=heap_cell c5 4
    have z5':=heap_cell c5 5
    have z6':=heap_cell c5 6
    have zf:=fun o=>heap_free c5 o
    have m0:=heap_cell (show x4.heap[b]? =_ from i0.out) 0
    have m1:=heap_cell (show x4.heap[b]? =_ from i0.out) 1
    have m2:=heap_cell (show x4.heap[b]? =_ from i0.out) 2
    have m3:=heap_cell (show x4.heap[b]? =_ from i0.out) 3
    have m4:=heap_cell (show x4.heap[b]? =_ from i0.out) 4
    have m5:=heap_cell (show x4.heap[b]? =_ from i0.out) 5
    have m6:=heap_cell (show x4.heap[b]? =_ from i0.out) 6
    simp only[GZ2,GZ1,GZ0]at z0' z1' z2' z3' z4' z5' z6' m0 m1 m2 m3 m4 m5 m6
    have l5:=Hp c5
    have l6:=Hp e7
    have l9:w.heap.size<x4.heap.size:=by have:=f2.size;have:=a5.out;omega
    have hbM7:b<x4.heap.size:=by have:=f2.size;omega
    have HQ:=Hp (show es.length<=big/\(∀x∈es,x.name.size<=big)/\is.length<=big/\(∀x∈is,x.mod.size<=big/\x.name.size<=big)/\ps.length<=big/\T.size<=big/\a3.size<=big by
     have p:=jC gF (aI 1 (d4 l).2).1.toNat (aI 1 (d4 l).2).2
     have h2:=Ru (d4 l).2
     have h3:=jC Ro (aI 1 (d5 l).2).1.toNat (aI 1 (d5 l).2).2
     have h4:=Ru (d5 l).2
     have h5:=jC fZ (aI 1 (d6 l).2).1.toNat (aI 1 (d6 l).2).2
     have h6:=Ru (d6 l).2
     have g1:es.length<=255:=by rw[t5.out];show(dU gF _ _).1.length<=_;omega
     have g2:is.length<=255:=by rw[s9.out];show(dU Ro _ _).1.length<=_;omega
     have g3:ps.length<=255:=by rw[z4.out];show(dU fZ _ _).1.length<=_;omega
     have nb:∀S,(sof (nam S).1).size<=big:=fun S=>by rw[kH];have:=NS S;unfold big;omega
     refine⟨by unfold big;omega,?_,by unfold big;omega,?_,by unfold big;omega,?_,?_⟩
     ·rw[t5.out];exact Tq (Q:=fun x:Exp=>x.name.size<=big) (fun S=>nb S) _ _
     ·rw[s9.out];exact Tq (Q:=fun x:Imp=>x.mod.size<=big/\x.name.size<=big) (fun S=>⟨nb S,nb _⟩) _ _
     ·rw[HA0.out];exact nb _
     ·rw[HA3.out,kH]
      have h7:=Ia (d3 l).1.toNat (d3 l).2
      have h8:=(dZ 2 (d2 l).2 (by omega)).2
      change(d3 l).1<=65535 at h8
      show(txt _ _).1.length<=_
      unfold big;omega)
    have R:=R4w
    obtain⟨at_,hh,hat,o2⟩:=id R.out
    have e0:=heap_cell hh 1
    have Y:=heap_cell hh 2
    have hsz:=kH l
    simp only[GZ2,GZ1,GZ0]at e0 Y
    unfold big at hl
    clear hh c5 e7 R
    cases s8 with
    |none=>
     simp only[Option.isNone_none]at Y
     have L:=Hp (show dO l=1 by unfold dO;rw[<-t7.out,if_pos (by simp)])
     clear m0 m1 m2 m3 m4 m5 m6 o2
     go_wp2_with fail
     obtain⟨hg,ho⟩:=set7 l5.out (.string ⟨#[]⟩) (.int .i64 0) (.int .i64 0) (.string ⟨#[]⟩) (.slice none 0 0) (.slice none 0 0) (.slice none 0 0)
     refine bodyPost_ret (results_cell_tmp rfl _ _ w.heap.size 70 _ (0,0) _ rfl hg Tryz.underlying70 rfl Tryz.iE) rfl ?_
     refine⟨⟨zeroMod,by rw[L.out];rfl,zero_ok _,dW _ _,by rw[oH (by rw[L.out];decide)];exact⟨rfl,rfl,rfl,rfl,rfl,rfl,rfl⟩⟩,l6.trans (ho.below (by omega))⟩
    |some r=>
     simp only[Option.isNone_some]at Y
     have hr:r=l.drop at_:=by
      rcases o2 with h|h
      ·cases h
      ·exact GY3 h
     have o4:r.length=l.length -at_:=by rw[hr,List.length_drop]
     clear o2 hr
     by_cases hr:r=[]
     ·subst hr
      have g8:¬(at_<l.length):=by simp at o4;omega
      clear o4
      obtain⟨mm,j3⟩:∃mm:Mod,mm=⟨T,a1,a2,a3,es,is,ps,eA,eC,iA,iC,pA,pC⟩:=⟨_,rfl⟩
      have x8:mm.ok x4:=by
       rw[j3]
       exact mk_ok l4.out l3.out l2.out HQ.out
      have g6:gI mm (pQ l):=by
       rw[j3]
       exact⟨HA0.out,HA1.out,HA2.out,HA3.out,t5.out,s9.out,z4.out⟩
      have cC:=Hp (iV mm x4 x8)
      have L:=Hp (show aL mm=dO l by unfold dO;rw[<-t7.out,if_neg (by simp)];exact g6.err)
      have t6:=Hp g6
      have z8:=Hp j3
      have o5:mm.v=.agg #[.string T,.int .i64 a1,.int .i64 a2,.string a3,.slice eA es.length eC,.slice iA is.length iC,.slice pA ps.length pC]:=by rw[j3]
      have HMV:=Hp o5
      rw[o5]at cC
      obtain⟨E,hE⟩:=Nm (aL mm)
      rw[<-hE]at cC L
      clear j3 x8 g6 o5 hE
      by_cases t0:E=0
      ·subst t0
       go_wp2_with (go_at_call 104;refine(cC.out).mono ?_;rintro e w8 ⟨rfl,X⟩;obtain⟨hc8,hf8⟩:=aJ X)
       obtain⟨hg,ho⟩:=set7 ((X.block _ l9).trans l5.out) (.string T) (.int .i64 a1) (.int .i64 a2) (.string a3) (.slice eA es.length eC) (.slice iA is.length iC) (.slice pA ps.length pC)
       refine bodyPost_ret (results_cell_tmp rfl _ _ w.heap.size 70 _ (0,0) _ rfl hg Tryz.underlying70 rfl Tryz.iE) rfl ?_
       refine⟨⟨mm,by rw[<-L.out,HMV.out];rfl,?_,?_,?_⟩,l6.trans ((X.mono (by omega)).trans (ho.below (by have:=X.size;omega)))⟩
       ·have f:∀g,b+1<=g->g<x4.heap.size->_:=fun g p h2=>(ho.block g (by have:=X.size;omega) (by have:=a5.out;omega)).trans (X.block g h2)
        rw[z8.out]
        exact mk_ok (own_same l4.out f) (own_same l3.out f) (own_same l2.out f) HQ.out
       ·have f:∀g,b+1<=g->g<x4.heap.size->_:=fun g p h2=>(ho.block g (by have:=X.size;omega) (by have:=a5.out;omega)).trans (X.block g h2)
        rw[z8.out]
        exact⟨RH (own_same l4.out f) (by have:=a5.out;omega),RH (own_same l3.out f) (by have:=a5.out;omega),RH (own_same l2.out f) (by have:=a5.out;omega)⟩
       ·rw[show iD l=pQ l by unfold iD;rw[if_neg (by rw[<-L.out];decide)]]
        exact t6.out
      ·have t0':(E != 0)=true:=by simp[t0]
       have b6:dO l≠0:=by rw[<-L.out];exact t0
       have HNE:=Hp b6
       clear t0 b6
       go_wp2_with (go_at_call 104;refine(cC.out).mono ?_;rintro e w8 ⟨rfl,X⟩;obtain⟨hc8,hf8⟩:=aJ X)
       obtain⟨hg,ho⟩:=set7 ((X.block _ l9).trans l5.out) (.string ⟨#[]⟩) (.int .i64 0) (.int .i64 0) (.string ⟨#[]⟩) (.slice none 0 0) (.slice none 0 0) (.slice none 0 0)
       refine bodyPost_ret (results_cell_tmp rfl _ _ w.heap.size 70 _ (0,0) _ rfl hg Tryz.underlying70 rfl Tryz.iE) rfl ?_
       exact⟨⟨zeroMod,by rw[<-L.out];rfl,zero_ok _,dW _ _,by rw[oH HNE.out];exact⟨rfl,rfl,rfl,rfl,rfl,rfl,rfl⟩⟩,l6.trans ((X.mono (by omega)).trans (ho.below (by have:=X.size;omega)))⟩
     ·have x5:0<r.length:=List.length_pos_iff.2 hr
      have g8:(at_:Int)<l.length:=by omega
      have L:=Hp (show dO l=1 by unfold dO;rw[<-t7.out,if_pos (by simp[hr])])
      clear m0 m1 m2 m3 m4 m5 m6 hr o4 x5
      go_wp2_with fail
      obtain⟨hg,ho⟩:=set7 l5.out (.string ⟨#[]⟩) (.int .i64 0) (.int .i64 0) (.string ⟨#[]⟩) (.slice none 0 0) (.slice none 0 0) (.slice none 0 0)
      refine bodyPost_ret (results_cell_tmp rfl _ _ w.heap.size 70 _ (0,0) _ rfl hg Tryz.underlying70 rfl Tryz.iE) rfl ?_
      refine⟨⟨zeroMod,by rw[L.out];rfl,zero_ok _,dW _ _,by rw[oH (by rw[L.out];decide)];exact⟨rfl,rfl,rfl,rfl,rfl,rfl,rfl⟩⟩,l6.trans (ho.below (by omega))⟩
end Go.Proofs.YtjiedaialianmaaGreat
