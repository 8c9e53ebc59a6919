import Derived.Test.YtjiedaialianmaaGreatA11
import Derived.Test.YtjiedaialianmaaGreatA13
import Derived.Lib.AppendZerosOnto
import Derived.Shelf.Spec.SlicesInsert
namespace Go.Proofs.YtjiedaialianmaaGreat
section
set_option maxRecDepth 100000
set_option maxHeartbeats 8000000
open Go.RowKit
structure xR (base B bM:Nat)(V W:World):Prop where
 size:base<=W.heap.size
 low:∀k,k<base->k≠B->k≠bM->W.heap[k]? =V.heap[k]?
 os:W.os=V.os/\W.tape=V.tape/\W.output=V.output
def I1 (B bR bM base:Nat)(nm tx:ByteArray)(mj mn:Int)(V:World)(b:List Exp)(a:Rest)(W:World):Prop:=
 Rd B a W/\(left a).length<=big/\Boxed W bR 186 (.pointer (some ⟨B,0,none⟩))/\xR base B bM V W/\∃v,MB W bM nm mj mn tx v (.slice none 0 0) (.slice none 0 0)/\ExpOwn W base v b
def I2 (B bR bM base:Nat)(nm tx:ByteArray)(mj mn:Int)(a:Value)(d:List Exp)(V:World)(c:List Imp)(b:Rest)(W:World):Prop:=
 Rd B b W/\(left b).length<=big/\Boxed W bR 186 (.pointer (some ⟨B,0,none⟩))/\xR base B bM V W/\ExpOwn W base a d/\∃v,MB W bM nm mj mn tx a v (.slice none 0 0)/\ImpOwn W base v c
def I3 (B bR bM base:Nat)(nm tx:ByteArray)(mj mn:Int)(b a:Value)(f:List Exp)(e:List Imp)(V:World)(d:List Pat)(c:Rest)(W:World):Prop:=
 Rd B c W/\(left c).length<=big/\Boxed W bR 186 (.pointer (some ⟨B,0,none⟩))/\xR base B bM V W/\ExpOwn W base b f/\ImpOwn W base a e/\∃v,MB W bM nm mj mn tx b a v/\PatOwn W base v d
theorem xR.step {base B bM:Nat}{V W a:World}(h:xR base B bM V W)(f:W.heap.size<=a.heap.size)(g:∀k,k<base->k≠B->k≠bM->a.heap[k]? =W.heap[k]?)(b:a.os=W.os/\a.tape=W.tape/\a.output=W.output):xR base B bM V a:=
 ⟨GY1 h.size f,fun k e d c=>(g k e d c).trans (h.low k e d c),b.1.trans h.os.1,b.2.1.trans h.os.2.1,b.2.2.trans h.os.2.2⟩
theorem xR.only {base B bM:Nat}{V W b:World}(h:xR base B bM V W)(a:Only B W b):xR base B bM V b:=
 h.step a.size (fun k d c _=>a.block k (GY0 d h.size) c) ⟨a.os,a.tape,a.output⟩
section
variable {B bR bM base:Nat} {nm tx:ByteArray} {mj mn:Int} {V:World}
theorem VN {W a:World}{b:Rest}(d:Rd B b W)(c:Only B W a):Kp [188] W a:=c.kp d (by simp)
theorem QQ (g:B<base)(f:bM<base)(a:Rest)(w:World)(p:(left a).length<=big)(h:I1 B bR bM base nm tx mj mn V [] a w):
  Calls Tryz.prog 130 #[.pointer (some ⟨B,0,none⟩),.func (.func 131) #[] #[.pointer (some ⟨bR,0,none⟩),.pointer (some ⟨bM,0,none⟩)]] w fun e n=>(∃u,e=.returned u)/\I1 B bR bM base nm tx mj mn V (dU gF (aI 1 a).1.toNat (aI 1 a).2).1 (dU gF (aI 1 a).1.toNat (aI 1 a).2).2 n:=by
 refine xP gF B 131 _ (I1 B bR bM base nm tx mj mn V) a w (enters_of Tryz.func131 (by kernel_rfl) rfl) (fun _ _ _ h=>h.1) p ?_ ?_ h.1
 ·intro H o i
  obtain⟨j,_,d,c,v,l,m⟩:=h
  have k:=VN j o
  exact⟨i,dB 1 p,box_kp d k (by decide),c.only o,v,k _ _ _ _ l (by decide),own_kp m k (by decide)⟩
 ·intro q s W t y
  obtain⟨j,b,d,c,v,l,m⟩:=y
  refine(NQ B bR bM base (some s) nm tx mj mn v _ _ q W j d l m b (by omega) g f c.size).mono ?_
  rintro e n ⟨x,G,F,E,D,C,r,A,z⟩
  exact⟨x,G,NR b,box_kp d F (by decide),c.step E D C,r,A,z⟩
theorem QV {d:Value}{p:List Exp}(j:B<base)(i:bM<base)(a:Rest)(w:World)(t:(left a).length<=big)(h:I2 B bR bM base nm tx mj mn d p V [] a w):
  Calls Tryz.prog 130 #[.pointer (some ⟨B,0,none⟩),.func (.func 132) #[] #[.pointer (some ⟨bR,0,none⟩),.pointer (some ⟨bM,0,none⟩)]] w fun e q=>(∃u,e=.returned u)/\I2 B bR bM base nm tx mj mn d p V (dU Ro (aI 1 a).1.toNat (aI 1 a).2).1 (dU Ro (aI 1 a).1.toNat (aI 1 a).2).2 q:=by
 refine xP Ro B 132 _ (I2 B bR bM base nm tx mj mn d p V) a w (enters_of Tryz.func132 (by kernel_rfl) rfl) (fun _ _ _ h=>h.1) t ?_ ?_ h.1
 ·intro J r l
  obtain⟨m,_,g,f,o,v,n,c⟩:=h
  have k:=VN m r
  exact⟨l,dB 1 t,box_kp g k (by decide),f.only r,own_kp o k (by decide),v,k _ _ _ _ n (by decide),own_kp c k (by decide)⟩
 ·intro y s W A c
  obtain⟨m,b,g,f,o,v,n,c⟩:=c
  refine(MX B bR bM base (some s) nm tx mj mn d v _ y W m g n c b (by omega) j i f.size).mono ?_
  rintro e q ⟨C,I,x,H,G,F,z,E,D⟩
  exact⟨C,I,NT b,box_kp g x (by decide),f.step H G F,own_kp o x (by decide),z,E,D⟩
theorem QM {f d:Value}{x:List Exp}{j:List Imp}(m:B<base)(l:bM<base)(a:Rest)(w:World)(A:(left a).length<=big)(h:I3 B bR bM base nm tx mj mn f d x j V [] a w):
  Calls Tryz.prog 130 #[.pointer (some ⟨B,0,none⟩),.func (.func 133) #[] #[.pointer (some ⟨bR,0,none⟩),.pointer (some ⟨bM,0,none⟩)]] w fun e y=>(∃u,e=.returned u)/\I3 B bR bM base nm tx mj mn f d x j V (dU fZ (aI 1 a).1.toNat (aI 1 a).2).1 (dU fZ (aI 1 a).1.toNat (aI 1 a).2).2 y:=by
 refine xP fZ B 133 _ (I3 B bR bM base nm tx mj mn f d x j V) a w (enters_of Tryz.func133 (by kernel_rfl) rfl) (fun _ _ _ h=>h.1) A ?_ ?_ h.1
 ·intro M z n
  obtain⟨o,_,i,g,r,c,v,q,p⟩:=h
  have k:=VN o z
  exact⟨n,dB 1 A,box_kp i k (by decide),g.only z,own_kp r k (by decide),own_kp c k (by decide),v,k _ _ _ _ q (by decide),own_kp p k (by decide)⟩
 ·intro C s W E c
  obtain⟨o,b,i,g,r,c,v,q,p⟩:=c
  refine(OU B bR bM base (some s) nm tx mj mn f d v C W o i q p b (by omega) m l g.size).mono ?_
  rintro e y ⟨F,L,t,K,J,I,D,H,G⟩
  exact⟨F,L,NF b,box_kp i t (by decide),g.step K J I,own_kp r t (by decide),own_kp c t (by decide),D,H,G⟩
end
theorem dW (W:World)(base:Nat):zeroMod.own W base:=⟨World.ownsRow_nil _ _ _ _,World.ownsRow_nil _ _ _ _,World.ownsRow_nil _ _ _ _⟩
theorem oH {l:List UInt8}(h:dO l≠0):iD l=zeroMod:=by unfold iD;rw[if_pos h]
theorem Tryz.iE :(Tryz.prog.info? 70).map (·.size)=some 7:=by kernel_rfl
theorem Ig (l:List UInt8)(w:World)(hl:l.length<=big):
  Calls Tryz.prog 56 #[.string (sof l)] w fun e M=>(∃m:Mod,e=.returned (.tuple #[m.v,.int .i64 (dO l)])/\m.ok M/\m.own M w.heap.size/\gI m (iD l))/\Below w.heap.size w M:=by
 obtain⟨d,F⟩:∃W,W=((w.alloc (.cells #[.string ⟨#[]⟩,.int .i64 0,.int .i64 0,.string ⟨#[]⟩,.slice none 0 0,.slice none 0 0,.slice none 0 0] 70)).alloc (.cells #[.string (sof l),.bool false] 188)).alloc (.cells #[.pointer (some ⟨w.heap.size+1,0,none⟩)] 186):=⟨_,rfl⟩
 have l4:=Hp F.symm
 have zW:d.heap.size=w.heap.size+1+1+1:=by subst F;simp
 have g4:Rd (w.heap.size+1) (some l) d:=by
  subst F
  unfold Rd
  rw[heap_alloc_old _ _ (by simp)]
  exact heap_alloc2_new w _ _
 have e3:Boxed d (w.heap.size+1+1) 186 (.pointer (some ⟨w.heap.size+1,0,none⟩)):=by
  subst F
  have:=Boxed.new ((w.alloc (.cells #[.string ⟨#[]⟩,.int .i64 0,.int .i64 0,.string ⟨#[]⟩,.slice none 0 0,.slice none 0 0,.slice none 0 0] 70)).alloc (.cells #[.string (sof l),.bool false] 188)) 186 (.pointer (some ⟨w.heap.size+1,0,none⟩))
  simpa using this
 have g0:d.heap[w.heap.size]? =some (.cells #[.string ⟨#[]⟩,.int .i64 0,.int .i64 0,.string ⟨#[]⟩,.slice none 0 0,.slice none 0 0,.slice none 0 0] 70 (0,0)):=by
  subst F
  rw[heap_alloc_old _ _ (by simp;omega),heap_alloc2_old]
 have p:Below w.heap.size w d:=by
  subst F
  exact((ZB).alloc (by simp) _).alloc (by simp;omega) _
 have c6:(left (some l)).length<=big:=hl
 have b8:(left (d0 l).2).length<=big:=wS c6
 have b7:(left (d1 l).2).length<=big:=dB 1 b8
 have b6:(left (d2 l).2).length<=big:=dB 1 b7
 have b5:(left (d3 l).2).length<=big:=dB 2 b6
 have b4:(left (d4 l).2).length<=big:=dB _ b5
 have r3:=dZ 2 (d2 l).2 (by omega)
 change 0<=(d3 l).1/\(d3 l).1<=65535 at r3
 obtain⟨n,hn⟩:∃n:Nat,(d3 l).1=n:=⟨(d3 l).1.toNat,by omega⟩
 have c0:=Hp (fun W hW=>rJ (w.heap.size+1) (some l) W hW c6)
 change Hid (∀W,_->Calls _ _ _ W fun e M=>e=.returned (.string (sof (d0 l).1))/\Rd _ (d0 l).2 M/\_)at c0
 have c1:=Hp (fun W hW=>eY (w.heap.size+1) (d0 l).2 1 W hW b8 (by omega) (by omega))
 change Hid (∀W,_->Calls _ _ #[_,.int .i64 1] W fun e M=>e=.returned (.int .i64 (d1 l).1)/\Rd _ (d1 l).2 M/\_)at c1
 have c2:=Hp (fun W hW=>eY (w.heap.size+1) (d1 l).2 1 W hW b7 (by omega) (by omega))
 change Hid (∀W,_->Calls _ _ #[_,.int .i64 1] W fun e M=>e=.returned (.int .i64 (d2 l).1)/\Rd _ (d2 l).2 M/\_)at c2
 have c3:=Hp (fun W hW=>eY (w.heap.size+1) (d2 l).2 2 W hW b6 (by omega) (by omega))
 change Hid (∀W,_->Calls _ _ #[_,.int .i64 2] W fun e M=>e=.returned (.int .i64 (d3 l).1)/\Rd _ (d3 l).2 M/\_)at c3
 have c4:=Hp (fun W hW=>VI (w.heap.size+1) (d3 l).2 n W hW b5 (by omega))
 have f9:txt n (d3 l).2=d4 l:=by unfold d4;rw[hn];rfl
 rw[f9]at c4
 rw[hn]at c3
 obtain⟨q,e2⟩:=Nm (sof (d0 l).1)
 obtain⟨L,d9⟩:∃a,a=(d1 l).1:=⟨_,rfl⟩
 obtain⟨P,d8⟩:∃a,a=(d2 l).1:=⟨_,rfl⟩
 obtain⟨a3,c9⟩:=Nm (sof (d4 l).1)
 rw[<-e2]at c0
 rw[<-d9]at c1
 rw[<-d8]at c2
 rw[<-c9]at c4
 have i3:=Hp e2
 have n0:=Hp d9
 have m9:=Hp d8
 have i2:=Hp c9
 obtain⟨s1,f6⟩:∃s,s=(d0 l).2:=⟨_,rfl⟩
 obtain⟨s2,f5⟩:∃s,s=(d1 l).2:=⟨_,rfl⟩
 obtain⟨s3,f4⟩:∃s,s=(d2 l).2:=⟨_,rfl⟩
 obtain⟨s4,f3⟩:∃s,s=(d3 l).2:=⟨_,rfl⟩
 obtain⟨s5,b1⟩:∃s,s=(d4 l).2:=⟨_,rfl⟩
 rw[<-f6]at c0 c1
 rw[<-f5]at c1 c2
 rw[<-f4]at c2 c3
 rw[<-f3]at c3 c4
 rw[<-b1]at c4 b4
 have l8:=Hp b1
 have i0:=Hp b4
 have l3:=Hp g0
 have H:=Hp p
 have RW:=Hp g4
 have BW:=Hp e3
 have ZW:=Hp zW
 have o9:w.heap.size+1+1<d.heap.size:=by omega
 have qw:=e3.cell
 clear F zW g4 e3 g0 p c6 b8 b7 b6 b5 b4 r3 hn f9 e2 d9 d8 c9 f6 f5 f4 f3 b1
 go_enter Tryz.func56,Tryz.ntmps56
 go_wp2_with fail
 rw[l4.out]
 refine(c0.out _ RW.out).mono ?_
 rintro e u0 ⟨rfl,h0,D⟩
 have k0:=Hp (D.kp RW.out (ts:=[188]) (by simp))
 have z0:=D.size
 obtain⟨bM,Z⟩:=Nm u0.heap.size
 have o2:w.heap.size+1+1<bM:=by omega
 obtain⟨N,u⟩:=Nm (u0.alloc (.cells #[.string q,.int .i64 0,.int .i64 0,.string ⟨#[]⟩,.slice none 0 0,.slice none 0 0,.slice none 0 0] 70))
 have l5:=Hp u.symm
 have b0:∀k,k<u0.heap.size->N.heap[k]? =u0.heap[k]?:=fun k c=>u▸heap_alloc_old u0 _ c
 have M0:=Hp (show MB N bM q 0 0 ⟨#[]⟩ (.slice none 0 0) (.slice none 0 0) (.slice none 0 0) from Z▸u▸heap_alloc_new _ _)
 have R0:=Hp (show Rd (w.heap.size+1) s1 N from(b0 _ h0.lt).trans h0)
 have N0:=Hp (show∀k,k<bM->k≠w.heap.size+1->N.heap[k]? =d.heap[k]?\/d.heap.size<=k from fun k c i=>by
  by_cases j5:k<d.heap.size
  ·exact .inl ((b0 k (by omega)).trans (D.block k j5 i))
  ·exact .inr (by omega))
 have O0:=Hp (show N.os=d.os/\N.tape=d.tape/\N.output=d.output from u▸⟨D.os,D.tape,D.output⟩)
 have B0:=Hp (show Boxed N (w.heap.size+1+1) 186 (.pointer (some ⟨w.heap.size+1,0,none⟩)) from(box_kp BW.out k0.out (by decide)).alloc _ |> fun h=>u▸h)
 have i4:N.heap.size=bM+1:=by rw[u,Z];simp
 have qu:=(box_kp BW.out k0.out (by decide)).cell
 have o1:w.heap.size+1+1<u0.heap.size:=by omega
 have g8:=Hp (show bM+1<=N.heap.size by omega)
 have m8:=Hp Z
 clear h0 D u b0 qw i4 Z
 go_wp2_with fail
 rw[l5.out,<-m8.out]
 refine(c1.out _ R0.out).mono ?_
 rintro e u1 ⟨rfl,i,C⟩
 have k1:=Hp (C.kp R0.out (ts:=[188]) (by simp))
 have e6:=Hp (show MB u1 bM q 0 0 ⟨#[]⟩ (.slice none 0 0) (.slice none 0 0) (.slice none 0 0) from k1.out _ _ _ _ M0.out (by decide))
 have n4:=Hp (box_kp B0.out k1.out (by decide))
 have k7:=Hp (GY1 g8 C.size)
 have l1:=Hp (show∀k,k<bM->k≠w.heap.size+1->u1.heap[k]? =N.heap[k]? from fun k c i=>C.block k (by have:=g8.out;omega) i)
 have f2:=heap_cell (show u1.heap[bM]? =_ from e6.out) 1
 have n7:=heap_free (show u1.heap[bM]? =_ from e6.out) 1
 simp only[GZ2,GZ1,GZ0]at f2
 obtain⟨V,K⟩:=Nm (u1.setCell ⟨bM,1,none⟩ (.int .i64 L))
 have o0:=K.symm
 have s1:∀k,k≠bM->V.heap[k]? =u1.heap[k]?:=fun k c=>by rw[K];exact Below.heap_setCell _ _ _ _ c
 have M1:=Hp (show MB V bM q L 0 ⟨#[]⟩ (.slice none 0 0) (.slice none 0 0) (.slice none 0 0) from by unfold MB;rw[K,heap_setCell_same u1 bM 1 _ _ _ e6.out];rfl)
 have R1:=Hp (show Rd (w.heap.size+1) s2 V from(s1 _ (by omega)).trans i)
 have B1:=Hp (show Boxed V (w.heap.size+1+1) 186 (.pointer (some ⟨w.heap.size+1,0,none⟩)) from(s1 _ (by omega)).trans n4.out)
 have g7:=Hp (show bM+1<=V.heap.size by have:=k7.out;rw[K];simpa using this)
 have N1:=Hp (show∀k,k<bM->k≠w.heap.size+1->V.heap[k]? =d.heap[k]?\/d.heap.size<=k from fun k c i=>by
  rw[s1 k (by omega),l1.out k c i];exact N0.out k c i)
 have O1:=Hp (show V.os=d.os/\V.tape=d.tape/\V.output=d.output from K▸⟨C.os.trans O0.out.1,C.tape.trans O0.out.2.1,C.output.trans O0.out.2.2⟩)
 have o7:=B1.cell
 clear i C K s1
 go_wp2_with fail
 refine(c2.out _ R1.out).mono ?_
 rintro e u2 ⟨rfl,h2,B⟩
 have k2:=Hp (B.kp R1.out (ts:=[188]) (by simp))
 have e5:=Hp (show MB u2 bM q L 0 ⟨#[]⟩ (.slice none 0 0) (.slice none 0 0) (.slice none 0 0) from k2.out _ _ _ _ M1.out (by decide))
 have n3:=Hp (box_kp B1.out k2.out (by decide))
 have k6:=Hp (GY1 g7 B.size)
 have l0:=Hp (show∀k,k<bM->k≠w.heap.size+1->u2.heap[k]? =V.heap[k]? from fun k c i=>B.block k (by have:=g7.out;omega) i)
 have f1:=heap_cell (show u2.heap[bM]? =_ from e5.out) 2
 have n6:=heap_free (show u2.heap[bM]? =_ from e5.out) 2
 simp only[GZ2,GZ1,GZ0]at f1
 obtain⟨U,J⟩:=Nm (u2.setCell ⟨bM,2,none⟩ (.int .i64 P))
 have n9:=J.symm
 have s2:∀k,k≠bM->U.heap[k]? =u2.heap[k]?:=fun k c=>by rw[J];exact Below.heap_setCell _ _ _ _ c
 have M2:=Hp (show MB U bM q L P ⟨#[]⟩ (.slice none 0 0) (.slice none 0 0) (.slice none 0 0) from by unfold MB;rw[J,heap_setCell_same u2 bM 2 _ _ _ e5.out];rfl)
 have R2:=Hp (show Rd (w.heap.size+1) s3 U from(s2 _ (by omega)).trans h2)
 have B2:=Hp (show Boxed U (w.heap.size+1+1) 186 (.pointer (some ⟨w.heap.size+1,0,none⟩)) from(s2 _ (by omega)).trans n3.out)
 have g6:=Hp (show bM+1<=U.heap.size by have:=k6.out;rw[J];simpa using this)
 have N2:=Hp (show∀k,k<bM->k≠w.heap.size+1->U.heap[k]? =d.heap[k]?\/d.heap.size<=k from fun k c i=>by
  rw[s2 k (by omega),l0.out k c i];exact N1.out k c i)
 have O2:=Hp (show U.os=d.os/\U.tape=d.tape/\U.output=d.output from J▸⟨B.os.trans O1.out.1,B.tape.trans O1.out.2.1,B.output.trans O1.out.2.2⟩)
 have o6:=B2.cell
 clear h2 B J s2
 go_wp2_with fail
 refine(c3.out _ R2.out).mono ?_
 rintro e u3 ⟨rfl,h3,A⟩
 have k3:=Hp (A.kp R2.out (ts:=[188]) (by simp))
 have l2:=Hp (show MB u3 bM q L P ⟨#[]⟩ (.slice none 0 0) (.slice none 0 0) (.slice none 0 0) from k3.out _ _ _ _ M2.out (by decide))
 have n2:=Hp (box_kp B2.out k3.out (by decide))
 have k5:=Hp (GY1 g6 A.size)
 have k9:=Hp (show∀k,k<bM->k≠w.heap.size+1->u3.heap[k]? =U.heap[k]? from fun k c i=>A.block k (by have:=g6.out;omega) i)
 obtain⟨v3,j3⟩:=Nm u3
 subst j3
 have M3:=l2
 have R3:=Hp h3
 have B3:=n2
 have g5:=k5
 have N3:=Hp (show∀k,k<bM->k≠w.heap.size+1->v3.heap[k]? =d.heap[k]?\/d.heap.size<=k from fun k c i=>by
  rw[k9.out k c i];exact N2.out k c i)
 have O3:=Hp (show v3.os=d.os/\v3.tape=d.tape/\v3.output=d.output from⟨A.os.trans O2.out.1,A.tape.trans O2.out.2.1,A.output.trans O2.out.2.2⟩)
 have o5:=B3.cell
 clear h3 A
 go_wp2_with fail
 refine(c4.out _ R3.out).mono ?_
 rintro e u4 ⟨rfl,h4,z⟩
 have k4:=Hp (z.kp R3.out (ts:=[188]) (by simp))
 have e4:=Hp (show MB u4 bM q L P ⟨#[]⟩ (.slice none 0 0) (.slice none 0 0) (.slice none 0 0) from k4.out _ _ _ _ M3.out (by decide))
 have n1:=Hp (box_kp B3.out k4.out (by decide))
 have j9:=Hp (GY1 g5 z.size)
 have k8:=Hp (show∀k,k<bM->k≠w.heap.size+1->u4.heap[k]? =v3.heap[k]? from fun k c i=>z.block k (by have:=g5.out;omega) i)
 have f0:=heap_cell (show u4.heap[bM]? =_ from e4.out) 3
 have n5:=heap_free (show u4.heap[bM]? =_ from e4.out) 3
 simp only[GZ2,GZ1,GZ0]at f0
 obtain⟨G,I⟩:=Nm (u4.setCell ⟨bM,3,none⟩ (.string a3))
 have n8:=I.symm
 have s4:∀k,k≠bM->G.heap[k]? =u4.heap[k]?:=fun k c=>by rw[I];exact Below.heap_setCell _ _ _ _ c
 have M4:=Hp (show MB G bM q L P a3 (.slice none 0 0) (.slice none 0 0) (.slice none 0 0) from by unfold MB;rw[I,heap_setCell_same u4 bM 3 _ _ _ e4.out];rfl)
 have R4:=Hp (show Rd (w.heap.size+1) s5 G from(s4 _ (by omega)).trans h4)
 have B4:=Hp (show Boxed G (w.heap.size+1+1) 186 (.pointer (some ⟨w.heap.size+1,0,none⟩)) from(s4 _ (by omega)).trans n1.out)
 have j8:=Hp (show bM+1<=G.heap.size by have:=j9.out;rw[I];simpa using this)
 have N4:=Hp (show∀k,k<bM->k≠w.heap.size+1->G.heap[k]? =d.heap[k]?\/d.heap.size<=k from fun k c i=>by
  rw[s4 k (by omega),k8.out k c i];exact N3.out k c i)
 have O4:=Hp (show G.os=d.os/\G.tape=d.tape/\G.output=d.output from I▸⟨z.os.trans O3.out.1,z.tape.trans O3.out.2.1,z.output.trans O3.out.2.2⟩)
 have j2:=B4.cell
 clear h4 z I s4
 go_wp2_with fail
 have J1:I1 (w.heap.size+1) (w.heap.size+1+1) bM (bM+1) q a3 L P G [] s5 G:=⟨R4.out,i0.out,B4.out,⟨j8.out,fun _ _ _ _=>rfl,rfl,rfl,rfl⟩,.slice none 0 0,M4.out,ExpOwn.nil _ _⟩
 have t1:=Hp (QQ (by omega) (by omega) s5 G i0.out J1)
 rw[show dU gF (aI 1 s5).1.toNat (aI 1 s5).2=d5 l by rw[l8.out];rfl]at t1
 obtain⟨es,c8⟩:∃x,x=(d5 l).1:=⟨_,rfl⟩
 obtain⟨s6,a9⟩:∃x,x=(d5 l).2:=⟨_,rfl⟩
 rw[<-c8,<-a9]at t1
 have i1:=Hp c8
 have l7:=Hp a9
 clear c8 a9 J1
 refine(t1.out).mono ?_
 rintro e v5 ⟨⟨u5,rfl⟩,R5,c5,B5,K5,vE,M5,E5⟩
 have q5:=B5.cell
 have J2:I2 (w.heap.size+1) (w.heap.size+1+1) bM (bM+1) q a3 L P vE es G [] s6 v5:=⟨R5,c5,B5,K5,E5,_,M5,ImpOwn.nil _ _⟩
 have t2:=Hp (QV (by omega) (by omega) s6 v5 c5 J2)
 rw[show dU Ro (aI 1 s6).1.toNat (aI 1 s6).2=d6 l by rw[l7.out];rfl]at t2
 obtain⟨is,c7⟩:∃x,x=(d6 l).1:=⟨_,rfl⟩
 obtain⟨s7,a8⟩:∃x,x=(d6 l).2:=⟨_,rfl⟩
 rw[<-c7,<-a8]at t2
 have e9:=Hp c7
 have l6:=Hp a8
 clear c7 a8 J2 R5 c5 B5 K5 M5 E5 t1 j2
 go_wp2_with fail
 refine(t2.out).mono ?_
 rintro e v6 ⟨⟨u6,rfl⟩,R6,b9,B6,K6,E6,vI,M6,G6⟩
 have q6:=B6.cell
 have J3:I3 (w.heap.size+1) (w.heap.size+1+1) bM (bM+1) q a3 L P vE vI es is G [] s7 v6:=⟨R6,b9,B6,K6,E6,G6,_,M6,PatOwn.nil _ _⟩
 have t3:=Hp (QM (by omega) (by omega) s7 v6 b9 J3)
 rw[show dU fZ (aI 1 s7).1.toNat (aI 1 s7).2=d7 l by rw[l6.out];rfl]at t3
 obtain⟨ps,b2⟩:∃x,x=(d7 l).1:=⟨_,rfl⟩
 obtain⟨s8,a7⟩:∃x,x=(d7 l).2:=⟨_,rfl⟩
 rw[<-b2,<-a7]at t3
 have g9:=Hp b2
 have e8:=Hp a7
 clear b2 a7 J3 R6 b9 B6 K6 M6 E6 G6 t2 q5
 go_wp2_with fail
 refine(t3.out).mono ?_
 rintro e t ⟨⟨u7,rfl⟩,R7,j4,B7,K7,E7,G7,vP,M7,P7⟩
 have q7:=B7.cell
 obtain⟨e0,e1,_,_⟩:=R7.cells
 obtain⟨eA,eC,rfl,hE⟩:=E7.row
 obtain⟨iA,iC,rfl,hI⟩:=G7.row
 obtain⟨pA,pC,rfl,hP⟩:=P7.row
 --the block of the result
 have j:t.heap[w.heap.size]? =some (.cells #[.string ⟨#[]⟩,.int .i64 0,.int .i64 0,.string ⟨#[]⟩,.slice none 0 0,.slice none 0 0,.slice none 0 0] 70 (0,0)):=by
  rw[K7.low _ (by omega) (by omega) (by omega)]
  rcases N4.out w.heap.size (by omega) (by omega)with h|h
  ·rw[h];exact l3.out
  ·have:=ZW.out;omega
 have p:Below w.heap.size w t:=by
  refine⟨K7.os.1.trans (O4.out.1.trans H.os),K7.os.2.1.trans (O4.out.2.1.trans H.tape),K7.os.2.2.trans (O4.out.2.2.trans H.output),by have:=K7.size;omega,fun k c=>?_⟩
  rw[K7.low k (by omega) (by omega) (by omega)]
  rcases N4.out k (by omega) (by omega)with h|h
  ·rw[h];exact H.block k c
  ·have:=ZW.out;omega
 have j1:=heap_cell j 0
 have j0:=heap_cell j 1
 have i9:=heap_cell j 2
 have i8:=heap_cell j 3
 have i7:=heap_cell j 4
 have i6:=heap_cell j 5
 have i5:=heap_cell j 6
 have zf:=fun o=>heap_free j o
 have m0:=heap_cell (show t.heap[bM]? =_ from M7) 0
 have m1:=heap_cell (show t.heap[bM]? =_ from M7) 1
 have m2:=heap_cell (show t.heap[bM]? =_ from M7) 2
 have m3:=heap_cell (show t.heap[bM]? =_ from M7) 3
 have m4:=heap_cell (show t.heap[bM]? =_ from M7) 4
 have m5:=heap_cell (show t.heap[bM]? =_ from M7) 5
 have m6:=heap_cell (show t.heap[bM]? =_ from M7) 6
 simp only[GZ2,GZ1,GZ0]at j1 j0 i9 i8 i7 i6 i5 m0 m1 m2 m3 m4 m5 m6
 have a4:=Hp j
 have a5:=Hp p
 have a6:w.heap.size<t.heap.size:=by have:=K7.size;omega
 have o3:bM<t.heap.size:=by have:=K7.size;omega
 have T:=Hp E7
 have S:=Hp G7
 have R:=Hp P7
 have HQ:=Hp (show es.length<=big/\(∀x∈es,x.name.size<=big)/\is.length<=big/\(∀x∈is,x.mod.size<=big/\x.name.size<=big)/\ps.length<=big/\q.size<=big/\a3.size<=big by
  have hs:=i1.out
  have i:=jC gF (aI 1 (d4 l).2).1.toNat (aI 1 (d4 l).2).2
  have h2:=Ru (d4 l).2
  have h3:=jC Ro (aI 1 (d5 l).2).1.toNat (aI 1 (d5 l).2).2
  have h4:=Ru (d5 l).2
  have h5:=jC fZ (aI 1 (d6 l).2).1.toNat (aI 1 (d6 l).2).2
  have h6:=Ru (d6 l).2
  have g1:es.length<=255:=by rw[hs];show(dU gF _ _).1.length<=_;omega
  have g2:is.length<=255:=by rw[e9.out];show(dU Ro _ _).1.length<=_;omega
  have g3:ps.length<=255:=by rw[g9.out];show(dU fZ _ _).1.length<=_;omega
  have nb:∀st,(sof (nam st).1).size<=big:=fun st=>by rw[kH];have:=NS st;unfold big;omega
  refine⟨by unfold big;omega,?_,by unfold big;omega,?_,by unfold big;omega,?_,?_⟩
  ·rw[hs];exact Tq (Q:=fun x:Exp=>x.name.size<=big) (fun st=>nb st) _ _
  ·rw[e9.out];exact Tq (Q:=fun x:Imp=>x.mod.size<=big/\x.name.size<=big) (fun st=>⟨nb st,nb _⟩) _ _
  ·rw[i3.out];exact nb _
  ·rw[i2.out,kH]
   have h7:=Ia (d3 l).1.toNat (d3 l).2
   have h8:=(dZ 2 (d2 l).2 (by omega)).2
   change(d3 l).1<=65535 at h8
   show(txt _ _).1.length<=_
   unfold big;omega)
 clear hE hI hP
 clear R7 j4 B7 K7 M7 E7 G7 P7 t3 q6 j p
 cases s8 with
 |none=>
  simp only[Option.isNone_none]at e1
  have b:=Hp (show dO l=1 by unfold dO;rw[<-e8.out,if_pos (by simp)])
  clear e0 m0 m1 m2 m3 m4 m5 m6 T S R
  go_wp2_with fail
  obtain⟨hg,Y⟩:=set7 a4.out (.string ⟨#[]⟩) (.int .i64 0) (.int .i64 0) (.string ⟨#[]⟩) (.slice none 0 0) (.slice none 0 0) (.slice none 0 0)
  refine bodyPost_ret (results_cell_tmp rfl _ _ w.heap.size 70 _ (0,0) _ rfl hg Tryz.underlying70 rfl Tryz.iE) rfl ?_
  refine⟨⟨zeroMod,by rw[b.out];rfl,zero_ok _,dW _ _,by rw[oH (by rw[b.out];decide)];exact⟨rfl,rfl,rfl,rfl,rfl,rfl,rfl⟩⟩,a5.trans (Y.below (by omega))⟩
 |some r=>
  simp only[Option.isNone_some,left]at e1 e0
  by_cases hr:r=[]
  ·subst hr
   obtain⟨X,O⟩:∃X:Mod,X=⟨q,L,P,a3,es,is,ps,eA,eC,iA,iC,pA,pC⟩:=⟨_,rfl⟩
   have f7:X.ok t:=by
    rw[O]
    exact mk_ok T.out S.out R.out HQ.out
   have y:gI X (pQ l):=by
    rw[O]
    exact⟨i3.out,n0.out,m9.out,i2.out,i1.out,e9.out,g9.out⟩
   have cC:=Hp (oM X t f7)
   have b:=Hp (show aL X=dO l by unfold dO;rw[<-e8.out,if_neg (by simp)];exact y.err)
   have e7:=Hp y
   have h9:=Hp O
   have b3:X.v=.agg #[.string q,.int .i64 L,.int .i64 P,.string a3,.slice eA es.length eC,.slice iA is.length iC,.slice pA ps.length pC]:=by rw[O]
   have m7:=Hp b3
   rw[b3]at cC
   obtain⟨E,hE⟩:=Nm (aL X)
   rw[<-hE]at cC b
   clear O f7 y b3 hE
   by_cases t0:E=0
   ·subst t0
    go_wp2_with (go_at_call 113;refine(cC.out).mono ?_;rintro e w8 ⟨rfl,f⟩;obtain⟨j7,j6⟩:=aJ f)
    obtain⟨hg,Y⟩:=set7 ((f.block _ a6).trans a4.out) (.string q) (.int .i64 L) (.int .i64 P) (.string a3) (.slice eA es.length eC) (.slice iA is.length iC) (.slice pA ps.length pC)
    refine bodyPost_ret (results_cell_tmp rfl _ _ w.heap.size 70 _ (0,0) _ rfl hg Tryz.underlying70 rfl Tryz.iE) rfl ?_
    refine⟨⟨X,by rw[<-b.out,m7.out];rfl,?_,?_,?_⟩,a5.trans ((f.mono (by omega)).trans (Y.below (by have:=f.size;omega)))⟩
    ·have c:∀g,bM+1<=g->g<t.heap.size->_:=fun g i h2=>(Y.block g (by have:=f.size;omega) (by omega)).trans (f.block g h2)
     rw[h9.out]
     exact mk_ok (own_same T.out c) (own_same S.out c) (own_same R.out c) HQ.out
    ·have c:∀g,bM+1<=g->g<t.heap.size->_:=fun g i h2=>(Y.block g (by have:=f.size;omega) (by omega)).trans (f.block g h2)
     rw[h9.out]
     exact⟨RH (own_same T.out c) (by omega),RH (own_same S.out c) (by omega),RH (own_same R.out c) (by omega)⟩
    ·rw[show iD l=pQ l by unfold iD;rw[if_neg (by rw[<-b.out];decide)]]
     exact e7.out
   ·have o4:(E != 0)=true:=by simp[t0]
    have f8:dO l≠0:=by rw[<-b.out];exact t0
    have l9:=Hp f8
    clear t0 f8
    go_wp2_with (go_at_call 113;refine(cC.out).mono ?_;rintro e w8 ⟨rfl,f⟩;obtain⟨j7,j6⟩:=aJ f)
    obtain⟨hg,Y⟩:=set7 ((f.block _ a6).trans a4.out) (.string ⟨#[]⟩) (.int .i64 0) (.int .i64 0) (.string ⟨#[]⟩) (.slice none 0 0) (.slice none 0 0) (.slice none 0 0)
    refine bodyPost_ret (results_cell_tmp rfl _ _ w.heap.size 70 _ (0,0) _ rfl hg Tryz.underlying70 rfl Tryz.iE) rfl ?_
    exact⟨⟨zeroMod,by rw[<-b.out];rfl,zero_ok _,dW _ _,by rw[oH l9.out];exact⟨rfl,rfl,rfl,rfl,rfl,rfl,rfl⟩⟩,a5.trans ((f.mono (by omega)).trans (Y.below (by have:=f.size;omega)))⟩
  ·have o8:r.isEmpty=false:=by simp[hr]
   have b:=Hp (show dO l=1 by unfold dO;rw[<-e8.out,if_pos (by simp[hr])])
   clear m0 m1 m2 m3 m4 m5 m6 T S R hr
   go_wp2_with fail
   obtain⟨hg,Y⟩:=set7 a4.out (.string ⟨#[]⟩) (.int .i64 0) (.int .i64 0) (.string ⟨#[]⟩) (.slice none 0 0) (.slice none 0 0) (.slice none 0 0)
   refine bodyPost_ret (results_cell_tmp rfl _ _ w.heap.size 70 _ (0,0) _ rfl hg Tryz.underlying70 rfl Tryz.iE) rfl ?_
   refine⟨⟨zeroMod,by rw[b.out];rfl,zero_ok _,dW _ _,by rw[oH (by rw[b.out];decide)];exact⟨rfl,rfl,rfl,rfl,rfl,rfl,rfl⟩⟩,a5.trans (Y.below (by omega))⟩
end
section
open Go
open Go.RowKit Go.Lib
open Gs (Tx)
theorem Rt.keep {ts:List TypeId}{w a:World}{b:Nat}{f:Fl}{l:List ByteArray}(h:Rt w b f l)(d:Kp ts w a)(c:9 ∉ ts):Rt a b f l:=⟨own_kp h.own d c,h.cap,h.is⟩
end
end Go.Proofs.YtjiedaialianmaaGreat
