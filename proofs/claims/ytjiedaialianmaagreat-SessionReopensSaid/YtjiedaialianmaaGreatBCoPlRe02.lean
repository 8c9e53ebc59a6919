import Derived.Test.YtjiedaialianmaaGreatBCoPlRe01
set_option maxRecDepth 100000
set_option maxHeartbeats 8000000
namespace Go.Proofs.YtjiedaialianmaaGreat
open Go.RowKit
theorem Tk.same {T:Nat}{S:List UInt8}{st:Rest}{w w':World}(h:Tk T S st w)(e:w'.heap[T]? =w.heap[T]?):Tk T S st w':=by
 obtain⟨a,hh,h2⟩:=h
 exact⟨a,e.trans hh,h2⟩
theorem Tk.lt {T:Nat}{S:List UInt8}{st:Rest}{w:World}(h:Tk T S st w):T<w.heap.size:=by
 obtain⟨a,hh,_⟩:=h
 exact(ZL hh)
def LI1 (T:Nat)(S:List UInt8)(bM base:Nat)(nm tx:ByteArray)(mj mn:Int)(V:World)(xs:List Exp)(st:Rest)(W:World):Prop:=
 Tk T S st W/\xR base T bM V W/\∃v,MB W bM nm mj mn tx v (.slice none 0 0) (.slice none 0 0)/\ExpOwn W base v xs
def LI2 (T:Nat)(S:List UInt8)(bM base:Nat)(nm tx:ByteArray)(mj mn:Int)(vE:Value)(es:List Exp)(V:World)(xs:List Imp)(st:Rest)(W:World):Prop:=
 Tk T S st W/\xR base T bM V W/\ExpOwn W base vE es/\∃v,MB W bM nm mj mn tx vE v (.slice none 0 0)/\ImpOwn W base v xs
def LI3 (T:Nat)(S:List UInt8)(bM base:Nat)(nm tx:ByteArray)(mj mn:Int)(vE:Value)(es:List Exp)(vI:Value)(is:List Imp)(V:World)(xs:List Pat)(st:Rest)(W:World):Prop:=
 Tk T S st W/\xR base T bM V W/\ExpOwn W base vE es/\ImpOwn W base vI is/\∃v,MB W bM nm mj mn tx vE vI v/\PatOwn W base v xs
theorem wV (l:List UInt8)(w:World)(hl:l.length<=big):
  Calls Tryz.prog 145 #[.string (sof l)] w fun e w'=>(∃m:Mod,e=.returned (.tuple #[m.v,.int .i64 (dO l)])/\m.ok w'/\m.own w' w.heap.size/\gI m (iD l))/\Below w.heap.size w w':=by
 obtain⟨W0,hW0⟩:∃W,W=((w.alloc (.cells #[.string ⟨#[]⟩,.int .i64 0,.int .i64 0,.string ⟨#[]⟩,.slice none 0 0,.slice none 0 0,.slice none 0 0] 70)).alloc (.cells #[.string (sof l),.int .i64 0,.bool false] 244)).alloc (.cells #[.string ⟨#[]⟩,.int .i64 0,.int .i64 0,.string ⟨#[]⟩,.slice none 0 0,.slice none 0 0,.slice none 0 0] 70):=⟨_,rfl⟩
 have HW0:=Hp hW0.symm
 have zW:W0.heap.size=w.heap.size+1+1+1:=by subst hW0;simp
 have hRd:Tk (w.heap.size+1) l (some l) W0:=by
  subst hW0
  refine⟨0,?_,Nat.zero_le _,.inr rfl⟩
  rw[heap_alloc_old _ _ (by simp)]
  exact heap_alloc2_new w _ _
 have hMB:MB W0 (w.heap.size+1+1) ⟨#[]⟩ 0 0 ⟨#[]⟩ (.slice none 0 0) (.slice none 0 0) (.slice none 0 0):=by
  subst hW0
  have:=heap_alloc_new ((w.alloc (.cells #[.string ⟨#[]⟩,.int .i64 0,.int .i64 0,.string ⟨#[]⟩,.slice none 0 0,.slice none 0 0,.slice none 0 0] 70)).alloc (.cells #[.string (sof l),.int .i64 0,.bool false] 244)) (.cells #[.string ⟨#[]⟩,.int .i64 0,.int .i64 0,.string ⟨#[]⟩,.slice none 0 0,.slice none 0 0,.slice none 0 0] 70)
  simpa[MB]using this
 have hZ0:W0.heap[w.heap.size]? =some (.cells #[.string ⟨#[]⟩,.int .i64 0,.int .i64 0,.string ⟨#[]⟩,.slice none 0 0,.slice none 0 0,.slice none 0 0] 70 (0,0)):=by
  subst hW0
  rw[heap_alloc_old _ _ (by simp;omega),heap_alloc2_old]
 have hBel:Below w.heap.size w W0:=by
  subst hW0
  exact((ZB).alloc (by simp) _).alloc (by simp;omega) _
 have r3:=dZ 2 (d2 l).2 (by omega)
 change 0<=(d3 l).1/\(d3 l).1<=65535 at r3
 obtain⟨n,hn⟩:∃n:Nat,(d3 l).1=n:=⟨(d3 l).1.toNat,by omega⟩
 have c0:=Hp (fun W hW=>rE (w.heap.size+1) l (some l) W hW hl)
 change Hid (∀W,_->Calls _ _ _ W fun e w'=>e=.returned (.string (sof (d0 l).1))/\Tk _ _ (d0 l).2 w'/\_)at c0
 have c1:=Hp (fun W hW=>dQ (w.heap.size+1) l (d0 l).2 1 W hW hl (by omega) (by omega))
 change Hid (∀W,_->Calls _ _ #[_,.int .i64 1] W fun e w'=>e=.returned (.int .i64 (d1 l).1)/\Tk _ _ (d1 l).2 w'/\_)at c1
 have c2:=Hp (fun W hW=>dQ (w.heap.size+1) l (d1 l).2 1 W hW hl (by omega) (by omega))
 change Hid (∀W,_->Calls _ _ #[_,.int .i64 1] W fun e w'=>e=.returned (.int .i64 (d2 l).1)/\Tk _ _ (d2 l).2 w'/\_)at c2
 have c3:=Hp (fun W hW=>dQ (w.heap.size+1) l (d2 l).2 2 W hW hl (by omega) (by omega))
 change Hid (∀W,_->Calls _ _ #[_,.int .i64 2] W fun e w'=>e=.returned (.int .i64 (d3 l).1)/\Tk _ _ (d3 l).2 w'/\_)at c3
 have c4:=Hp (fun W hW=>AV (w.heap.size+1) l (d3 l).2 n W hW hl (by omega))
 have hn2:txt n (d3 l).2=d4 l:=by unfold d4;rw[hn];rfl
 rw[hn2]at c4
 rw[hn]at c3
 obtain⟨a0,ha0⟩:=Nm (sof (d0 l).1)
 obtain⟨a1,ha1⟩:∃a,a=(d1 l).1:=⟨_,rfl⟩
 obtain⟨a2,ha2⟩:∃a,a=(d2 l).1:=⟨_,rfl⟩
 obtain⟨a3,ha3⟩:=Nm (sof (d4 l).1)
 rw[<-ha0]at c0
 rw[<-ha1]at c1
 rw[<-ha2]at c2
 rw[<-ha3]at c4
 have HA0:=Hp ha0
 have HA1:=Hp ha1
 have HA2:=Hp ha2
 have HA3:=Hp ha3
 obtain⟨s1,hs1⟩:∃s,s=(d0 l).2:=⟨_,rfl⟩
 obtain⟨s2,hs2⟩:∃s,s=(d1 l).2:=⟨_,rfl⟩
 obtain⟨s3,hs3⟩:∃s,s=(d2 l).2:=⟨_,rfl⟩
 obtain⟨s4,hs4⟩:∃s,s=(d3 l).2:=⟨_,rfl⟩
 obtain⟨s5,hs5⟩:∃s,s=(d4 l).2:=⟨_,rfl⟩
 rw[<-hs1]at c0 c1
 rw[<-hs2]at c1 c2
 rw[<-hs3]at c2 c3
 rw[<-hs4]at c3 c4
 rw[<-hs5]at c4
 have HS5:=Hp hs5
 have HZ0:=Hp hZ0
 have HBEL:=Hp hBel
 have ZW:=Hp zW
 obtain⟨bM,hbM⟩:=Nm (w.heap.size+1+1)
 rw[<-hbM]at hMB
 have HBM:=Hp hbM
 have hTM:w.heap.size+1<bM:=by omega
 have RW:=Hp hRd
 have MW:=Hp hMB
 have ZVW:=Hp (show bM+1<=W0.heap.size by omega)
 have OW:=Hp (show W0.os=w.os/\W0.tape=w.tape/\W0.output=w.output from⟨HBEL.os,HBEL.tape,HBEL.output⟩)
 clear hW0 zW hRd hMB hZ0 hBel r3 hn hn2 ha0 ha1 ha2 ha3 hs1 hs2 hs3 hs4 hs5 hbM
 go_enter Tryz.func145,Tryz.ntmps145
 go_wp2_with fail
 rw[HW0.out,<-HBM.out]
 refine(c0.out _ RW.out).mono ?_
 rintro e u0 ⟨rfl,h0,ho0⟩
 have k0:=Hp (RW.kp ho0)
 have MU0:=Hp (show MB u0 bM ⟨#[]⟩ 0 0 ⟨#[]⟩ (.slice none 0 0) (.slice none 0 0) (.slice none 0 0) from k0.out _ _ _ _ MW.out (by decide))
 have ZU0:=Hp (GY1 ZVW ho0.size)
 have NU0:=Hp (show∀k,k<bM->k≠w.heap.size+1->u0.heap[k]? =W0.heap[k]? from fun k hk h1=>ho0.block k (by have:=ZVW.out;omega) h1)
 have p0_0:=heap_cell (show u0.heap[bM]? =_ from MU0.out) 0
 have p1_0:=heap_free (show u0.heap[bM]? =_ from MU0.out) 0
 simp only[GZ2,GZ0]at p0_0
 obtain⟨v0,hv0⟩:=Nm (u0.setCell ⟨bM,0,none⟩ (.string a0))
 have hv0':=hv0.symm
 have s0:∀k,k≠bM->v0.heap[k]? =u0.heap[k]?:=fun k hk=>by rw[hv0];exact Below.heap_setCell _ _ _ _ hk
 have M0:=Hp (show MB v0 bM a0 0 0 ⟨#[]⟩ (.slice none 0 0) (.slice none 0 0) (.slice none 0 0) from by unfold MB;rw[hv0,heap_setCell_same u0 bM 0 _ _ _ MU0.out];rfl)
 have R0:=Hp (h0.same (s0 _ (by omega)))
 have ZV0:=Hp (show bM+1<=v0.heap.size by have:=ZU0.out;rw[hv0];simpa using this)
 have N0:=Hp (show∀k,k<bM->k≠w.heap.size+1->v0.heap[k]? =W0.heap[k]? from fun k hk h1=>by
  rw[s0 k (by omega),NU0.out k hk h1])
 have O0:=Hp (show v0.os=w.os/\v0.tape=w.tape/\v0.output=w.output from hv0▸⟨ho0.os.trans OW.out.1,ho0.tape.trans OW.out.2.1,ho0.output.trans OW.out.2.2⟩)
 clear h0 ho0 hv0 s0
 go_wp2_with fail
 refine(c1.out _ R0.out).mono ?_
 rintro e u1 ⟨rfl,h1,ho1⟩
 have k1:=Hp (R0.kp ho1)
 have MU1:=Hp (show MB u1 bM a0 0 0 ⟨#[]⟩ (.slice none 0 0) (.slice none 0 0) (.slice none 0 0) from k1.out _ _ _ _ M0.out (by decide))
 have ZU1:=Hp (GY1 ZV0 ho1.size)
 have NU1:=Hp (show∀k,k<bM->k≠w.heap.size+1->u1.heap[k]? =v0.heap[k]? from fun k hk h1=>ho1.block k (by have:=ZV0.out;omega) h1)
 have p0_1:=heap_cell (show u1.heap[bM]? =_ from MU1.out) 1
 have p1_1:=heap_free (show u1.heap[bM]? =_ from MU1.out) 1
 simp only[GZ2,GZ1,GZ0]at p0_1
 obtain⟨v1,hv1⟩:=Nm (u1.setCell ⟨bM,1,none⟩ (.int .i64 a1))
 have hv1':=hv1.symm
 have s1:∀k,k≠bM->v1.heap[k]? =u1.heap[k]?:=fun k hk=>by rw[hv1];exact Below.heap_setCell _ _ _ _ hk
 have M1:=Hp (show MB v1 bM a0 a1 0 ⟨#[]⟩ (.slice none 0 0) (.slice none 0 0) (.slice none 0 0) from by unfold MB;rw[hv1,heap_setCell_same u1 bM 1 _ _ _ MU1.out];rfl)
 have R1:=Hp (h1.same (s1 _ (by omega)))
 have ZV1:=Hp (show bM+1<=v1.heap.size by have:=ZU1.out;rw[hv1];simpa using this)
 have N1:=Hp (show∀k,k<bM->k≠w.heap.size+1->v1.heap[k]? =W0.heap[k]? from fun k hk h1=>by
  rw[s1 k (by omega),NU1.out k hk h1];exact N0.out k hk h1)
 have O1:=Hp (show v1.os=w.os/\v1.tape=w.tape/\v1.output=w.output from hv1▸⟨ho1.os.trans O0.out.1,ho1.tape.trans O0.out.2.1,ho1.output.trans O0.out.2.2⟩)
 clear h1 ho1 hv1 s1
 go_wp2_with fail
 refine(c2.out _ R1.out).mono ?_
 rintro e u2 ⟨rfl,h2,ho2⟩
 have k2:=Hp (R1.kp ho2)
 have MU2:=Hp (show MB u2 bM a0 a1 0 ⟨#[]⟩ (.slice none 0 0) (.slice none 0 0) (.slice none 0 0) from k2.out _ _ _ _ M1.out (by decide))
 have ZU2:=Hp (GY1 ZV1 ho2.size)
 have NU2:=Hp (show∀k,k<bM->k≠w.heap.size+1->u2.heap[k]? =v1.heap[k]? from fun k hk h1=>ho2.block k (by have:=ZV1.out;omega) h1)
 have p0_2:=heap_cell (show u2.heap[bM]? =_ from MU2.out) 2
 have p1_2:=heap_free (show u2.heap[bM]? =_ from MU2.out) 2
 simp only[GZ2,GZ1,GZ0]at p0_2
 obtain⟨v2,hv2⟩:=Nm (u2.setCell ⟨bM,2,none⟩ (.int .i64 a2))
 have hv2':=hv2.symm
 have s2:∀k,k≠bM->v2.heap[k]? =u2.heap[k]?:=fun k hk=>by rw[hv2];exact Below.heap_setCell _ _ _ _ hk
 have M2:=Hp (show MB v2 bM a0 a1 a2 ⟨#[]⟩ (.slice none 0 0) (.slice none 0 0) (.slice none 0 0) from by unfold MB;rw[hv2,heap_setCell_same u2 bM 2 _ _ _ MU2.out];rfl)
 have R2:=Hp (h2.same (s2 _ (by omega)))
 have ZV2:=Hp (show bM+1<=v2.heap.size by have:=ZU2.out;rw[hv2];simpa using this)
 have N2:=Hp (show∀k,k<bM->k≠w.heap.size+1->v2.heap[k]? =W0.heap[k]? from fun k hk h1=>by
  rw[s2 k (by omega),NU2.out k hk h1];exact N1.out k hk h1)
 have O2:=Hp (show v2.os=w.os/\v2.tape=w.tape/\v2.output=w.output from hv2▸⟨ho2.os.trans O1.out.1,ho2.tape.trans O1.out.2.1,ho2.output.trans O1.out.2.2⟩)
 clear h2 ho2 hv2 s2
 go_wp2_with fail
 refine(c3.out _ R2.out).mono ?_
 rintro e u3 ⟨rfl,h3,ho3⟩
 have k3:=Hp (R2.kp ho3)
 have MU3:=Hp (show MB u3 bM a0 a1 a2 ⟨#[]⟩ (.slice none 0 0) (.slice none 0 0) (.slice none 0 0) from k3.out _ _ _ _ M2.out (by decide))
 have ZU3:=Hp (GY1 ZV2 ho3.size)
 have NU3:=Hp (show∀k,k<bM->k≠w.heap.size+1->u3.heap[k]? =v2.heap[k]? from fun k hk h1=>ho3.block k (by have:=ZV2.out;omega) h1)
 obtain⟨v3,hv3⟩:=Nm u3
 subst hv3
 have M3:=MU3
 have R3:=Hp h3
 have ZV3:=ZU3
 have N3:=Hp (show∀k,k<bM->k≠w.heap.size+1->v3.heap[k]? =W0.heap[k]? from fun k hk h1=>by
  rw[NU3.out k hk h1];exact N2.out k hk h1)
 have O3:=Hp (show v3.os=w.os/\v3.tape=w.tape/\v3.output=w.output from⟨ho3.os.trans O2.out.1,ho3.tape.trans O2.out.2.1,ho3.output.trans O2.out.2.2⟩)
 clear h3 ho3
 go_wp2_with fail
 refine(c4.out _ R3.out).mono ?_
 rintro e u4 ⟨rfl,h4,ho4⟩
 have k4:=Hp (R3.kp ho4)
 have MU4:=Hp (show MB u4 bM a0 a1 a2 ⟨#[]⟩ (.slice none 0 0) (.slice none 0 0) (.slice none 0 0) from k4.out _ _ _ _ M3.out (by decide))
 have ZU4:=Hp (GY1 ZV3 ho4.size)
 have NU4:=Hp (show∀k,k<bM->k≠w.heap.size+1->u4.heap[k]? =v3.heap[k]? from fun k hk h1=>ho4.block k (by have:=ZV3.out;omega) h1)
 have p0_4:=heap_cell (show u4.heap[bM]? =_ from MU4.out) 3
 have p1_4:=heap_free (show u4.heap[bM]? =_ from MU4.out) 3
 simp only[GZ2,GZ1,GZ0]at p0_4
 obtain⟨v4,hv4⟩:=Nm (u4.setCell ⟨bM,3,none⟩ (.string a3))
 have hv4':=hv4.symm
 have s4:∀k,k≠bM->v4.heap[k]? =u4.heap[k]?:=fun k hk=>by rw[hv4];exact Below.heap_setCell _ _ _ _ hk
 have M4:=Hp (show MB v4 bM a0 a1 a2 a3 (.slice none 0 0) (.slice none 0 0) (.slice none 0 0) from by unfold MB;rw[hv4,heap_setCell_same u4 bM 3 _ _ _ MU4.out];rfl)
 have R4:=Hp (h4.same (s4 _ (by omega)))
 have ZV4:=Hp (show bM+1<=v4.heap.size by have:=ZU4.out;rw[hv4];simpa using this)
 have N4:=Hp (show∀k,k<bM->k≠w.heap.size+1->v4.heap[k]? =W0.heap[k]? from fun k hk h1=>by
  rw[s4 k (by omega),NU4.out k hk h1];exact N3.out k hk h1)
 have O4:=Hp (show v4.os=w.os/\v4.tape=w.tape/\v4.output=w.output from hv4▸⟨ho4.os.trans O3.out.1,ho4.tape.trans O3.out.2.1,ho4.output.trans O3.out.2.2⟩)
 clear h4 ho4 hv4 s4
 go_wp2_with fail
 have R1w:=R4
 have M1w:=M4
 have L1w:=Hp (show xR (bM+1) (w.heap.size+1) bM v4 v4 from⟨ZV4.out,fun _ _ _ _=>rfl,rfl,rfl,rfl⟩)
 clear R0 M0 ZV0 N0 O0 R1 M1 ZV1 N1 O1 R2 M2 ZV2 N2 O2 R3 M3 ZV3 N3 O3 c0 c1 c2 c3 c4 MW RW
 have r1:=dZ 1 s5 (by omega)
 have ro1:=Ru s5
 obtain⟨c1,hc1⟩:∃c:Nat,(aI 1 s5).1=c:=⟨(aI 1 s5).1.toNat,by omega⟩
 rw[hc1]at r1 ro1
 obtain⟨z1,hz1⟩:∃z,z=(aI 1 s5).2:=⟨_,rfl⟩
 obtain⟨T1,hT1⟩:=Nm (dU gF c1 z1)
 have HT1:=Hp hT1
 have HD1:=Hp (show T1=d5 l by
  have h1:(aI 1 s5).1.toNat=c1:=by omega
  rw[hT1,hz1,<-h1,HS5.out]
  rfl)
 have n1:=Hp (fun W hW=>dQ (w.heap.size+1) l s5 1 W hW hl (by omega) (by omega))
 change Hid (∀W,_->Calls _ _ #[_,.int .i64 1] W fun e w'=>e=.returned (.int .i64 (aI 1 s5).1)/\Tk _ _ (aI 1 s5).2 w'/\_)at n1
 rw[hc1,<-hz1]at n1
 clear hc1 hz1 hT1 r1
 refine(n1.out _ R1w.out).mono ?_
 rintro e b1 ⟨rfl,hR,ho⟩
 have kp1:=Hp (R1w.kp ho)
 have J1:=Hp (show LI1 (w.heap.size+1) l bM (bM+1) a0 a3 a1 a2 v4 [] z1 b1 from⟨hR,L1w.only ho,.slice none 0 0,kp1.out _ _ _ _ M1w.out (by decide),ExpOwn.nil _ _⟩)
 clear hR ho n1
 go_upto_block 0 with fail
 go_cut [7,8] from 27 to 46 (fun _ _ wx=>LI1 (w.heap.size+1) l bM (bM+1) a0 a3 a1 a2 v4 T1.1 T1.2 wx)
 case first=>
  go_wp2_with fail
  go_loopw [7] (fun i wr=>∃(j:Nat)(xs:List Exp)(st:Rest),i=.int .i64 j/\j<=c1/\xs.length<=j/\LI1 (w.heap.size+1) l bM (bM+1) a0 a3 a1 a2 v4 xs st wr/\xs++(dU gF (c1 -j) st).1=T1.1/\(dU gF (c1 -j) st).2=T1.2) (fun i _=>c1 -(intOf i).toNat)
  case atStart=>exact⟨0,[],_,rfl,by omega,GZ3 _,J1.out,by rw[HT1.out];rfl,by rw[HT1.out];rfl⟩
  case round=>
   obtain⟨j,xs,st,rfl,hj,hxj,hI,e1,e2⟩:=hrel
   have HI:=Hp hI
   obtain⟨⟨at_,hh,_⟩,_⟩:=hI
   have t1:=heap_cell hh 1
   have t2:=heap_cell hh 2
   simp only[GZ2,GZ1,GZ0]at t1 t2
   clear hh
   by_cases hjc:j=c1
   ·have E1:=Hp (show xs=T1.1 by rw[<-e1,hjc];simp[dU])
    have E2:=Hp (show st=T1.2 by rw[<-e2,hjc];simp[dU])
    have hlt:¬(j<c1):=by omega
    clear e1 e2 hjc
    go_wp2_with fail
    go_meet
    rw[<-E1.out,<-E2.out]
    exact HI.out
   ·have hlt:(j:Int)<c1:=by omega
    cases st with
    |none=>
     obtain⟨k,hk⟩:∃k,c1 -j=k+1:=⟨c1 -j -1,by omega⟩
     have E1:=Hp (show xs=T1.1 by rw[<-e1,hk,SX];simp)
     have E2:=Hp (show none=T1.2 by rw[<-e2,hk,SX])
     simp only[Option.isNone_none]at t2
     clear e1 e2 hk hjc
     go_wp2_with fail
     go_meet
     rw[<-E1.out,<-E2.out]
     exact HI.out
    |some s=>
     simp only[Option.isNone_some]at t2
     rw[show c1 -j=(c1 -(j+1))+1 by omega,UA]at e1 e2
     have E1:=Hp (show(xs++[(gF (some s)).1])++(dU gF (c1 -(j+1)) (gF (some s)).2).1=T1.1 by rw[<-e1];simp)
     have E2:=Hp e2
     have HJ:=Hp (show j+1<=c1 by omega)
     have HXJ:=Hp hxj
     have hxb:xs.length<=255:=by omega
     obtain⟨hR,hL,vE,hM,hO⟩:=HI.out
     have R:=Hp hR
     have LK:=Hp hL
     have M:=Hp hM
     have EE:=Hp hO
     clear e1 e2 hjc hR hL hM hO hxj HI
     have g0:=Hp (fun W hW=>rE (w.heap.size+1) l (some s) W hW hl)
     have g1:=Hp (fun W hW=>dQ (w.heap.size+1) l (nam (some s)).2 2 W hW hl (by omega) (by omega))
     change Hid (∀W,_->Calls _ _ #[_,.int .i64 2] W _)at g1
     have hx:gF (some s)=(⟨sof (nam (some s)).1,(aI 2 (nam (some s)).2).1⟩,(aI 2 (nam (some s)).2).2):=rfl
     obtain⟨r1,hq1⟩:∃a,a=(aI 2 (nam (some s)).2).1:=⟨_,rfl⟩
     rw[<-hq1]at g1 hx
     obtain⟨t2,ht2⟩:∃x,x=(aI 2 (nam (some s)).2).2:=⟨_,rfl⟩
     rw[<-ht2]at g1 hx
     obtain⟨r0,hq0⟩:=Nm (sof (nam (some s)).1)
     rw[<-hq0]at g0 hx
     obtain⟨t1,ht1⟩:∃x,x=(nam (some s)).2:=⟨_,rfl⟩
     rw[<-ht1]at g0 g1
     have HX:=Hp hx
     clear hx hq0 ht1 hq1 ht2
     obtain⟨p0,hp0⟩:=Nm (wr.alloc (.cells #[.string ⟨#[]⟩,.int .i64 0] 159))
     have HP0:=Hp hp0.symm
     have b0:∀k,k<wr.heap.size->p0.heap[k]? =wr.heap[k]?:=fun k hk=>hp0▸heap_alloc_old wr _ hk
     have X0:=Hp (show p0.heap[wr.heap.size]? =some (.cells #[.string ⟨#[]⟩,.int .i64 0] 159 (0,0)) from hp0▸heap_alloc_new _ _)
     have K0:=Hp (show Kp [244,159] wr p0 from hp0▸(Kp.refl _ wr).alloc _)
     have R0':=Hp (R.same (b0 _ R.lt))
     have E0':=Hp (show ExpOwn p0 (bM+1) vE xs from hp0▸EE.out.alloc _)
     have HEN:=Hp (show vE.ownBlock≠some wr.heap.size from fun h=>by have:=EE.lt _ h;omega)
     have zp0:wr.heap.size<p0.heap.size:=(ZL X0.out)
     have hbx:bM+1<=wr.heap.size:=LK.size
     have F0:=Hp (show∀k,k<bM+1->k≠w.heap.size+1->p0.heap[k]? =wr.heap[k]? from fun k hk _=>b0 k (by omega))
     have Y0:=Hp (show p0.os=wr.os/\p0.tape=wr.tape/\p0.output=wr.output from hp0▸⟨rfl,rfl,rfl⟩)
     clear hp0 b0
     go_wp2_with fail
     rw[HP0.out]
     refine(g0.out _ R0'.out).mono ?_
     rintro e n0 ⟨rfl,h0,ho0⟩
     have kk0:=Hp (R0'.kp ho0)
     have zu0:=ho0.size
     have XU0:=Hp (kk0.out _ _ _ _ X0.out (by decide))
     have EU0:=Hp (show ExpOwn n0 (bM+1) vE xs from own_kp E0'.out kk0.out (by decide))
     have c0_0:=heap_cell XU0.out 0
     have c1_0:=heap_free XU0.out 0
     simp only[GZ2,GZ0]at c0_0
     obtain⟨p1,hp0⟩:=Nm (n0.setCell ⟨wr.heap.size,0,none⟩ (.string r0))
     have hp0':=hp0.symm
     have zz0:p1.heap.size=n0.heap.size:=by subst hp0;simp
     have sx0:∀k,k≠wr.heap.size->p1.heap[k]? =n0.heap[k]?:=fun k hk=>by rw[hp0];exact Below.heap_setCell _ _ _ _ hk
     have X1:=Hp (show p1.heap[wr.heap.size]? =some (.cells #[.string r0,.int .i64 0] 159 (0,0)) from by rw[hp0,heap_setCell_same n0 _ 0 _ _ _ XU0.out];rfl)
     have KK0:Kp [244,159] n0 p1:=hp0▸Kp.set XU0.out (by simp) 0 _
     have K1:=Hp (show Kp [244,159] wr p1 from(K0.trans (kk0.mono (by simp))).trans KK0)
     have R1':=Hp (h0.same (sx0 _ (by have:=R.lt;omega)))
     have E1':=Hp (show ExpOwn p1 (bM+1) vE xs from hp0▸ownsRow_setCell_other EU0.out HEN.out _)
     have F1:=Hp (show∀k,k<bM+1->k≠w.heap.size+1->p1.heap[k]? =wr.heap[k]? from fun k hk h1=>(sx0 k (by omega)).trans ((ho0.block k (by omega) h1).trans (F0.out k hk h1)))
     have Y1:=Hp (show p1.os=wr.os/\p1.tape=wr.tape/\p1.output=wr.output from hp0▸⟨ho0.os.trans Y0.out.1,ho0.tape.trans Y0.out.2.1,ho0.output.trans Y0.out.2.2⟩)
     have zp1:wr.heap.size<p1.heap.size:=by omega
     clear h0 ho0 hp0 sx0 zz0 KK0
     go_wp2_with fail
     refine(g1.out _ R1'.out).mono ?_
     rintro e n1 ⟨rfl,h1,ho1⟩
     have kk1:=Hp (R1'.kp ho1)
     have zu1:=ho1.size
     have XU1:=Hp (kk1.out _ _ _ _ X1.out (by decide))
     have EU1:=Hp (show ExpOwn n1 (bM+1) vE xs from own_kp E1'.out kk1.out (by decide))
     have c0_1:=heap_cell XU1.out 1
     have c1_1:=heap_free XU1.out 1
     simp only[GZ2,GZ1,GZ0]at c0_1
     obtain⟨p2,hp1⟩:=Nm (n1.setCell ⟨wr.heap.size,1,none⟩ (.int .i64 r1))
     have hp1':=hp1.symm
     have zz1:p2.heap.size=n1.heap.size:=by subst hp1;simp
     have sx1:∀k,k≠wr.heap.size->p2.heap[k]? =n1.heap[k]?:=fun k hk=>by rw[hp1];exact Below.heap_setCell _ _ _ _ hk
     have X2:=Hp (show p2.heap[wr.heap.size]? =some (.cells #[.string r0,.int .i64 r1] 159 (0,0)) from by rw[hp1,heap_setCell_same n1 _ 1 _ _ _ XU1.out];rfl)
     have KK1:Kp [244,159] n1 p2:=hp1▸Kp.set XU1.out (by simp) 1 _
     have K2:=Hp (show Kp [244,159] wr p2 from(K1.trans (kk1.mono (by simp))).trans KK1)
     have R2':=Hp (h1.same (sx1 _ (by have:=R.lt;omega)))
     have E2':=Hp (show ExpOwn p2 (bM+1) vE xs from hp1▸ownsRow_setCell_other EU1.out HEN.out _)
     have F2:=Hp (show∀k,k<bM+1->k≠w.heap.size+1->p2.heap[k]? =wr.heap[k]? from fun k hk h1=>(sx1 k (by omega)).trans ((ho1.block k (by omega) h1).trans (F1.out k hk h1)))
     have Y2:=Hp (show p2.os=wr.os/\p2.tape=wr.tape/\p2.output=wr.output from hp1▸⟨ho1.os.trans Y1.out.1,ho1.tape.trans Y1.out.2.1,ho1.output.trans Y1.out.2.2⟩)
     have zp2:wr.heap.size<p2.heap.size:=by omega
     clear h1 ho1 hp1 sx1 zz1 KK1
     have MM:=Hp (show MB p2 bM a0 a1 a2 a3 vE (.slice none 0 0) (.slice none 0 0) from K2.out _ _ _ _ M.out (by decide))
     have m4:=heap_cell (show p2.heap[bM]? =_ from MM.out) 4
     have x0:=heap_cell X2.out 0
     have x1:=heap_cell X2.out 1
     simp only[GZ2,GZ1,GZ0]at m4 x0 x1
     have hb5:bM+1<=p2.heap.size:=by omega
     go_wp2_with (at_builtin;refine append_Exp p2 rfl _ _ rfl (bM+1) vE xs ⟨r0,r1⟩ rfl rfl E2'.out (by omega) (by omega) ?_;intro v' w7 hown7 hg7;have HOWN:=Hp hown7;obtain⟨g,cap,rfl⟩:=ownsRow_succ (show w7.ownsRow (bM+1) _ 2 v' (xs.length+1) _ by have h:=hown7;unfold ExpOwn at h;simpa using h);have HG:=Hp hg7;have hne:some bM≠vE.ownBlock:=(fun h=>by have:=(E2'.lt bM h.symm).1;omega);have M7:=Hp (show MB w7 bM a0 a1 a2 a3 vE (.slice none 0 0) (.slice none 0 0) from(hg7.block bM (by simp;omega) hne).trans ((heap_alloc_old p2 _ (by omega)).trans MM.out));have p7:=heap_cell (show w7.heap[bM]? =_ from M7.out) 4;have f7:=heap_free (show w7.heap[bM]? =_ from M7.out) 4;simp only[GZ2,GZ1,GZ0]at p7;clear hown7 hg7 hne)
     have KX:=Hp (show Kp [244,70,159] wr w7 from((K2.alloc _).trans (Kp.grown (ts:=[244,159]) HG.out (fun g hg=>by
      obtain⟨c',fz,h⟩:=own_kind (E2'.alloc (.cells #[.string r0,.int .i64 r1] 159)) g hg
      exact⟨_,_,_,h,by simp⟩))).mono (by simp))
     have BX:=Hp (fun k(hk:k<bM+1)=>(HG.block k (by simp;omega) (fun h=>by have:=(E2'.lt k h.symm).1;omega)).trans (heap_alloc_old p2 (.cells #[.string r0,.int .i64 r1] 159) (show k<p2.heap.size by omega)))
     have SZ:=HG.size
     go_roundw
     case rel=>
      refine⟨j+1,xs++[⟨r0,r1⟩],t2,by go_num,HJ.out,by rw[GZ8];have:=HXJ.out;simp;omega,⟨?_,?_,.slice (some ⟨g,0,none⟩) (xs.length+1) cap,?_,?_⟩,by have h:=E1.out;rw[HX.out]at h;exact h,by have h:=E2.out;rw[HX.out]at h;exact h⟩
      ·exact R2'.same ((Below.heap_setCell _ _ _ _ (Nat.ne_of_lt hTM)).trans (BX.out _ (by omega)))
      ·refine LK.step ?_ (fun k h1 h2 h3=>(Below.heap_setCell _ _ _ _ h3).trans ((BX.out k h1).trans (F2.out k h1 h2))) ⟨HG.os.trans Y2.out.1,HG.tape.trans Y2.out.2.1,HG.output.trans Y2.out.2.2⟩
       simp at SZ ⊢
       omega
      ·unfold MB
       rw[heap_setCell_same w7 bM 4 _ _ _ M7.out]
       rfl
      ·exact ownsRow_setCell_below (a:=⟨bM,4,none⟩) HOWN.out (Nat.lt_succ_self bM) _
     case measure=>(have:=HJ.out;simp[intOf];try omega)
 case rest=>
  obtain⟨x2,rfl⟩:=Nm wc
  obtain⟨hR',hL',vE,hM',hO'⟩:=hcut
  obtain⟨es,hxs⟩:=Nm T1.1
  obtain⟨s6,hss⟩:=Nm T1.2
  rw[<-hxs]at hO'
  rw[<-hss]at hR'
  have HX1:=Hp (show es=(d5 l).1 by rw[hxs,HD1.out])
  have HS6:=Hp (show s6=(d5 l).2 by rw[hss,HD1.out])
  have R2w:=Hp hR'
  have L2w:=Hp hL'
  have M2w:=Hp hM'
  have OE2:=Hp hO'
  clear hxs hss hR' hL' hM' hO' J1 kp1
  go_wp2_with fail
  have r2:=dZ 1 s6 (by omega)
  have ro2:=Ru s6
  obtain⟨c2,hc2⟩:∃c:Nat,(aI 1 s6).1=c:=⟨(aI 1 s6).1.toNat,by omega⟩
  rw[hc2]at r2 ro2
  obtain⟨z2,hz2⟩:∃z,z=(aI 1 s6).2:=⟨_,rfl⟩
  obtain⟨T2,hT2⟩:=Nm (dU Ro c2 z2)
  have HT2:=Hp hT2
  have HD2:=Hp (show T2=d6 l by
   have h1:(aI 1 s6).1.toNat=c2:=by omega
   rw[hT2,hz2,<-h1,HS6.out]
   rfl)
  have n2:=Hp (fun W hW=>dQ (w.heap.size+1) l s6 1 W hW hl (by omega) (by omega))
  change Hid (∀W,_->Calls _ _ #[_,.int .i64 1] W fun e w'=>e=.returned (.int .i64 (aI 1 s6).1)/\Tk _ _ (aI 1 s6).2 w'/\_)at n2
  rw[hc2,<-hz2]at n2
  clear hc2 hz2 hT2 r2
  refine(n2.out _ R2w.out).mono ?_
  rintro e b2 ⟨rfl,hR,ho⟩
  have kp2:=Hp (R2w.kp ho)
  have J2:=Hp (show LI2 (w.heap.size+1) l bM (bM+1) a0 a3 a1 a2 vE es v4 [] z2 b2 from⟨hR,L2w.only ho,own_kp OE2.out kp2.out (by decide),.slice none 0 0,kp2.out _ _ _ _ M2w.out (by decide),ImpOwn.nil _ _⟩)
  clear hR ho n2
  go_upto_block 2 with fail
  go_cut [9,10] from 48 to 71 (fun _ _ wx=>LI2 (w.heap.size+1) l bM (bM+1) a0 a3 a1 a2 vE es v4 T2.1 T2.2 wx)
  case first=>
   go_wp2_with fail
   go_loopw [9] (fun i wr=>∃(j:Nat)(xs:List Imp)(st:Rest),i=.int .i64 j/\j<=c2/\xs.length<=j/\LI2 (w.heap.size+1) l bM (bM+1) a0 a3 a1 a2 vE es v4 xs st wr/\xs++(dU Ro (c2 -j) st).1=T2.1/\(dU Ro (c2 -j) st).2=T2.2) (fun i _=>c2 -(intOf i).toNat)
   case atStart=>exact⟨0,[],_,rfl,by omega,GZ3 _,J2.out,by rw[HT2.out];rfl,by rw[HT2.out];rfl⟩
   case round=>
    obtain⟨j,xs,st,rfl,hj,hxj,hI,e1,e2⟩:=hrel
    have HI:=Hp hI
    obtain⟨⟨at_,hh,_⟩,_⟩:=hI
    have t1:=heap_cell hh 1
    have t2:=heap_cell hh 2
    simp only[GZ2,GZ1,GZ0]at t1 t2
    clear hh
    by_cases hjc:j=c2
    ·have E1:=Hp (show xs=T2.1 by rw[<-e1,hjc];simp[dU])
     have E2:=Hp (show st=T2.2 by rw[<-e2,hjc];simp[dU])
     have hlt:¬(j<c2):=by omega
     clear e1 e2 hjc
     go_wp2_with fail
     go_meet
     rw[<-E1.out,<-E2.out]
     exact HI.out
    ·have hlt:(j:Int)<c2:=by omega
     cases st with
     |none=>
      obtain⟨k,hk⟩:∃k,c2 -j=k+1:=⟨c2 -j -1,by omega⟩
      have E1:=Hp (show xs=T2.1 by rw[<-e1,hk,SX];simp)
      have E2:=Hp (show none=T2.2 by rw[<-e2,hk,SX])
      simp only[Option.isNone_none]at t2
      clear e1 e2 hk hjc
      go_wp2_with fail
      go_meet
      rw[<-E1.out,<-E2.out]
      exact HI.out
     |some s=>
      simp only[Option.isNone_some]at t2
      rw[show c2 -j=(c2 -(j+1))+1 by omega,UA]at e1 e2
      have E1:=Hp (show(xs++[(Ro (some s)).1])++(dU Ro (c2 -(j+1)) (Ro (some s)).2).1=T2.1 by rw[<-e1];simp)
      have E2:=Hp e2
      have HJ:=Hp (show j+1<=c2 by omega)
      have HXJ:=Hp hxj
      have hxb:xs.length<=255:=by omega
      obtain⟨hR,hL,o0,vI,hM,hO⟩:=HI.out
      have R:=Hp hR
      have LK:=Hp hL
      have M:=Hp hM
      have EE:=Hp hO
      have PO0:=Hp o0
      clear e1 e2 hjc hR hL hM hO hxj HI o0
      have g0:=Hp (fun W hW=>rE (w.heap.size+1) l (some s) W hW hl)
      have g1:=Hp (fun W hW=>rE (w.heap.size+1) l (nam (some s)).2 W hW hl)
      have g2:=Hp (fun W hW=>dQ (w.heap.size+1) l (nam (nam (some s)).2).2 1 W hW hl (by omega) (by omega))
      change Hid (∀W,_->Calls _ _ #[_,.int .i64 1] W _)at g2
      have g3:=Hp (fun W hW=>dQ (w.heap.size+1) l (aI 1 (nam (nam (some s)).2).2).2 1 W hW hl (by omega) (by omega))
      change Hid (∀W,_->Calls _ _ #[_,.int .i64 1] W _)at g3
      have hx:Ro (some s)=(⟨sof (nam (some s)).1,sof (nam (nam (some s)).2).1,(aI 1 (nam (nam (some s)).2).2).1,(aI 1 (aI 1 (nam (nam (some s)).2).2).2).1⟩,(aI 1 (aI 1 (nam (nam (some s)).2).2).2).2):=rfl
      obtain⟨r3,hq3⟩:∃a,a=(aI 1 (aI 1 (nam (nam (some s)).2).2).2).1:=⟨_,rfl⟩
      rw[<-hq3]at g3 hx
      obtain⟨t4,ht4⟩:∃x,x=(aI 1 (aI 1 (nam (nam (some s)).2).2).2).2:=⟨_,rfl⟩
      rw[<-ht4]at g3 hx
      obtain⟨r2,hq2⟩:∃a,a=(aI 1 (nam (nam (some s)).2).2).1:=⟨_,rfl⟩
      rw[<-hq2]at g2 hx
      obtain⟨t3,ht3⟩:∃x,x=(aI 1 (nam (nam (some s)).2).2).2:=⟨_,rfl⟩
      rw[<-ht3]at g2 g3
      obtain⟨r1,hq1⟩:=Nm (sof (nam (nam (some s)).2).1)
      rw[<-hq1]at g1 hx
      obtain⟨t2,ht2⟩:∃x,x=(nam (nam (some s)).2).2:=⟨_,rfl⟩
      rw[<-ht2]at g1 g2
      obtain⟨r0,hq0⟩:=Nm (sof (nam (some s)).1)
      rw[<-hq0]at g0 hx
      obtain⟨t1,ht1⟩:∃x,x=(nam (some s)).2:=⟨_,rfl⟩
      rw[<-ht1]at g0 g1
      have HX:=Hp hx
      clear hx hq0 ht1 hq1 ht2 hq2 ht3 hq3 ht4
      obtain⟨p0,hp0⟩:=Nm (wr.alloc (.cells #[.string ⟨#[]⟩,.string ⟨#[]⟩,.int .i64 0,.int .i64 0] 173))
      have HP0:=Hp hp0.symm
      have b0:∀k,k<wr.heap.size->p0.heap[k]? =wr.heap[k]?:=fun k hk=>hp0▸heap_alloc_old wr _ hk
      have X0:=Hp (show p0.heap[wr.heap.size]? =some (.cells #[.string ⟨#[]⟩,.string ⟨#[]⟩,.int .i64 0,.int .i64 0] 173 (0,0)) from hp0▸heap_alloc_new _ _)
      have K0:=Hp (show Kp [244,173] wr p0 from hp0▸(Kp.refl _ wr).alloc _)
      have R0':=Hp (R.same (b0 _ R.lt))
      have E0':=Hp (show ImpOwn p0 (bM+1) vI xs from hp0▸EE.out.alloc _)
      have HEN:=Hp (show vI.ownBlock≠some wr.heap.size from fun h=>by have:=EE.lt _ h;omega)
      have zp0:wr.heap.size<p0.heap.size:=(ZL X0.out)
      have hbx:bM+1<=wr.heap.size:=LK.size
      have F0:=Hp (show∀k,k<bM+1->k≠w.heap.size+1->p0.heap[k]? =wr.heap[k]? from fun k hk _=>b0 k (by omega))
      have Y0:=Hp (show p0.os=wr.os/\p0.tape=wr.tape/\p0.output=wr.output from hp0▸⟨rfl,rfl,rfl⟩)
      clear hp0 b0
      go_wp2_with fail
      rw[HP0.out]
      refine(g0.out _ R0'.out).mono ?_
      rintro e n0 ⟨rfl,h0,ho0⟩
      have kk0:=Hp (R0'.kp ho0)
      have zu0:=ho0.size
      have XU0:=Hp (kk0.out _ _ _ _ X0.out (by decide))
      have EU0:=Hp (show ImpOwn n0 (bM+1) vI xs from own_kp E0'.out kk0.out (by decide))
      have c0_0:=heap_cell XU0.out 0
      have c1_0:=heap_free XU0.out 0
      simp only[GZ2,GZ0]at c0_0
      obtain⟨p1,hp0⟩:=Nm (n0.setCell ⟨wr.heap.size,0,none⟩ (.string r0))
      have hp0':=hp0.symm
      have zz0:p1.heap.size=n0.heap.size:=by subst hp0;simp
      have sx0:∀k,k≠wr.heap.size->p1.heap[k]? =n0.heap[k]?:=fun k hk=>by rw[hp0];exact Below.heap_setCell _ _ _ _ hk
      have X1:=Hp (show p1.heap[wr.heap.size]? =some (.cells #[.string r0,.string ⟨#[]⟩,.int .i64 0,.int .i64 0] 173 (0,0)) from by rw[hp0,heap_setCell_same n0 _ 0 _ _ _ XU0.out];rfl)
      have KK0:Kp [244,173] n0 p1:=hp0▸Kp.set XU0.out (by simp) 0 _
      have K1:=Hp (show Kp [244,173] wr p1 from(K0.trans (kk0.mono (by simp))).trans KK0)
      have R1':=Hp (h0.same (sx0 _ (by have:=R.lt;omega)))
      have E1':=Hp (show ImpOwn p1 (bM+1) vI xs from hp0▸ownsRow_setCell_other EU0.out HEN.out _)
      have F1:=Hp (show∀k,k<bM+1->k≠w.heap.size+1->p1.heap[k]? =wr.heap[k]? from fun k hk h1=>(sx0 k (by omega)).trans ((ho0.block k (by omega) h1).trans (F0.out k hk h1)))
      have Y1:=Hp (show p1.os=wr.os/\p1.tape=wr.tape/\p1.output=wr.output from hp0▸⟨ho0.os.trans Y0.out.1,ho0.tape.trans Y0.out.2.1,ho0.output.trans Y0.out.2.2⟩)
      have zp1:wr.heap.size<p1.heap.size:=by omega
      clear h0 ho0 hp0 sx0 zz0 KK0
      go_wp2_with fail
      refine(g1.out _ R1'.out).mono ?_
      rintro e n1 ⟨rfl,h1,ho1⟩
      have kk1:=Hp (R1'.kp ho1)
      have zu1:=ho1.size
      have XU1:=Hp (kk1.out _ _ _ _ X1.out (by decide))
      have EU1:=Hp (show ImpOwn n1 (bM+1) vI xs from own_kp E1'.out kk1.out (by decide))
      have c0_1:=heap_cell XU1.out 1
      have c1_1:=heap_free XU1.out 1
      simp only[GZ2,GZ1,GZ0]at c0_1
      obtain⟨p2,hp1⟩:=Nm (n1.setCell ⟨wr.heap.size,1,none⟩ (.string r1))
      have hp1':=hp1.symm
      have zz1:p2.heap.size=n1.heap.size:=by subst hp1;simp
      have sx1:∀k,k≠wr.heap.size->p2.heap[k]? =n1.heap[k]?:=fun k hk=>by rw[hp1];exact Below.heap_setCell _ _ _ _ hk
      have X2:=Hp (show p2.heap[wr.heap.size]? =some (.cells #[.string r0,.string r1,.int .i64 0,.int .i64 0] 173 (0,0)) from by rw[hp1,heap_setCell_same n1 _ 1 _ _ _ XU1.out];rfl)
      have KK1:Kp [244,173] n1 p2:=hp1▸Kp.set XU1.out (by simp) 1 _
      have K2:=Hp (show Kp [244,173] wr p2 from(K1.trans (kk1.mono (by simp))).trans KK1)
      have R2':=Hp (h1.same (sx1 _ (by have:=R.lt;omega)))
      have E2':=Hp (show ImpOwn p2 (bM+1) vI xs from hp1▸ownsRow_setCell_other EU1.out HEN.out _)
      have F2:=Hp (show∀k,k<bM+1->k≠w.heap.size+1->p2.heap[k]? =wr.heap[k]? from fun k hk h1=>(sx1 k (by omega)).trans ((ho1.block k (by omega) h1).trans (F1.out k hk h1)))
      have Y2:=Hp (show p2.os=wr.os/\p2.tape=wr.tape/\p2.output=wr.output from hp1▸⟨ho1.os.trans Y1.out.1,ho1.tape.trans Y1.out.2.1,ho1.output.trans Y1.out.2.2⟩)
      have zp2:wr.heap.size<p2.heap.size:=by omega
      clear h1 ho1 hp1 sx1 zz1 KK1
      go_wp2_with fail
      refine(g2.out _ R2'.out).mono ?_
      rintro e n2 ⟨rfl,h2,ho2⟩
      have kk2:=Hp (R2'.kp ho2)
      have zu2:=ho2.size
      have XU2:=Hp (kk2.out _ _ _ _ X2.out (by decide))
      have EU2:=Hp (show ImpOwn n2 (bM+1) vI xs from own_kp E2'.out kk2.out (by decide))
      have c0_2:=heap_cell XU2.out 2
      have c1_2:=heap_free XU2.out 2
      simp only[GZ2,GZ1,GZ0]at c0_2
      obtain⟨p3,hp2⟩:=Nm (n2.setCell ⟨wr.heap.size,2,none⟩ (.int .i64 r2))
      have hp2':=hp2.symm
      have zz2:p3.heap.size=n2.heap.size:=by subst hp2;simp
      have sx2:∀k,k≠wr.heap.size->p3.heap[k]? =n2.heap[k]?:=fun k hk=>by rw[hp2];exact Below.heap_setCell _ _ _ _ hk
      have X3:=Hp (show p3.heap[wr.heap.size]? =some (.cells #[.string r0,.string r1,.int .i64 r2,.int .i64 0] 173 (0,0)) from by rw[hp2,heap_setCell_same n2 _ 2 _ _ _ XU2.out];rfl)
      have KK2:Kp [244,173] n2 p3:=hp2▸Kp.set XU2.out (by simp) 2 _
      have K3:=Hp (show Kp [244,173] wr p3 from(K2.trans (kk2.mono (by simp))).trans KK2)
      have R3':=Hp (h2.same (sx2 _ (by have:=R.lt;omega)))
      have E3':=Hp (show ImpOwn p3 (bM+1) vI xs from hp2▸ownsRow_setCell_other EU2.out HEN.out _)
      have F3:=Hp (show∀k,k<bM+1->k≠w.heap.size+1->p3.heap[k]? =wr.heap[k]? from fun k hk h1=>(sx2 k (by omega)).trans ((ho2.block k (by omega) h1).trans (F2.out k hk h1)))
      have Y3:=Hp (show p3.os=wr.os/\p3.tape=wr.tape/\p3.output=wr.output from hp2▸⟨ho2.os.trans Y2.out.1,ho2.tape.trans Y2.out.2.1,ho2.output.trans Y2.out.2.2⟩)
      have zp3:wr.heap.size<p3.heap.size:=by omega
      clear h2 ho2 hp2 sx2 zz2 KK2
      go_wp2_with fail
      refine(g3.out _ R3'.out).mono ?_
      rintro e n3 ⟨rfl,h3,ho3⟩
      have kk3:=Hp (R3'.kp ho3)
      have zu3:=ho3.size
      have XU3:=Hp (kk3.out _ _ _ _ X3.out (by decide))
      have EU3:=Hp (show ImpOwn n3 (bM+1) vI xs from own_kp E3'.out kk3.out (by decide))
      have c0_3:=heap_cell XU3.out 3
      have c1_3:=heap_free XU3.out 3
      simp only[GZ2,GZ1,GZ0]at c0_3
      obtain⟨p4,hp3⟩:=Nm (n3.setCell ⟨wr.heap.size,3,none⟩ (.int .i64 r3))
      have hp3':=hp3.symm
      have zz3:p4.heap.size=n3.heap.size:=by subst hp3;simp
      have sx3:∀k,k≠wr.heap.size->p4.heap[k]? =n3.heap[k]?:=fun k hk=>by rw[hp3];exact Below.heap_setCell _ _ _ _ hk
      have X4:=Hp (show p4.heap[wr.heap.size]? =some (.cells #[.string r0,.string r1,.int .i64 r2,.int .i64 r3] 173 (0,0)) from by rw[hp3,heap_setCell_same n3 _ 3 _ _ _ XU3.out];rfl)
      have KK3:Kp [244,173] n3 p4:=hp3▸Kp.set XU3.out (by simp) 3 _
      have K4:=Hp (show Kp [244,173] wr p4 from(K3.trans (kk3.mono (by simp))).trans KK3)
      have R4':=Hp (h3.same (sx3 _ (by have:=R.lt;omega)))
      have E4':=Hp (show ImpOwn p4 (bM+1) vI xs from hp3▸ownsRow_setCell_other EU3.out HEN.out _)
      have F4:=Hp (show∀k,k<bM+1->k≠w.heap.size+1->p4.heap[k]? =wr.heap[k]? from fun k hk h1=>(sx3 k (by omega)).trans ((ho3.block k (by omega) h1).trans (F3.out k hk h1)))
      have Y4:=Hp (show p4.os=wr.os/\p4.tape=wr.tape/\p4.output=wr.output from hp3▸⟨ho3.os.trans Y3.out.1,ho3.tape.trans Y3.out.2.1,ho3.output.trans Y3.out.2.2⟩)
      have zp4:wr.heap.size<p4.heap.size:=by omega
      clear h3 ho3 hp3 sx3 zz3 KK3
      have MM:=Hp (show MB p4 bM a0 a1 a2 a3 vE vI (.slice none 0 0) from K4.out _ _ _ _ M.out (by decide))
      have m4:=heap_cell (show p4.heap[bM]? =_ from MM.out) 5
      have x0:=heap_cell X4.out 0
      have x1:=heap_cell X4.out 1
      have x2:=heap_cell X4.out 2
      have x3:=heap_cell X4.out 3
      simp only[GZ2,GZ1,GZ0]at m4 x0 x1 x2 x3
      have hb5:bM+1<=p4.heap.size:=by omega
      go_wp2_with (at_builtin;refine append_Imp p4 rfl _ _ rfl (bM+1) vI xs ⟨r0,r1,r2,r3⟩ rfl rfl E4'.out (by omega) (by omega) ?_;intro v' w7 hown7 hg7;have HOWN:=Hp hown7;obtain⟨g,cap,rfl⟩:=ownsRow_succ (show w7.ownsRow (bM+1) _ 4 v' (xs.length+1) _ by have h:=hown7;unfold ImpOwn at h;simpa using h);have HG:=Hp hg7;have hne:some bM≠vI.ownBlock:=(fun h=>by have:=(E4'.lt bM h.symm).1;omega);have M7:=Hp (show MB w7 bM a0 a1 a2 a3 vE vI (.slice none 0 0) from(hg7.block bM (by simp;omega) hne).trans ((heap_alloc_old p4 _ (by omega)).trans MM.out));have p7:=heap_cell (show w7.heap[bM]? =_ from M7.out) 5;have f7:=heap_free (show w7.heap[bM]? =_ from M7.out) 5;simp only[GZ2,GZ1,GZ0]at p7;clear hown7 hg7 hne)
      have KX:=Hp (show Kp [244,70,173] wr w7 from((K4.alloc _).trans (Kp.grown (ts:=[244,173]) HG.out (fun g hg=>by
       obtain⟨c',fz,h⟩:=own_kind (E4'.alloc (.cells #[.string r0,.string r1,.int .i64 r2,.int .i64 r3] 173)) g hg
       exact⟨_,_,_,h,by simp⟩))).mono (by simp))
      have BX:=Hp (fun k(hk:k<bM+1)=>(HG.block k (by simp;omega) (fun h=>by have:=(E4'.lt k h.symm).1;omega)).trans (heap_alloc_old p4 (.cells #[.string r0,.string r1,.int .i64 r2,.int .i64 r3] 173) (show k<p4.heap.size by omega)))
      have SZ:=HG.size
      go_roundw
      case rel=>
       refine⟨j+1,xs++[⟨r0,r1,r2,r3⟩],t4,by go_num,HJ.out,by rw[GZ8];have:=HXJ.out;simp;omega,⟨?_,?_,own_kp PO0.out (KX.trans (Kp.set (show w7.heap[bM]? =_ from M7.out) (by simp) 5 _)) (by decide),.slice (some ⟨g,0,none⟩) (xs.length+1) cap,?_,?_⟩,by have h:=E1.out;rw[HX.out]at h;exact h,by have h:=E2.out;rw[HX.out]at h;exact h⟩
       ·exact R4'.same ((Below.heap_setCell _ _ _ _ (Nat.ne_of_lt hTM)).trans (BX.out _ (by omega)))
       ·refine LK.step ?_ (fun k h1 h2 h3=>(Below.heap_setCell _ _ _ _ h3).trans ((BX.out k h1).trans (F4.out k h1 h2))) ⟨HG.os.trans Y4.out.1,HG.tape.trans Y4.out.2.1,HG.output.trans Y4.out.2.2⟩
        simp at SZ ⊢
        omega
       ·unfold MB
        rw[heap_setCell_same w7 bM 5 _ _ _ M7.out]
        rfl
       ·exact ownsRow_setCell_below (a:=⟨bM,5,none⟩) HOWN.out (Nat.lt_succ_self bM) _
      case measure=>(have:=HJ.out;simp[intOf];try omega)
  case rest=>
   obtain⟨x3,rfl⟩:=Nm wc
   obtain⟨hR',hL',o0',vI,hM',hO'⟩:=hcut
   obtain⟨is,hxs⟩:=Nm T2.1
   obtain⟨s7,hss⟩:=Nm T2.2
   rw[<-hxs]at hO'
   rw[<-hss]at hR'
   have HX2:=Hp (show is=(d6 l).1 by rw[hxs,HD2.out])
   have HS7:=Hp (show s7=(d6 l).2 by rw[hss,HD2.out])
   have R3w:=Hp hR'
   have L3w:=Hp hL'
   have M3w:=Hp hM'
   have OI3:=Hp hO'
   have OE3:=Hp o0'
   clear hxs hss hR' hL' hM' hO' J2 kp2 o0'
   go_wp2_with fail
   have r3:=dZ 1 s7 (by omega)
   have ro3:=Ru s7
   obtain⟨c3,hc3⟩:∃c:Nat,(aI 1 s7).1=c:=⟨(aI 1 s7).1.toNat,by omega⟩
   rw[hc3]at r3 ro3
   obtain⟨z3,hz3⟩:∃z,z=(aI 1 s7).2:=⟨_,rfl⟩
   obtain⟨T3,hT3⟩:=Nm (dU fZ c3 z3)
   have HT3:=Hp hT3
   have HD3:=Hp (show T3=d7 l by
    have h1:(aI 1 s7).1.toNat=c3:=by omega
    rw[hT3,hz3,<-h1,HS7.out]
    rfl)
   have n3:=Hp (fun W hW=>dQ (w.heap.size+1) l s7 1 W hW hl (by omega) (by omega))
   change Hid (∀W,_->Calls _ _ #[_,.int .i64 1] W fun e w'=>e=.returned (.int .i64 (aI 1 s7).1)/\Tk _ _ (aI 1 s7).2 w'/\_)at n3
   rw[hc3,<-hz3]at n3
   clear hc3 hz3 hT3 r3
   refine(n3.out _ R3w.out).mono ?_
   rintro e b3 ⟨rfl,hR,ho⟩
   have kp3:=Hp (R3w.kp ho)
   have J3:=Hp (show LI3 (w.heap.size+1) l bM (bM+1) a0 a3 a1 a2 vE es vI is v4 [] z3 b3 from⟨hR,L3w.only ho,own_kp OE3.out kp3.out (by decide),own_kp OI3.out kp3.out (by decide),.slice none 0 0,kp3.out _ _ _ _ M3w.out (by decide),PatOwn.nil _ _⟩)
   clear hR ho n3
   go_upto_block 4 with fail
   go_cut [11,12] from 73 to 97 (fun _ _ wx=>LI3 (w.heap.size+1) l bM (bM+1) a0 a3 a1 a2 vE es vI is v4 T3.1 T3.2 wx)
   case first=>
    go_wp2_with fail
    go_loopw [11] (fun i wr=>∃(j:Nat)(xs:List Pat)(st:Rest),i=.int .i64 j/\j<=c3/\xs.length<=j/\LI3 (w.heap.size+1) l bM (bM+1) a0 a3 a1 a2 vE es vI is v4 xs st wr/\xs++(dU fZ (c3 -j) st).1=T3.1/\(dU fZ (c3 -j) st).2=T3.2) (fun i _=>c3 -(intOf i).toNat)
    case atStart=>exact⟨0,[],_,rfl,by omega,GZ3 _,J3.out,by rw[HT3.out];rfl,by rw[HT3.out];rfl⟩
    case round=>
     obtain⟨j,xs,st,rfl,hj,hxj,hI,e1,e2⟩:=hrel
     have HI:=Hp hI
     obtain⟨⟨at_,hh,_⟩,_⟩:=hI
     have t1:=heap_cell hh 1
     have t2:=heap_cell hh 2
     simp only[GZ2,GZ1,GZ0]at t1 t2
     clear hh
     by_cases hjc:j=c3
     ·have E1:=Hp (show xs=T3.1 by rw[<-e1,hjc];simp[dU])
      have E2:=Hp (show st=T3.2 by rw[<-e2,hjc];simp[dU])
      have hlt:¬(j<c3):=by omega
      clear e1 e2 hjc
      go_wp2_with fail
      go_meet
      rw[<-E1.out,<-E2.out]
      exact HI.out
     ·have hlt:(j:Int)<c3:=by omega
      cases st with
      |none=>
       obtain⟨k,hk⟩:∃k,c3 -j=k+1:=⟨c3 -j -1,by omega⟩
       have E1:=Hp (show xs=T3.1 by rw[<-e1,hk,SX];simp)
       have E2:=Hp (show none=T3.2 by rw[<-e2,hk,SX])
       simp only[Option.isNone_none]at t2
       clear e1 e2 hk hjc
       go_wp2_with fail
       go_meet
       rw[<-E1.out,<-E2.out]
       exact HI.out
      |some s=>
       simp only[Option.isNone_some]at t2
       rw[show c3 -j=(c3 -(j+1))+1 by omega,UA]at e1 e2
       have E1:=Hp (show(xs++[(fZ (some s)).1])++(dU fZ (c3 -(j+1)) (fZ (some s)).2).1=T3.1 by rw[<-e1];simp)
       have E2:=Hp e2
       have HJ:=Hp (show j+1<=c3 by omega)
       have HXJ:=Hp hxj
       have hxb:xs.length<=255:=by omega
       obtain⟨hR,hL,o0,o1,vP,hM,hO⟩:=HI.out
       have R:=Hp hR
       have LK:=Hp hL
       have M:=Hp hM
       have EE:=Hp hO
       have PO0:=Hp o0
       have PO1:=Hp o1
       clear e1 e2 hjc hR hL hM hO hxj HI o0 o1
       have g0:=Hp (fun W hW=>dQ (w.heap.size+1) l (some s) 1 W hW hl (by omega) (by omega))
       change Hid (∀W,_->Calls _ _ #[_,.int .i64 1] W _)at g0
       have g1:=Hp (fun W hW=>dQ (w.heap.size+1) l (aI 1 (some s)).2 2 W hW hl (by omega) (by omega))
       change Hid (∀W,_->Calls _ _ #[_,.int .i64 2] W _)at g1
       have g2:=Hp (fun W hW=>dQ (w.heap.size+1) l (aI 2 (aI 1 (some s)).2).2 1 W hW hl (by omega) (by omega))
       change Hid (∀W,_->Calls _ _ #[_,.int .i64 1] W _)at g2
       have hr2:=dZ 1 (aI 2 (aI 1 (some s)).2).2 (by omega)
       have g3:=Hp (fun W hW=>dQ (w.heap.size+1) l (aI 1 (aI 2 (aI 1 (some s)).2).2).2 2 W hW hl (by omega) (by omega))
       change Hid (∀W,_->Calls _ _ #[_,.int .i64 2] W _)at g3
       have hx:fZ (some s)=(⟨(aI 1 (some s)).1,(aI 2 (aI 1 (some s)).2).1,(aI 1 (aI 2 (aI 1 (some s)).2).2).1 -1,(aI 2 (aI 1 (aI 2 (aI 1 (some s)).2).2).2).1⟩,(aI 2 (aI 1 (aI 2 (aI 1 (some s)).2).2).2).2):=rfl
       obtain⟨r3,hq3⟩:∃a,a=(aI 2 (aI 1 (aI 2 (aI 1 (some s)).2).2).2).1:=⟨_,rfl⟩
       rw[<-hq3]at g3 hx
       obtain⟨t4,ht4⟩:∃x,x=(aI 2 (aI 1 (aI 2 (aI 1 (some s)).2).2).2).2:=⟨_,rfl⟩
       rw[<-ht4]at g3 hx
       obtain⟨r2,hq2⟩:∃a,a=(aI 1 (aI 2 (aI 1 (some s)).2).2).1:=⟨_,rfl⟩
       rw[<-hq2]at g2 hx hr2
       obtain⟨y2,hy2⟩:=Nm (r2 -1)
       have q2:IntKind.i64.wrap (r2 -1)=y2:=by rw[hy2];exact IntWalk.i64_in _ (by omega)
       rw[<-hy2]at hx
       obtain⟨t3,ht3⟩:∃x,x=(aI 1 (aI 2 (aI 1 (some s)).2).2).2:=⟨_,rfl⟩
       rw[<-ht3]at g2 g3
       obtain⟨r1,hq1⟩:∃a,a=(aI 2 (aI 1 (some s)).2).1:=⟨_,rfl⟩
       rw[<-hq1]at g1 hx
       obtain⟨t2,ht2⟩:∃x,x=(aI 2 (aI 1 (some s)).2).2:=⟨_,rfl⟩
       rw[<-ht2]at g1 g2
       obtain⟨r0,hq0⟩:∃a,a=(aI 1 (some s)).1:=⟨_,rfl⟩
       rw[<-hq0]at g0 hx
       obtain⟨t1,ht1⟩:∃x,x=(aI 1 (some s)).2:=⟨_,rfl⟩
       rw[<-ht1]at g0 g1
       have HX:=Hp hx
       clear hx hq0 ht1 hq1 ht2 hq2 ht3 hq3 ht4 hy2 hr2
       obtain⟨p0,hp0⟩:=Nm (wr.alloc (.cells #[.int .i64 0,.int .i64 0,.int .i64 0,.int .i64 0] 180))
       have HP0:=Hp hp0.symm
       have b0:∀k,k<wr.heap.size->p0.heap[k]? =wr.heap[k]?:=fun k hk=>hp0▸heap_alloc_old wr _ hk
       have X0:=Hp (show p0.heap[wr.heap.size]? =some (.cells #[.int .i64 0,.int .i64 0,.int .i64 0,.int .i64 0] 180 (0,0)) from hp0▸heap_alloc_new _ _)
       have K0:=Hp (show Kp [244,180] wr p0 from hp0▸(Kp.refl _ wr).alloc _)
       have R0':=Hp (R.same (b0 _ R.lt))
       have E0':=Hp (show PatOwn p0 (bM+1) vP xs from hp0▸EE.out.alloc _)
       have HEN:=Hp (show vP.ownBlock≠some wr.heap.size from fun h=>by have:=EE.lt _ h;omega)
       have zp0:wr.heap.size<p0.heap.size:=(ZL X0.out)
       have hbx:bM+1<=wr.heap.size:=LK.size
       have F0:=Hp (show∀k,k<bM+1->k≠w.heap.size+1->p0.heap[k]? =wr.heap[k]? from fun k hk _=>b0 k (by omega))
       have Y0:=Hp (show p0.os=wr.os/\p0.tape=wr.tape/\p0.output=wr.output from hp0▸⟨rfl,rfl,rfl⟩)
       clear hp0 b0
       go_wp2_with fail
       rw[HP0.out]
       refine(g0.out _ R0'.out).mono ?_
       rintro e n0 ⟨rfl,h0,ho0⟩
       have kk0:=Hp (R0'.kp ho0)
       have zu0:=ho0.size
       have XU0:=Hp (kk0.out _ _ _ _ X0.out (by decide))
       have EU0:=Hp (show PatOwn n0 (bM+1) vP xs from own_kp E0'.out kk0.out (by decide))
       have c0_0:=heap_cell XU0.out 0
       have c1_0:=heap_free XU0.out 0
       simp only[GZ2,GZ0]at c0_0
       obtain⟨p1,hp0⟩:=Nm (n0.setCell ⟨wr.heap.size,0,none⟩ (.int .i64 r0))
       have hp0':=hp0.symm
       have zz0:p1.heap.size=n0.heap.size:=by subst hp0;simp
       have sx0:∀k,k≠wr.heap.size->p1.heap[k]? =n0.heap[k]?:=fun k hk=>by rw[hp0];exact Below.heap_setCell _ _ _ _ hk
       have X1:=Hp (show p1.heap[wr.heap.size]? =some (.cells #[.int .i64 r0,.int .i64 0,.int .i64 0,.int .i64 0] 180 (0,0)) from by rw[hp0,heap_setCell_same n0 _ 0 _ _ _ XU0.out];rfl)
       have KK0:Kp [244,180] n0 p1:=hp0▸Kp.set XU0.out (by simp) 0 _
       have K1:=Hp (show Kp [244,180] wr p1 from(K0.trans (kk0.mono (by simp))).trans KK0)
       have R1':=Hp (h0.same (sx0 _ (by have:=R.lt;omega)))
       have E1':=Hp (show PatOwn p1 (bM+1) vP xs from hp0▸ownsRow_setCell_other EU0.out HEN.out _)
       have F1:=Hp (show∀k,k<bM+1->k≠w.heap.size+1->p1.heap[k]? =wr.heap[k]? from fun k hk h1=>(sx0 k (by omega)).trans ((ho0.block k (by omega) h1).trans (F0.out k hk h1)))
       have Y1:=Hp (show p1.os=wr.os/\p1.tape=wr.tape/\p1.output=wr.output from hp0▸⟨ho0.os.trans Y0.out.1,ho0.tape.trans Y0.out.2.1,ho0.output.trans Y0.out.2.2⟩)
       have zp1:wr.heap.size<p1.heap.size:=by omega
       clear h0 ho0 hp0 sx0 zz0 KK0
       go_wp2_with fail
       refine(g1.out _ R1'.out).mono ?_
       rintro e n1 ⟨rfl,h1,ho1⟩
       have kk1:=Hp (R1'.kp ho1)
       have zu1:=ho1.size
       have XU1:=Hp (kk1.out _ _ _ _ X1.out (by decide))
       have EU1:=Hp (show PatOwn n1 (bM+1) vP xs from own_kp E1'.out kk1.out (by decide))
       have c0_1:=heap_cell XU1.out 1
       have c1_1:=heap_free XU1.out 1
       simp only[GZ2,GZ1,GZ0]at c0_1
       obtain⟨p2,hp1⟩:=Nm (n1.setCell ⟨wr.heap.size,1,none⟩ (.int .i64 r1))
       have hp1':=hp1.symm
       have zz1:p2.heap.size=n1.heap.size:=by subst hp1;simp
       have sx1:∀k,k≠wr.heap.size->p2.heap[k]? =n1.heap[k]?:=fun k hk=>by rw[hp1];exact Below.heap_setCell _ _ _ _ hk
       have X2:=Hp (show p2.heap[wr.heap.size]? =some (.cells #[.int .i64 r0,.int .i64 r1,.int .i64 0,.int .i64 0] 180 (0,0)) from by rw[hp1,heap_setCell_same n1 _ 1 _ _ _ XU1.out];rfl)
       have KK1:Kp [244,180] n1 p2:=hp1▸Kp.set XU1.out (by simp) 1 _
       have K2:=Hp (show Kp [244,180] wr p2 from(K1.trans (kk1.mono (by simp))).trans KK1)
       have R2':=Hp (h1.same (sx1 _ (by have:=R.lt;omega)))
       have E2':=Hp (show PatOwn p2 (bM+1) vP xs from hp1▸ownsRow_setCell_other EU1.out HEN.out _)
       have F2:=Hp (show∀k,k<bM+1->k≠w.heap.size+1->p2.heap[k]? =wr.heap[k]? from fun k hk h1=>(sx1 k (by omega)).trans ((ho1.block k (by omega) h1).trans (F1.out k hk h1)))
       have Y2:=Hp (show p2.os=wr.os/\p2.tape=wr.tape/\p2.output=wr.output from hp1▸⟨ho1.os.trans Y1.out.1,ho1.tape.trans Y1.out.2.1,ho1.output.trans Y1.out.2.2⟩)
       have zp2:wr.heap.size<p2.heap.size:=by omega
       clear h1 ho1 hp1 sx1 zz1 KK1
       go_wp2_with fail
       refine(g2.out _ R2'.out).mono ?_
       rintro e n2 ⟨rfl,h2,ho2⟩
       have kk2:=Hp (R2'.kp ho2)
       have zu2:=ho2.size
       have XU2:=Hp (kk2.out _ _ _ _ X2.out (by decide))
       have EU2:=Hp (show PatOwn n2 (bM+1) vP xs from own_kp E2'.out kk2.out (by decide))
       have c0_2:=heap_cell XU2.out 2
       have c1_2:=heap_free XU2.out 2
       simp only[GZ2,GZ1,GZ0]at c0_2
       obtain⟨p3,hp2⟩:=Nm (n2.setCell ⟨wr.heap.size,2,none⟩ (.int .i64 y2))
       have hp2':=hp2.symm
       have zz2:p3.heap.size=n2.heap.size:=by subst hp2;simp
       have sx2:∀k,k≠wr.heap.size->p3.heap[k]? =n2.heap[k]?:=fun k hk=>by rw[hp2];exact Below.heap_setCell _ _ _ _ hk
       have X3:=Hp (show p3.heap[wr.heap.size]? =some (.cells #[.int .i64 r0,.int .i64 r1,.int .i64 y2,.int .i64 0] 180 (0,0)) from by rw[hp2,heap_setCell_same n2 _ 2 _ _ _ XU2.out];rfl)
       have KK2:Kp [244,180] n2 p3:=hp2▸Kp.set XU2.out (by simp) 2 _
       have K3:=Hp (show Kp [244,180] wr p3 from(K2.trans (kk2.mono (by simp))).trans KK2)
       have R3':=Hp (h2.same (sx2 _ (by have:=R.lt;omega)))
       have E3':=Hp (show PatOwn p3 (bM+1) vP xs from hp2▸ownsRow_setCell_other EU2.out HEN.out _)
       have F3:=Hp (show∀k,k<bM+1->k≠w.heap.size+1->p3.heap[k]? =wr.heap[k]? from fun k hk h1=>(sx2 k (by omega)).trans ((ho2.block k (by omega) h1).trans (F2.out k hk h1)))
       have Y3:=Hp (show p3.os=wr.os/\p3.tape=wr.tape/\p3.output=wr.output from hp2▸⟨ho2.os.trans Y2.out.1,ho2.tape.trans Y2.out.2.1,ho2.output.trans Y2.out.2.2⟩)
       have zp3:wr.heap.size<p3.heap.size:=by omega
       clear h2 ho2 hp2 sx2 zz2 KK2
       go_wp2_with fail
       refine(g3.out _ R3'.out).mono ?_
       rintro e n3 ⟨rfl,h3,ho3⟩
       have kk3:=Hp (R3'.kp ho3)
       have zu3:=ho3.size
       have XU3:=Hp (kk3.out _ _ _ _ X3.out (by decide))
       have EU3:=Hp (show PatOwn n3 (bM+1) vP xs from own_kp E3'.out kk3.out (by decide))
       have c0_3:=heap_cell XU3.out 3
       have c1_3:=heap_free XU3.out 3
       simp only[GZ2,GZ1,GZ0]at c0_3
       obtain⟨p4,hp3⟩:=Nm (n3.setCell ⟨wr.heap.size,3,none⟩ (.int .i64 r3))
       have hp3':=hp3.symm
       have zz3:p4.heap.size=n3.heap.size:=by subst hp3;simp
       have sx3:∀k,k≠wr.heap.size->p4.heap[k]? =n3.heap[k]?:=fun k hk=>by rw[hp3];exact Below.heap_setCell _ _ _ _ hk
       have X4:=Hp (show p4.heap[wr.heap.size]? =some (.cells #[.int .i64 r0,.int .i64 r1,.int .i64 y2,.int .i64 r3] 180 (0,0)) from by rw[hp3,heap_setCell_same n3 _ 3 _ _ _ XU3.out];rfl)
       have KK3:Kp [244,180] n3 p4:=hp3▸Kp.set XU3.out (by simp) 3 _
       have K4:=Hp (show Kp [244,180] wr p4 from(K3.trans (kk3.mono (by simp))).trans KK3)
       have R4':=Hp (h3.same (sx3 _ (by have:=R.lt;omega)))
       have E4':=Hp (show PatOwn p4 (bM+1) vP xs from hp3▸ownsRow_setCell_other EU3.out HEN.out _)
       have F4:=Hp (show∀k,k<bM+1->k≠w.heap.size+1->p4.heap[k]? =wr.heap[k]? from fun k hk h1=>(sx3 k (by omega)).trans ((ho3.block k (by omega) h1).trans (F3.out k hk h1)))
       have Y4:=Hp (show p4.os=wr.os/\p4.tape=wr.tape/\p4.output=wr.output from hp3▸⟨ho3.os.trans Y3.out.1,ho3.tape.trans Y3.out.2.1,ho3.output.trans Y3.out.2.2⟩)
       have zp4:wr.heap.size<p4.heap.size:=by omega
       clear h3 ho3 hp3 sx3 zz3 KK3
       have MM:=Hp (show MB p4 bM a0 a1 a2 a3 vE vI vP from K4.out _ _ _ _ M.out (by decide))
       have m4:=heap_cell (show p4.heap[bM]? =_ from MM.out) 6
       have x0:=heap_cell X4.out 0
       have x1:=heap_cell X4.out 1
       have x2:=heap_cell X4.out 2
       have x3:=heap_cell X4.out 3
       simp only[GZ2,GZ1,GZ0]at m4 x0 x1 x2 x3
       have hb5:bM+1<=p4.heap.size:=by omega
       go_wp2_with (at_builtin;refine append_Pat p4 rfl _ _ rfl (bM+1) vP xs ⟨r0,r1,y2,r3⟩ rfl rfl E4'.out (by omega) (by omega) ?_;intro v' w7 hown7 hg7;have HOWN:=Hp hown7;obtain⟨g,cap,rfl⟩:=ownsRow_succ (show w7.ownsRow (bM+1) _ 4 v' (xs.length+1) _ by have h:=hown7;unfold PatOwn at h;simpa using h);have HG:=Hp hg7;have hne:some bM≠vP.ownBlock:=(fun h=>by have:=(E4'.lt bM h.symm).1;omega);have M7:=Hp (show MB w7 bM a0 a1 a2 a3 vE vI vP from(hg7.block bM (by simp;omega) hne).trans ((heap_alloc_old p4 _ (by omega)).trans MM.out));have p7:=heap_cell (show w7.heap[bM]? =_ from M7.out) 6;have f7:=heap_free (show w7.heap[bM]? =_ from M7.out) 6;simp only[GZ2,GZ1,GZ0]at p7;clear hown7 hg7 hne)
       have KX:=Hp (show Kp [244,70,180] wr w7 from((K4.alloc _).trans (Kp.grown (ts:=[244,180]) HG.out (fun g hg=>by
        obtain⟨c',fz,h⟩:=own_kind (E4'.alloc (.cells #[.int .i64 r0,.int .i64 r1,.int .i64 y2,.int .i64 r3] 180)) g hg
        exact⟨_,_,_,h,by simp⟩))).mono (by simp))
       have BX:=Hp (fun k(hk:k<bM+1)=>(HG.block k (by simp;omega) (fun h=>by have:=(E4'.lt k h.symm).1;omega)).trans (heap_alloc_old p4 (.cells #[.int .i64 r0,.int .i64 r1,.int .i64 y2,.int .i64 r3] 180) (show k<p4.heap.size by omega)))
       have SZ:=HG.size
       go_roundw
       case rel=>
        refine⟨j+1,xs++[⟨r0,r1,y2,r3⟩],t4,by go_num,HJ.out,by rw[GZ8];have:=HXJ.out;simp;omega,⟨?_,?_,own_kp PO0.out (KX.trans (Kp.set (show w7.heap[bM]? =_ from M7.out) (by simp) 6 _)) (by decide),own_kp PO1.out (KX.trans (Kp.set (show w7.heap[bM]? =_ from M7.out) (by simp) 6 _)) (by decide),.slice (some ⟨g,0,none⟩) (xs.length+1) cap,?_,?_⟩,by have h:=E1.out;rw[HX.out]at h;exact h,by have h:=E2.out;rw[HX.out]at h;exact h⟩
        ·exact R4'.same ((Below.heap_setCell _ _ _ _ (Nat.ne_of_lt hTM)).trans (BX.out _ (by omega)))
        ·refine LK.step ?_ (fun k h1 h2 h3=>(Below.heap_setCell _ _ _ _ h3).trans ((BX.out k h1).trans (F4.out k h1 h2))) ⟨HG.os.trans Y4.out.1,HG.tape.trans Y4.out.2.1,HG.output.trans Y4.out.2.2⟩
         simp at SZ ⊢
         omega
        ·unfold MB
         rw[heap_setCell_same w7 bM 6 _ _ _ M7.out]
         rfl
        ·exact ownsRow_setCell_below (a:=⟨bM,6,none⟩) HOWN.out (Nat.lt_succ_self bM) _
       case measure=>(have:=HJ.out;simp[intOf];try omega)
   case rest=>
    obtain⟨x4,rfl⟩:=Nm wc
    obtain⟨hR',hL',o0',o1',vP,hM',hO'⟩:=hcut
    obtain⟨ps,hxs⟩:=Nm T3.1
    obtain⟨s8,hss⟩:=Nm T3.2
    rw[<-hxs]at hO'
    rw[<-hss]at hR'
    have HX3:=Hp (show ps=(d7 l).1 by rw[hxs,HD3.out])
    have HS8:=Hp (show s8=(d7 l).2 by rw[hss,HD3.out])
    have R4w:=Hp hR'
    have L4w:=Hp hL'
    have M4w:=Hp hM'
    have OP4:=Hp hO'
    have OE4:=Hp o0'
    have OI4:=Hp o1'
    clear hxs hss hR' hL' hM' hO' J3 kp3 o0' o1'
    obtain⟨eA,eC,rfl,hE⟩:=OE4.row
    obtain⟨iA,iC,rfl,hI⟩:=OI4.row
    obtain⟨pA,pC,rfl,hP⟩:=OP4.row
    clear hE hI hP
    have hZ7:x4.heap[w.heap.size]? =some (.cells #[.string ⟨#[]⟩,.int .i64 0,.int .i64 0,.string ⟨#[]⟩,.slice none 0 0,.slice none 0 0,.slice none 0 0] 70 (0,0)):=
     (L4w.low _ (by have:=HBM.out;omega) (by omega) (by have:=HBM.out;omega)).trans ((N4.out _ (by have:=HBM.out;omega) (by omega)).trans HZ0.out)
    have hBel:Below w.heap.size w x4:=by
     refine⟨L4w.os.1.trans O4.out.1,L4w.os.2.1.trans O4.out.2.1,L4w.os.2.2.trans O4.out.2.2,by have:=L4w.size;have:=HBM.out;omega,fun k hk=>?_⟩
     have:=HBM.out
     exact(L4w.low k (by omega) (by omega) (by omega)).trans ((N4.out k (by omega) (by omega)).trans (HBEL.block k hk))
    have z0':=heap_cell hZ7 0
    have z1':=heap_cell hZ7 1
    have z2':=heap_cell hZ7 2
    have z3':=heap_cell hZ7 3
    have z4':=heap_cell hZ7 4
    have z5':=heap_cell hZ7 5
    have z6':=heap_cell hZ7 6
    have zf:=fun o=>heap_free hZ7 o
    have m0:=heap_cell (show x4.heap[bM]? =_ from M4w.out) 0
    have m1:=heap_cell (show x4.heap[bM]? =_ from M4w.out) 1
    have m2:=heap_cell (show x4.heap[bM]? =_ from M4w.out) 2
    have m3:=heap_cell (show x4.heap[bM]? =_ from M4w.out) 3
    have m4:=heap_cell (show x4.heap[bM]? =_ from M4w.out) 4
    have m5:=heap_cell (show x4.heap[bM]? =_ from M4w.out) 5
    have m6:=heap_cell (show x4.heap[bM]? =_ from M4w.out) 6
    simp only[GZ2,GZ1,GZ0]at z0' z1' z2' z3' z4' z5' z6' m0 m1 m2 m3 m4 m5 m6
    have HZ7:=Hp hZ7
    have HB7:=Hp hBel
    have hbw7:w.heap.size<x4.heap.size:=by have:=L4w.size;have:=HBM.out;omega
    have hbM7:bM<x4.heap.size:=by have:=L4w.size;omega
    have HQ:=Hp (show es.length<=big/\(∀x∈es,x.name.size<=big)/\is.length<=big/\(∀x∈is,x.mod.size<=big/\x.name.size<=big)/\ps.length<=big/\a0.size<=big/\a3.size<=big by
     have h1:=jC gF (aI 1 (d4 l).2).1.toNat (aI 1 (d4 l).2).2
     have h2:=Ru (d4 l).2
     have h3:=jC Ro (aI 1 (d5 l).2).1.toNat (aI 1 (d5 l).2).2
     have h4:=Ru (d5 l).2
     have h5:=jC fZ (aI 1 (d6 l).2).1.toNat (aI 1 (d6 l).2).2
     have h6:=Ru (d6 l).2
     have g1:es.length<=255:=by rw[HX1.out];show(dU gF _ _).1.length<=_;omega
     have g2:is.length<=255:=by rw[HX2.out];show(dU Ro _ _).1.length<=_;omega
     have g3:ps.length<=255:=by rw[HX3.out];show(dU fZ _ _).1.length<=_;omega
     have nb:∀st,(sof (nam st).1).size<=big:=fun st=>by rw[kH];have:=NS st;unfold big;omega
     refine⟨by unfold big;omega,?_,by unfold big;omega,?_,by unfold big;omega,?_,?_⟩
     ·rw[HX1.out];exact Tq (Q:=fun x:Exp=>x.name.size<=big) (fun st=>nb st) _ _
     ·rw[HX2.out];exact Tq (Q:=fun x:Imp=>x.mod.size<=big/\x.name.size<=big) (fun st=>⟨nb st,nb _⟩) _ _
     ·rw[HA0.out];exact nb _
     ·rw[HA3.out,kH]
      have h7:=Ia (d3 l).1.toNat (d3 l).2
      have h8:=(dZ 2 (d2 l).2 (by omega)).2
      change(d3 l).1<=65535 at h8
      show(txt _ _).1.length<=_
      unfold big;omega)
    have R:=R4w
    obtain⟨at_,hh,hat,hst⟩:=id R.out
    have e0:=heap_cell hh 1
    have e1:=heap_cell hh 2
    have hsz:=kH l
    simp only[GZ2,GZ1,GZ0]at e0 e1
    unfold big at hl
    clear hh hZ7 hBel R
    cases s8 with
    |none=>
     simp only[Option.isNone_none]at e1
     have HERR:=Hp (show dO l=1 by unfold dO;rw[<-HS8.out,if_pos (by simp)])
     clear m0 m1 m2 m3 m4 m5 m6 hst
     go_wp2_with fail
     obtain⟨hg,ho⟩:=set7 HZ7.out (.string ⟨#[]⟩) (.int .i64 0) (.int .i64 0) (.string ⟨#[]⟩) (.slice none 0 0) (.slice none 0 0) (.slice none 0 0)
     refine bodyPost_ret (results_cell_tmp rfl _ _ w.heap.size 70 _ (0,0) _ rfl hg Tryz.underlying70 rfl Tryz.iE) rfl ?_
     refine⟨⟨zeroMod,by rw[HERR.out];rfl,zero_ok _,dW _ _,by rw[oH (by rw[HERR.out];decide)];exact⟨rfl,rfl,rfl,rfl,rfl,rfl,rfl⟩⟩,HB7.trans (ho.below (by omega))⟩
    |some r=>
     simp only[Option.isNone_some]at e1
     have hr:r=l.drop at_:=by
      rcases hst with h|h
      ·cases h
      ·exact GY3 h
     have hrl:r.length=l.length -at_:=by rw[hr,List.length_drop]
     clear hst hr
     by_cases hr:r=[]
     ·subst hr
      have hlt:¬(at_<l.length):=by simp at hrl;omega
      clear hrl
      obtain⟨mm,hmm⟩:∃mm:Mod,mm=⟨a0,a1,a2,a3,es,is,ps,eA,eC,iA,iC,pA,pC⟩:=⟨_,rfl⟩
      have hok:mm.ok x4:=by
       rw[hmm]
       exact mk_ok OE4.out OI4.out OP4.out HQ.out
      have hsame:gI mm (pQ l):=by
       rw[hmm]
       exact⟨HA0.out,HA1.out,HA2.out,HA3.out,HX1.out,HX2.out,HX3.out⟩
      have cC:=Hp (iV mm x4 hok)
      have HERR:=Hp (show aL mm=dO l by unfold dO;rw[<-HS8.out,if_neg (by simp)];exact hsame.err)
      have HSAME:=Hp hsame
      have HMM:=Hp hmm
      have hmv:mm.v=.agg #[.string a0,.int .i64 a1,.int .i64 a2,.string a3,.slice eA es.length eC,.slice iA is.length iC,.slice pA ps.length pC]:=by rw[hmm]
      have HMV:=Hp hmv
      rw[hmv]at cC
      obtain⟨E,hE⟩:=Nm (aL mm)
      rw[<-hE]at cC HERR
      clear hmm hok hsame hmv hE
      by_cases t0:E=0
      ·subst t0
       go_wp2_with (go_at_call 104;refine(cC.out).mono ?_;rintro e w8 ⟨rfl,hb8⟩;obtain⟨hc8,hf8⟩:=aJ hb8)
       obtain⟨hg,ho⟩:=set7 ((hb8.block _ hbw7).trans HZ7.out) (.string a0) (.int .i64 a1) (.int .i64 a2) (.string a3) (.slice eA es.length eC) (.slice iA is.length iC) (.slice pA ps.length pC)
       refine bodyPost_ret (results_cell_tmp rfl _ _ w.heap.size 70 _ (0,0) _ rfl hg Tryz.underlying70 rfl Tryz.iE) rfl ?_
       refine⟨⟨mm,by rw[<-HERR.out,HMV.out];rfl,?_,?_,?_⟩,HB7.trans ((hb8.mono (by omega)).trans (ho.below (by have:=hb8.size;omega)))⟩
       ·have hk:∀g,bM+1<=g->g<x4.heap.size->_:=fun g h1 h2=>(ho.block g (by have:=hb8.size;omega) (by have:=HBM.out;omega)).trans (hb8.block g h2)
        rw[HMM.out]
        exact mk_ok (own_same OE4.out hk) (own_same OI4.out hk) (own_same OP4.out hk) HQ.out
       ·have hk:∀g,bM+1<=g->g<x4.heap.size->_:=fun g h1 h2=>(ho.block g (by have:=hb8.size;omega) (by have:=HBM.out;omega)).trans (hb8.block g h2)
        rw[HMM.out]
        exact⟨RH (own_same OE4.out hk) (by have:=HBM.out;omega),RH (own_same OI4.out hk) (by have:=HBM.out;omega),RH (own_same OP4.out hk) (by have:=HBM.out;omega)⟩
       ·rw[show iD l=pQ l by unfold iD;rw[if_neg (by rw[<-HERR.out];decide)]]
        exact HSAME.out
      ·have t0':(E != 0)=true:=by simp[t0]
       have hne:dO l≠0:=by rw[<-HERR.out];exact t0
       have HNE:=Hp hne
       clear t0 hne
       go_wp2_with (go_at_call 104;refine(cC.out).mono ?_;rintro e w8 ⟨rfl,hb8⟩;obtain⟨hc8,hf8⟩:=aJ hb8)
       obtain⟨hg,ho⟩:=set7 ((hb8.block _ hbw7).trans HZ7.out) (.string ⟨#[]⟩) (.int .i64 0) (.int .i64 0) (.string ⟨#[]⟩) (.slice none 0 0) (.slice none 0 0) (.slice none 0 0)
       refine bodyPost_ret (results_cell_tmp rfl _ _ w.heap.size 70 _ (0,0) _ rfl hg Tryz.underlying70 rfl Tryz.iE) rfl ?_
       exact⟨⟨zeroMod,by rw[<-HERR.out];rfl,zero_ok _,dW _ _,by rw[oH HNE.out];exact⟨rfl,rfl,rfl,rfl,rfl,rfl,rfl⟩⟩,HB7.trans ((hb8.mono (by omega)).trans (ho.below (by have:=hb8.size;omega)))⟩
     ·have hpos:0<r.length:=List.length_pos_iff.2 hr
      have hlt:(at_:Int)<l.length:=by omega
      have HERR:=Hp (show dO l=1 by unfold dO;rw[<-HS8.out,if_pos (by simp[hr])])
      clear m0 m1 m2 m3 m4 m5 m6 hr hrl hpos
      go_wp2_with fail
      obtain⟨hg,ho⟩:=set7 HZ7.out (.string ⟨#[]⟩) (.int .i64 0) (.int .i64 0) (.string ⟨#[]⟩) (.slice none 0 0) (.slice none 0 0) (.slice none 0 0)
      refine bodyPost_ret (results_cell_tmp rfl _ _ w.heap.size 70 _ (0,0) _ rfl hg Tryz.underlying70 rfl Tryz.iE) rfl ?_
      refine⟨⟨zeroMod,by rw[HERR.out];rfl,zero_ok _,dW _ _,by rw[oH (by rw[HERR.out];decide)];exact⟨rfl,rfl,rfl,rfl,rfl,rfl,rfl⟩⟩,HB7.trans (ho.below (by omega))⟩
end Go.Proofs.YtjiedaialianmaaGreat
