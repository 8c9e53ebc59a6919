import Derived.Test.YtjiedaialianmaaGreatA08
import Derived.Test.YtjiedaialianmaaGreatA09
import Derived.Test.YtjiedaialianmaaGreatA11
set_option maxRecDepth 100000
set_option maxHeartbeats 8000000
namespace Go.Proofs.YtjiedaialianmaaGreat
section
open Go.RowKit
structure xR (base B bM:Nat)(V W:World):Prop where
 size:base<=W.heap.size
 low:∀k,k<base->k≠B->k≠bM->W.heap[k]? =V.heap[k]?
 os:W.os=V.os/\W.tape=V.tape/\W.output=V.output
def I1 (B bR bM base:Nat)(nm tx:ByteArray)(mj mn:Int)(V:World)(xs:List Exp)(st:Rest)(W:World):Prop:=
 Rd B st W/\(left st).length<=big/\Boxed W bR 186 (.pointer (some ⟨B,0,none⟩))/\xR base B bM V W/\∃v,MB W bM nm mj mn tx v (.slice none 0 0) (.slice none 0 0)/\ExpOwn W base v xs
def I2 (B bR bM base:Nat)(nm tx:ByteArray)(mj mn:Int)(vE:Value)(es:List Exp)(V:World)(xs:List Imp)(st:Rest)(W:World):Prop:=
 Rd B st W/\(left st).length<=big/\Boxed W bR 186 (.pointer (some ⟨B,0,none⟩))/\xR base B bM V W/\ExpOwn W base vE es/\∃v,MB W bM nm mj mn tx vE v (.slice none 0 0)/\ImpOwn W base v xs
def I3 (B bR bM base:Nat)(nm tx:ByteArray)(mj mn:Int)(vE vI:Value)(es:List Exp)(is:List Imp)(V:World)(xs:List Pat)(st:Rest)(W:World):Prop:=
 Rd B st W/\(left st).length<=big/\Boxed W bR 186 (.pointer (some ⟨B,0,none⟩))/\xR base B bM V W/\ExpOwn W base vE es/\ImpOwn W base vI is/\∃v,MB W bM nm mj mn tx vE vI v/\PatOwn W base v xs
theorem xR.step {base B bM:Nat}{V W W':World}(h:xR base B bM V W)(hs:W.heap.size<=W'.heap.size)(hl:∀k,k<base->k≠B->k≠bM->W'.heap[k]? =W.heap[k]?)(ho:W'.os=W.os/\W'.tape=W.tape/\W'.output=W.output):xR base B bM V W':=
 ⟨GY1 h.size hs,fun k h1 h2 h3=>(hl k h1 h2 h3).trans (h.low k h1 h2 h3),ho.1.trans h.os.1,ho.2.1.trans h.os.2.1,ho.2.2.trans h.os.2.2⟩
theorem xR.only {base B bM:Nat}{V W W':World}(h:xR base B bM V W)(ho:Only B W W'):xR base B bM V W':=
 h.step ho.size (fun k h1 h2 _=>ho.block k (GY0 h1 h.size) h2) ⟨ho.os,ho.tape,ho.output⟩
section
variable {B bR bM base:Nat} {nm tx:ByteArray} {mj mn:Int} {V:World}
theorem VN {W W':World}{st:Rest}(hR:Rd B st W)(ho:Only B W W'):Kp [188] W W':=ho.kp hR (by simp)
theorem QQ (hb1:B<base)(hb2:bM<base)(st:Rest)(w:World)(hl:(left st).length<=big)(h:I1 B bR bM base nm tx mj mn V [] st w):
  Calls Tryz.prog 130 #[.pointer (some ⟨B,0,none⟩),.func (.func 131) #[] #[.pointer (some ⟨bR,0,none⟩),.pointer (some ⟨bM,0,none⟩)]] w fun e w'=>(∃u,e=.returned u)/\I1 B bR bM base nm tx mj mn V (dU gF (aI 1 st).1.toNat (aI 1 st).2).1 (dU gF (aI 1 st).1.toNat (aI 1 st).2).2 w':=by
 refine xP gF B 131 _ (I1 B bR bM base nm tx mj mn V) st w (enters_of Tryz.func131 (by kernel_rfl) rfl) (fun _ _ _ h=>h.1) hl ?_ ?_ h.1
 ·intro W' ho hR'
  obtain⟨hR,_,hB,hL,v,hM,hE⟩:=h
  have k:=VN hR ho
  exact⟨hR',dB 1 hl,box_kp hB k (by decide),hL.only ho,v,k _ _ _ _ hM (by decide),own_kp hE k (by decide)⟩
 ·intro xs s W hxs hI
  obtain⟨hR,hls,hB,hL,v,hM,hE⟩:=hI
  refine(NQ B bR bM base (some s) nm tx mj mn v _ _ xs W hR hB hM hE hls (by omega) hb1 hb2 hL.size).mono ?_
  rintro e w' ⟨hu,h1,h2,h3,h4,h5,v',h6,h7⟩
  exact⟨hu,h1,NR hls,box_kp hB h2 (by decide),hL.step h3 h4 h5,v',h6,h7⟩
theorem QV {vE:Value}{es:List Exp}(hb1:B<base)(hb2:bM<base)(st:Rest)(w:World)(hl:(left st).length<=big)(h:I2 B bR bM base nm tx mj mn vE es V [] st w):
  Calls Tryz.prog 130 #[.pointer (some ⟨B,0,none⟩),.func (.func 132) #[] #[.pointer (some ⟨bR,0,none⟩),.pointer (some ⟨bM,0,none⟩)]] w fun e w'=>(∃u,e=.returned u)/\I2 B bR bM base nm tx mj mn vE es V (dU Ro (aI 1 st).1.toNat (aI 1 st).2).1 (dU Ro (aI 1 st).1.toNat (aI 1 st).2).2 w':=by
 refine xP Ro B 132 _ (I2 B bR bM base nm tx mj mn vE es V) st w (enters_of Tryz.func132 (by kernel_rfl) rfl) (fun _ _ _ h=>h.1) hl ?_ ?_ h.1
 ·intro W' ho hR'
  obtain⟨hR,_,hB,hL,hE,v,hM,hI⟩:=h
  have k:=VN hR ho
  exact⟨hR',dB 1 hl,box_kp hB k (by decide),hL.only ho,own_kp hE k (by decide),v,k _ _ _ _ hM (by decide),own_kp hI k (by decide)⟩
 ·intro xs s W hxs hI
  obtain⟨hR,hls,hB,hL,hE,v,hM,hI⟩:=hI
  refine(MX B bR bM base (some s) nm tx mj mn vE v _ xs W hR hB hM hI hls (by omega) hb1 hb2 hL.size).mono ?_
  rintro e w' ⟨hu,h1,h2,h3,h4,h5,v',h6,h7⟩
  exact⟨hu,h1,NT hls,box_kp hB h2 (by decide),hL.step h3 h4 h5,own_kp hE h2 (by decide),v',h6,h7⟩
theorem QM {vE vI:Value}{es:List Exp}{is:List Imp}(hb1:B<base)(hb2:bM<base)(st:Rest)(w:World)(hl:(left st).length<=big)(h:I3 B bR bM base nm tx mj mn vE vI es is V [] st w):
  Calls Tryz.prog 130 #[.pointer (some ⟨B,0,none⟩),.func (.func 133) #[] #[.pointer (some ⟨bR,0,none⟩),.pointer (some ⟨bM,0,none⟩)]] w fun e w'=>(∃u,e=.returned u)/\I3 B bR bM base nm tx mj mn vE vI es is V (dU fZ (aI 1 st).1.toNat (aI 1 st).2).1 (dU fZ (aI 1 st).1.toNat (aI 1 st).2).2 w':=by
 refine xP fZ B 133 _ (I3 B bR bM base nm tx mj mn vE vI es is V) st w (enters_of Tryz.func133 (by kernel_rfl) rfl) (fun _ _ _ h=>h.1) hl ?_ ?_ h.1
 ·intro W' ho hR'
  obtain⟨hR,_,hB,hL,hE,hI,v,hM,hP⟩:=h
  have k:=VN hR ho
  exact⟨hR',dB 1 hl,box_kp hB k (by decide),hL.only ho,own_kp hE k (by decide),own_kp hI k (by decide),v,k _ _ _ _ hM (by decide),own_kp hP k (by decide)⟩
 ·intro xs s W hxs hI
  obtain⟨hR,hls,hB,hL,hE,hI,v,hM,hP⟩:=hI
  refine(OU B bR bM base (some s) nm tx mj mn vE vI v xs W hR hB hM hP hls (by omega) hb1 hb2 hL.size).mono ?_
  rintro e w' ⟨hu,h1,h2,h3,h4,h5,v',h6,h7⟩
  exact⟨hu,h1,NF hls,box_kp hB h2 (by decide),hL.step h3 h4 h5,own_kp hE h2 (by decide),own_kp hI h2 (by decide),v',h6,h7⟩
end
theorem dW (W:World)(base:Nat):zeroMod.own W base:=⟨World.ownsRow_nil _ _ _ _,World.ownsRow_nil _ _ _ _,World.ownsRow_nil _ _ _ _⟩
theorem oH {l:List UInt8}(h:dO l≠0):iD l=zeroMod:=by unfold iD;rw[if_pos h]
theorem Tryz.iE :(Tryz.prog.info? 70).map (·.size)=some 7:=by kernel_rfl
theorem Ig (l:List UInt8)(w:World)(hl:l.length<=big):
  Calls Tryz.prog 56 #[.string (sof l)] w fun e w'=>(∃m:Mod,e=.returned (.tuple #[m.v,.int .i64 (dO l)])/\m.ok w'/\m.own w' w.heap.size/\gI m (iD l))/\Below w.heap.size w w':=by
 obtain⟨W0,hW0⟩:∃W,W=((w.alloc (.cells #[.string ⟨#[]⟩,.int .i64 0,.int .i64 0,.string ⟨#[]⟩,.slice none 0 0,.slice none 0 0,.slice none 0 0] 70)).alloc (.cells #[.string (sof l),.bool false] 188)).alloc (.cells #[.pointer (some ⟨w.heap.size+1,0,none⟩)] 186):=⟨_,rfl⟩
 have HW0:=Hp hW0.symm
 have zW:W0.heap.size=w.heap.size+1+1+1:=by subst hW0;simp
 have hRd:Rd (w.heap.size+1) (some l) W0:=by
  subst hW0
  unfold Rd
  rw[heap_alloc_old _ _ (by simp)]
  exact heap_alloc2_new w _ _
 have hBx:Boxed W0 (w.heap.size+1+1) 186 (.pointer (some ⟨w.heap.size+1,0,none⟩)):=by
  subst hW0
  have:=Boxed.new ((w.alloc (.cells #[.string ⟨#[]⟩,.int .i64 0,.int .i64 0,.string ⟨#[]⟩,.slice none 0 0,.slice none 0 0,.slice none 0 0] 70)).alloc (.cells #[.string (sof l),.bool false] 188)) 186 (.pointer (some ⟨w.heap.size+1,0,none⟩))
  simpa using this
 have hZ0:W0.heap[w.heap.size]? =some (.cells #[.string ⟨#[]⟩,.int .i64 0,.int .i64 0,.string ⟨#[]⟩,.slice none 0 0,.slice none 0 0,.slice none 0 0] 70 (0,0)):=by
  subst hW0
  rw[heap_alloc_old _ _ (by simp;omega),heap_alloc2_old]
 have hBel:Below w.heap.size w W0:=by
  subst hW0
  exact((ZB).alloc (by simp) _).alloc (by simp;omega) _
 have hl0:(left (some l)).length<=big:=hl
 have hla:(left (d0 l).2).length<=big:=wS hl0
 have hlb:(left (d1 l).2).length<=big:=dB 1 hla
 have hlc:(left (d2 l).2).length<=big:=dB 1 hlb
 have hld:(left (d3 l).2).length<=big:=dB 2 hlc
 have hle:(left (d4 l).2).length<=big:=dB _ hld
 have r3:=dZ 2 (d2 l).2 (by omega)
 change 0<=(d3 l).1/\(d3 l).1<=65535 at r3
 obtain⟨n,hn⟩:∃n:Nat,(d3 l).1=n:=⟨(d3 l).1.toNat,by omega⟩
 have c0:=Hp (fun W hW=>rJ (w.heap.size+1) (some l) W hW hl0)
 change Hid (∀W,_->Calls _ _ _ W fun e w'=>e=.returned (.string (sof (d0 l).1))/\Rd _ (d0 l).2 w'/\_)at c0
 have c1:=Hp (fun W hW=>eY (w.heap.size+1) (d0 l).2 1 W hW hla (by omega) (by omega))
 change Hid (∀W,_->Calls _ _ #[_,.int .i64 1] W fun e w'=>e=.returned (.int .i64 (d1 l).1)/\Rd _ (d1 l).2 w'/\_)at c1
 have c2:=Hp (fun W hW=>eY (w.heap.size+1) (d1 l).2 1 W hW hlb (by omega) (by omega))
 change Hid (∀W,_->Calls _ _ #[_,.int .i64 1] W fun e w'=>e=.returned (.int .i64 (d2 l).1)/\Rd _ (d2 l).2 w'/\_)at c2
 have c3:=Hp (fun W hW=>eY (w.heap.size+1) (d2 l).2 2 W hW hlc (by omega) (by omega))
 change Hid (∀W,_->Calls _ _ #[_,.int .i64 2] W fun e w'=>e=.returned (.int .i64 (d3 l).1)/\Rd _ (d3 l).2 w'/\_)at c3
 have c4:=Hp (fun W hW=>VI (w.heap.size+1) (d3 l).2 n W hW hld (by omega))
 have hn2:txt n (d3 l).2=d4 l:=by unfold d4;rw[hn];rfl
 rw[hn2]at c4
 rw[hn]at c3
 obtain⟨a0,ha0⟩:=Nm (sof (d0 l).1)
 obtain⟨a1,ha1⟩:∃a,a=(d1 l).1:=⟨_,rfl⟩
 obtain⟨a2,ha2⟩:∃a,a=(d2 l).1:=⟨_,rfl⟩
 obtain⟨a3,ha3⟩:=Nm (sof (d4 l).1)
 rw[<-ha0]at c0
 rw[<-ha1]at c1
 rw[<-ha2]at c2
 rw[<-ha3]at c4
 have HA0:=Hp ha0
 have HA1:=Hp ha1
 have HA2:=Hp ha2
 have HA3:=Hp ha3
 obtain⟨s1,hs1⟩:∃s,s=(d0 l).2:=⟨_,rfl⟩
 obtain⟨s2,hs2⟩:∃s,s=(d1 l).2:=⟨_,rfl⟩
 obtain⟨s3,hs3⟩:∃s,s=(d2 l).2:=⟨_,rfl⟩
 obtain⟨s4,hs4⟩:∃s,s=(d3 l).2:=⟨_,rfl⟩
 obtain⟨s5,hs5⟩:∃s,s=(d4 l).2:=⟨_,rfl⟩
 rw[<-hs1]at c0 c1
 rw[<-hs2]at c1 c2
 rw[<-hs3]at c2 c3
 rw[<-hs4]at c3 c4
 rw[<-hs5]at c4 hle
 have HS5:=Hp hs5
 have HLE:=Hp hle
 have HZ0:=Hp hZ0
 have HBEL:=Hp hBel
 have RW:=Hp hRd
 have BW:=Hp hBx
 have ZW:=Hp zW
 have hbR:w.heap.size+1+1<W0.heap.size:=by omega
 have qw:=hBx.cell
 clear hW0 zW hRd hBx hZ0 hBel hl0 hla hlb hlc hld hle r3 hn hn2 ha0 ha1 ha2 ha3 hs1 hs2 hs3 hs4 hs5
 go_enter Tryz.func56,Tryz.ntmps56
 go_wp2_with fail
 rw[HW0.out]
 refine(c0.out _ RW.out).mono ?_
 rintro e u0 ⟨rfl,h0,ho0⟩
 have k0:=Hp (ho0.kp RW.out (ts:=[188]) (by simp))
 have z0:=ho0.size
 obtain⟨bM,hbM⟩:=Nm u0.heap.size
 have hbMw:w.heap.size+1+1<bM:=by omega
 obtain⟨v0,hv0⟩:=Nm (u0.alloc (.cells #[.string a0,.int .i64 0,.int .i64 0,.string ⟨#[]⟩,.slice none 0 0,.slice none 0 0,.slice none 0 0] 70))
 have HV0:=Hp hv0.symm
 have b0:∀k,k<u0.heap.size->v0.heap[k]? =u0.heap[k]?:=fun k hk=>hv0▸heap_alloc_old u0 _ hk
 have M0:=Hp (show MB v0 bM a0 0 0 ⟨#[]⟩ (.slice none 0 0) (.slice none 0 0) (.slice none 0 0) from hbM▸hv0▸heap_alloc_new _ _)
 have R0:=Hp (show Rd (w.heap.size+1) s1 v0 from(b0 _ h0.lt).trans h0)
 have N0:=Hp (show∀k,k<bM->k≠w.heap.size+1->v0.heap[k]? =W0.heap[k]?\/W0.heap.size<=k from fun k hk h1=>by
  by_cases hk2:k<W0.heap.size
  ·exact .inl ((b0 k (by omega)).trans (ho0.block k hk2 h1))
  ·exact .inr (by omega))
 have O0:=Hp (show v0.os=W0.os/\v0.tape=W0.tape/\v0.output=W0.output from hv0▸⟨ho0.os,ho0.tape,ho0.output⟩)
 have B0:=Hp (show Boxed v0 (w.heap.size+1+1) 186 (.pointer (some ⟨w.heap.size+1,0,none⟩)) from(box_kp BW.out k0.out (by decide)).alloc _ |> fun h=>hv0▸h)
 have zv0:v0.heap.size=bM+1:=by rw[hv0,hbM];simp
 have qu:=(box_kp BW.out k0.out (by decide)).cell
 have hbR2:w.heap.size+1+1<u0.heap.size:=by omega
 have ZV0:=Hp (show bM+1<=v0.heap.size by omega)
 have HBM:=Hp hbM
 clear h0 ho0 hv0 b0 qw zv0 hbM
 go_wp2_with fail
 rw[HV0.out,<-HBM.out]
 refine(c1.out _ R0.out).mono ?_
 rintro e u1 ⟨rfl,h1,ho1⟩
 have k1:=Hp (ho1.kp R0.out (ts:=[188]) (by simp))
 have MU1:=Hp (show MB u1 bM a0 0 0 ⟨#[]⟩ (.slice none 0 0) (.slice none 0 0) (.slice none 0 0) from k1.out _ _ _ _ M0.out (by decide))
 have BU1:=Hp (box_kp B0.out k1.out (by decide))
 have ZU1:=Hp (GY1 ZV0 ho1.size)
 have NU1:=Hp (show∀k,k<bM->k≠w.heap.size+1->u1.heap[k]? =v0.heap[k]? from fun k hk h1=>ho1.block k (by have:=ZV0.out;omega) h1)
 have p0_1:=heap_cell (show u1.heap[bM]? =_ from MU1.out) 1
 have p1_1:=heap_free (show u1.heap[bM]? =_ from MU1.out) 1
 simp only[GZ2,GZ1,GZ0]at p0_1
 obtain⟨v1,hv1⟩:=Nm (u1.setCell ⟨bM,1,none⟩ (.int .i64 a1))
 have hv1':=hv1.symm
 have s1:∀k,k≠bM->v1.heap[k]? =u1.heap[k]?:=fun k hk=>by rw[hv1];exact Below.heap_setCell _ _ _ _ hk
 have M1:=Hp (show MB v1 bM a0 a1 0 ⟨#[]⟩ (.slice none 0 0) (.slice none 0 0) (.slice none 0 0) from by unfold MB;rw[hv1,heap_setCell_same u1 bM 1 _ _ _ MU1.out];rfl)
 have R1:=Hp (show Rd (w.heap.size+1) s2 v1 from(s1 _ (by omega)).trans h1)
 have B1:=Hp (show Boxed v1 (w.heap.size+1+1) 186 (.pointer (some ⟨w.heap.size+1,0,none⟩)) from(s1 _ (by omega)).trans BU1.out)
 have ZV1:=Hp (show bM+1<=v1.heap.size by have:=ZU1.out;rw[hv1];simpa using this)
 have N1:=Hp (show∀k,k<bM->k≠w.heap.size+1->v1.heap[k]? =W0.heap[k]?\/W0.heap.size<=k from fun k hk h1=>by
  rw[s1 k (by omega),NU1.out k hk h1];exact N0.out k hk h1)
 have O1:=Hp (show v1.os=W0.os/\v1.tape=W0.tape/\v1.output=W0.output from hv1▸⟨ho1.os.trans O0.out.1,ho1.tape.trans O0.out.2.1,ho1.output.trans O0.out.2.2⟩)
 have qv1:=B1.cell
 clear h1 ho1 hv1 s1
 go_wp2_with fail
 refine(c2.out _ R1.out).mono ?_
 rintro e u2 ⟨rfl,h2,ho2⟩
 have k2:=Hp (ho2.kp R1.out (ts:=[188]) (by simp))
 have MU2:=Hp (show MB u2 bM a0 a1 0 ⟨#[]⟩ (.slice none 0 0) (.slice none 0 0) (.slice none 0 0) from k2.out _ _ _ _ M1.out (by decide))
 have BU2:=Hp (box_kp B1.out k2.out (by decide))
 have ZU2:=Hp (GY1 ZV1 ho2.size)
 have NU2:=Hp (show∀k,k<bM->k≠w.heap.size+1->u2.heap[k]? =v1.heap[k]? from fun k hk h1=>ho2.block k (by have:=ZV1.out;omega) h1)
 have p0_2:=heap_cell (show u2.heap[bM]? =_ from MU2.out) 2
 have p1_2:=heap_free (show u2.heap[bM]? =_ from MU2.out) 2
 simp only[GZ2,GZ1,GZ0]at p0_2
 obtain⟨v2,hv2⟩:=Nm (u2.setCell ⟨bM,2,none⟩ (.int .i64 a2))
 have hv2':=hv2.symm
 have s2:∀k,k≠bM->v2.heap[k]? =u2.heap[k]?:=fun k hk=>by rw[hv2];exact Below.heap_setCell _ _ _ _ hk
 have M2:=Hp (show MB v2 bM a0 a1 a2 ⟨#[]⟩ (.slice none 0 0) (.slice none 0 0) (.slice none 0 0) from by unfold MB;rw[hv2,heap_setCell_same u2 bM 2 _ _ _ MU2.out];rfl)
 have R2:=Hp (show Rd (w.heap.size+1) s3 v2 from(s2 _ (by omega)).trans h2)
 have B2:=Hp (show Boxed v2 (w.heap.size+1+1) 186 (.pointer (some ⟨w.heap.size+1,0,none⟩)) from(s2 _ (by omega)).trans BU2.out)
 have ZV2:=Hp (show bM+1<=v2.heap.size by have:=ZU2.out;rw[hv2];simpa using this)
 have N2:=Hp (show∀k,k<bM->k≠w.heap.size+1->v2.heap[k]? =W0.heap[k]?\/W0.heap.size<=k from fun k hk h1=>by
  rw[s2 k (by omega),NU2.out k hk h1];exact N1.out k hk h1)
 have O2:=Hp (show v2.os=W0.os/\v2.tape=W0.tape/\v2.output=W0.output from hv2▸⟨ho2.os.trans O1.out.1,ho2.tape.trans O1.out.2.1,ho2.output.trans O1.out.2.2⟩)
 have qv2:=B2.cell
 clear h2 ho2 hv2 s2
 go_wp2_with fail
 refine(c3.out _ R2.out).mono ?_
 rintro e u3 ⟨rfl,h3,ho3⟩
 have k3:=Hp (ho3.kp R2.out (ts:=[188]) (by simp))
 have MU3:=Hp (show MB u3 bM a0 a1 a2 ⟨#[]⟩ (.slice none 0 0) (.slice none 0 0) (.slice none 0 0) from k3.out _ _ _ _ M2.out (by decide))
 have BU3:=Hp (box_kp B2.out k3.out (by decide))
 have ZU3:=Hp (GY1 ZV2 ho3.size)
 have NU3:=Hp (show∀k,k<bM->k≠w.heap.size+1->u3.heap[k]? =v2.heap[k]? from fun k hk h1=>ho3.block k (by have:=ZV2.out;omega) h1)
 obtain⟨v3,hv3⟩:=Nm u3
 subst hv3
 have M3:=MU3
 have R3:=Hp h3
 have B3:=BU3
 have ZV3:=ZU3
 have N3:=Hp (show∀k,k<bM->k≠w.heap.size+1->v3.heap[k]? =W0.heap[k]?\/W0.heap.size<=k from fun k hk h1=>by
  rw[NU3.out k hk h1];exact N2.out k hk h1)
 have O3:=Hp (show v3.os=W0.os/\v3.tape=W0.tape/\v3.output=W0.output from⟨ho3.os.trans O2.out.1,ho3.tape.trans O2.out.2.1,ho3.output.trans O2.out.2.2⟩)
 have qv3:=B3.cell
 clear h3 ho3
 go_wp2_with fail
 refine(c4.out _ R3.out).mono ?_
 rintro e u4 ⟨rfl,h4,ho4⟩
 have k4:=Hp (ho4.kp R3.out (ts:=[188]) (by simp))
 have MU4:=Hp (show MB u4 bM a0 a1 a2 ⟨#[]⟩ (.slice none 0 0) (.slice none 0 0) (.slice none 0 0) from k4.out _ _ _ _ M3.out (by decide))
 have BU4:=Hp (box_kp B3.out k4.out (by decide))
 have ZU4:=Hp (GY1 ZV3 ho4.size)
 have NU4:=Hp (show∀k,k<bM->k≠w.heap.size+1->u4.heap[k]? =v3.heap[k]? from fun k hk h1=>ho4.block k (by have:=ZV3.out;omega) h1)
 have p0_4:=heap_cell (show u4.heap[bM]? =_ from MU4.out) 3
 have p1_4:=heap_free (show u4.heap[bM]? =_ from MU4.out) 3
 simp only[GZ2,GZ1,GZ0]at p0_4
 obtain⟨v4,hv4⟩:=Nm (u4.setCell ⟨bM,3,none⟩ (.string a3))
 have hv4':=hv4.symm
 have s4:∀k,k≠bM->v4.heap[k]? =u4.heap[k]?:=fun k hk=>by rw[hv4];exact Below.heap_setCell _ _ _ _ hk
 have M4:=Hp (show MB v4 bM a0 a1 a2 a3 (.slice none 0 0) (.slice none 0 0) (.slice none 0 0) from by unfold MB;rw[hv4,heap_setCell_same u4 bM 3 _ _ _ MU4.out];rfl)
 have R4:=Hp (show Rd (w.heap.size+1) s5 v4 from(s4 _ (by omega)).trans h4)
 have B4:=Hp (show Boxed v4 (w.heap.size+1+1) 186 (.pointer (some ⟨w.heap.size+1,0,none⟩)) from(s4 _ (by omega)).trans BU4.out)
 have ZV4:=Hp (show bM+1<=v4.heap.size by have:=ZU4.out;rw[hv4];simpa using this)
 have N4:=Hp (show∀k,k<bM->k≠w.heap.size+1->v4.heap[k]? =W0.heap[k]?\/W0.heap.size<=k from fun k hk h1=>by
  rw[s4 k (by omega),NU4.out k hk h1];exact N3.out k hk h1)
 have O4:=Hp (show v4.os=W0.os/\v4.tape=W0.tape/\v4.output=W0.output from hv4▸⟨ho4.os.trans O3.out.1,ho4.tape.trans O3.out.2.1,ho4.output.trans O3.out.2.2⟩)
 have qv4:=B4.cell
 clear h4 ho4 hv4 s4
 go_wp2_with fail
 have J1:I1 (w.heap.size+1) (w.heap.size+1+1) bM (bM+1) a0 a3 a1 a2 v4 [] s5 v4:=⟨R4.out,HLE.out,B4.out,⟨ZV4.out,fun _ _ _ _=>rfl,rfl,rfl,rfl⟩,.slice none 0 0,M4.out,ExpOwn.nil _ _⟩
 have t1:=Hp (QQ (by omega) (by omega) s5 v4 HLE.out J1)
 rw[show dU gF (aI 1 s5).1.toNat (aI 1 s5).2=d5 l by rw[HS5.out];rfl]at t1
 obtain⟨es,hes⟩:∃x,x=(d5 l).1:=⟨_,rfl⟩
 obtain⟨s6,hs6⟩:∃x,x=(d5 l).2:=⟨_,rfl⟩
 rw[<-hes,<-hs6]at t1
 have HES:=Hp hes
 have HS6:=Hp hs6
 clear hes hs6 J1
 refine(t1.out).mono ?_
 rintro e v5 ⟨⟨u5,rfl⟩,R5,hl5,B5,K5,vE,M5,E5⟩
 have q5:=B5.cell
 have J2:I2 (w.heap.size+1) (w.heap.size+1+1) bM (bM+1) a0 a3 a1 a2 vE es v4 [] s6 v5:=⟨R5,hl5,B5,K5,E5,_,M5,ImpOwn.nil _ _⟩
 have t2:=Hp (QV (by omega) (by omega) s6 v5 hl5 J2)
 rw[show dU Ro (aI 1 s6).1.toNat (aI 1 s6).2=d6 l by rw[HS6.out];rfl]at t2
 obtain⟨is,his⟩:∃x,x=(d6 l).1:=⟨_,rfl⟩
 obtain⟨s7,hs7⟩:∃x,x=(d6 l).2:=⟨_,rfl⟩
 rw[<-his,<-hs7]at t2
 have HIS:=Hp his
 have HS7:=Hp hs7
 clear his hs7 J2 R5 hl5 B5 K5 M5 E5 t1 qv4
 go_wp2_with fail
 refine(t2.out).mono ?_
 rintro e v6 ⟨⟨u6,rfl⟩,R6,hl6,B6,K6,E6,vI,M6,G6⟩
 have q6:=B6.cell
 have J3:I3 (w.heap.size+1) (w.heap.size+1+1) bM (bM+1) a0 a3 a1 a2 vE vI es is v4 [] s7 v6:=⟨R6,hl6,B6,K6,E6,G6,_,M6,PatOwn.nil _ _⟩
 have t3:=Hp (QM (by omega) (by omega) s7 v6 hl6 J3)
 rw[show dU fZ (aI 1 s7).1.toNat (aI 1 s7).2=d7 l by rw[HS7.out];rfl]at t3
 obtain⟨ps,hps⟩:∃x,x=(d7 l).1:=⟨_,rfl⟩
 obtain⟨s8,hs8⟩:∃x,x=(d7 l).2:=⟨_,rfl⟩
 rw[<-hps,<-hs8]at t3
 have HPS:=Hp hps
 have HS8:=Hp hs8
 clear hps hs8 J3 R6 hl6 B6 K6 M6 E6 G6 t2 q5
 go_wp2_with fail
 refine(t3.out).mono ?_
 rintro e v7 ⟨⟨u7,rfl⟩,R7,hl7,B7,K7,E7,G7,vP,M7,P7⟩
 have q7:=B7.cell
 obtain⟨e0,e1,_,_⟩:=R7.cells
 obtain⟨eA,eC,rfl,hE⟩:=E7.row
 obtain⟨iA,iC,rfl,hI⟩:=G7.row
 obtain⟨pA,pC,rfl,hP⟩:=P7.row
 --the block of the result
 have hZ7:v7.heap[w.heap.size]? =some (.cells #[.string ⟨#[]⟩,.int .i64 0,.int .i64 0,.string ⟨#[]⟩,.slice none 0 0,.slice none 0 0,.slice none 0 0] 70 (0,0)):=by
  rw[K7.low _ (by omega) (by omega) (by omega)]
  rcases N4.out w.heap.size (by omega) (by omega)with h|h
  ·rw[h];exact HZ0.out
  ·have:=ZW.out;omega
 have hBel:Below w.heap.size w v7:=by
  refine⟨K7.os.1.trans (O4.out.1.trans HBEL.os),K7.os.2.1.trans (O4.out.2.1.trans HBEL.tape),K7.os.2.2.trans (O4.out.2.2.trans HBEL.output),by have:=K7.size;omega,fun k hk=>?_⟩
  rw[K7.low k (by omega) (by omega) (by omega)]
  rcases N4.out k (by omega) (by omega)with h|h
  ·rw[h];exact HBEL.block k hk
  ·have:=ZW.out;omega
 have z0':=heap_cell hZ7 0
 have z1':=heap_cell hZ7 1
 have z2':=heap_cell hZ7 2
 have z3':=heap_cell hZ7 3
 have z4':=heap_cell hZ7 4
 have z5':=heap_cell hZ7 5
 have z6':=heap_cell hZ7 6
 have zf:=fun o=>heap_free hZ7 o
 have m0:=heap_cell (show v7.heap[bM]? =_ from M7) 0
 have m1:=heap_cell (show v7.heap[bM]? =_ from M7) 1
 have m2:=heap_cell (show v7.heap[bM]? =_ from M7) 2
 have m3:=heap_cell (show v7.heap[bM]? =_ from M7) 3
 have m4:=heap_cell (show v7.heap[bM]? =_ from M7) 4
 have m5:=heap_cell (show v7.heap[bM]? =_ from M7) 5
 have m6:=heap_cell (show v7.heap[bM]? =_ from M7) 6
 simp only[GZ2,GZ1,GZ0]at z0' z1' z2' z3' z4' z5' z6' m0 m1 m2 m3 m4 m5 m6
 have HZ7:=Hp hZ7
 have HB7:=Hp hBel
 have hbw7:w.heap.size<v7.heap.size:=by have:=K7.size;omega
 have hbM7:bM<v7.heap.size:=by have:=K7.size;omega
 have HE1:=Hp E7
 have HI1:=Hp G7
 have HP1:=Hp P7
 have HQ:=Hp (show es.length<=big/\(∀x∈es,x.name.size<=big)/\is.length<=big/\(∀x∈is,x.mod.size<=big/\x.name.size<=big)/\ps.length<=big/\a0.size<=big/\a3.size<=big by
  have hs:=HES.out
  have h1:=jC gF (aI 1 (d4 l).2).1.toNat (aI 1 (d4 l).2).2
  have h2:=Ru (d4 l).2
  have h3:=jC Ro (aI 1 (d5 l).2).1.toNat (aI 1 (d5 l).2).2
  have h4:=Ru (d5 l).2
  have h5:=jC fZ (aI 1 (d6 l).2).1.toNat (aI 1 (d6 l).2).2
  have h6:=Ru (d6 l).2
  have g1:es.length<=255:=by rw[hs];show(dU gF _ _).1.length<=_;omega
  have g2:is.length<=255:=by rw[HIS.out];show(dU Ro _ _).1.length<=_;omega
  have g3:ps.length<=255:=by rw[HPS.out];show(dU fZ _ _).1.length<=_;omega
  have nb:∀st,(sof (nam st).1).size<=big:=fun st=>by rw[kH];have:=NS st;unfold big;omega
  refine⟨by unfold big;omega,?_,by unfold big;omega,?_,by unfold big;omega,?_,?_⟩
  ·rw[hs];exact Tq (Q:=fun x:Exp=>x.name.size<=big) (fun st=>nb st) _ _
  ·rw[HIS.out];exact Tq (Q:=fun x:Imp=>x.mod.size<=big/\x.name.size<=big) (fun st=>⟨nb st,nb _⟩) _ _
  ·rw[HA0.out];exact nb _
  ·rw[HA3.out,kH]
   have h7:=Ia (d3 l).1.toNat (d3 l).2
   have h8:=(dZ 2 (d2 l).2 (by omega)).2
   change(d3 l).1<=65535 at h8
   show(txt _ _).1.length<=_
   unfold big;omega)
 clear hE hI hP
 clear R7 hl7 B7 K7 M7 E7 G7 P7 t3 q6 hZ7 hBel
 cases s8 with
 |none=>
  simp only[Option.isNone_none]at e1
  have HERR:=Hp (show dO l=1 by unfold dO;rw[<-HS8.out,if_pos (by simp)])
  clear e0 m0 m1 m2 m3 m4 m5 m6 HE1 HI1 HP1
  go_wp2_with fail
  obtain⟨hg,ho⟩:=set7 HZ7.out (.string ⟨#[]⟩) (.int .i64 0) (.int .i64 0) (.string ⟨#[]⟩) (.slice none 0 0) (.slice none 0 0) (.slice none 0 0)
  refine bodyPost_ret (results_cell_tmp rfl _ _ w.heap.size 70 _ (0,0) _ rfl hg Tryz.underlying70 rfl Tryz.iE) rfl ?_
  refine⟨⟨zeroMod,by rw[HERR.out];rfl,zero_ok _,dW _ _,by rw[oH (by rw[HERR.out];decide)];exact⟨rfl,rfl,rfl,rfl,rfl,rfl,rfl⟩⟩,HB7.trans (ho.below (by omega))⟩
 |some r=>
  simp only[Option.isNone_some,left]at e1 e0
  by_cases hr:r=[]
  ·subst hr
   obtain⟨mm,hmm⟩:∃mm:Mod,mm=⟨a0,a1,a2,a3,es,is,ps,eA,eC,iA,iC,pA,pC⟩:=⟨_,rfl⟩
   have hok:mm.ok v7:=by
    rw[hmm]
    exact mk_ok HE1.out HI1.out HP1.out HQ.out
   have hsame:gI mm (pQ l):=by
    rw[hmm]
    exact⟨HA0.out,HA1.out,HA2.out,HA3.out,HES.out,HIS.out,HPS.out⟩
   have cC:=Hp (oM mm v7 hok)
   have HERR:=Hp (show aL mm=dO l by unfold dO;rw[<-HS8.out,if_neg (by simp)];exact hsame.err)
   have HSAME:=Hp hsame
   have HMM:=Hp hmm
   have hmv:mm.v=.agg #[.string a0,.int .i64 a1,.int .i64 a2,.string a3,.slice eA es.length eC,.slice iA is.length iC,.slice pA ps.length pC]:=by rw[hmm]
   have HMV:=Hp hmv
   rw[hmv]at cC
   obtain⟨E,hE⟩:=Nm (aL mm)
   rw[<-hE]at cC HERR
   clear hmm hok hsame hmv hE
   by_cases t0:E=0
   ·subst t0
    go_wp2_with (go_at_call 113;refine(cC.out).mono ?_;rintro e w8 ⟨rfl,hb8⟩;obtain⟨hc8,hf8⟩:=aJ hb8)
    obtain⟨hg,ho⟩:=set7 ((hb8.block _ hbw7).trans HZ7.out) (.string a0) (.int .i64 a1) (.int .i64 a2) (.string a3) (.slice eA es.length eC) (.slice iA is.length iC) (.slice pA ps.length pC)
    refine bodyPost_ret (results_cell_tmp rfl _ _ w.heap.size 70 _ (0,0) _ rfl hg Tryz.underlying70 rfl Tryz.iE) rfl ?_
    refine⟨⟨mm,by rw[<-HERR.out,HMV.out];rfl,?_,?_,?_⟩,HB7.trans ((hb8.mono (by omega)).trans (ho.below (by have:=hb8.size;omega)))⟩
    ·have hk:∀g,bM+1<=g->g<v7.heap.size->_:=fun g h1 h2=>(ho.block g (by have:=hb8.size;omega) (by omega)).trans (hb8.block g h2)
     rw[HMM.out]
     exact mk_ok (own_same HE1.out hk) (own_same HI1.out hk) (own_same HP1.out hk) HQ.out
    ·have hk:∀g,bM+1<=g->g<v7.heap.size->_:=fun g h1 h2=>(ho.block g (by have:=hb8.size;omega) (by omega)).trans (hb8.block g h2)
     rw[HMM.out]
     exact⟨RH (own_same HE1.out hk) (by omega),RH (own_same HI1.out hk) (by omega),RH (own_same HP1.out hk) (by omega)⟩
    ·rw[show iD l=pQ l by unfold iD;rw[if_neg (by rw[<-HERR.out];decide)]]
     exact HSAME.out
   ·have t0':(E != 0)=true:=by simp[t0]
    have hne:dO l≠0:=by rw[<-HERR.out];exact t0
    have HNE:=Hp hne
    clear t0 hne
    go_wp2_with (go_at_call 113;refine(cC.out).mono ?_;rintro e w8 ⟨rfl,hb8⟩;obtain⟨hc8,hf8⟩:=aJ hb8)
    obtain⟨hg,ho⟩:=set7 ((hb8.block _ hbw7).trans HZ7.out) (.string ⟨#[]⟩) (.int .i64 0) (.int .i64 0) (.string ⟨#[]⟩) (.slice none 0 0) (.slice none 0 0) (.slice none 0 0)
    refine bodyPost_ret (results_cell_tmp rfl _ _ w.heap.size 70 _ (0,0) _ rfl hg Tryz.underlying70 rfl Tryz.iE) rfl ?_
    exact⟨⟨zeroMod,by rw[<-HERR.out];rfl,zero_ok _,dW _ _,by rw[oH HNE.out];exact⟨rfl,rfl,rfl,rfl,rfl,rfl,rfl⟩⟩,HB7.trans ((hb8.mono (by omega)).trans (ho.below (by have:=hb8.size;omega)))⟩
  ·have hre:r.isEmpty=false:=by simp[hr]
   have HERR:=Hp (show dO l=1 by unfold dO;rw[<-HS8.out,if_pos (by simp[hr])])
   clear m0 m1 m2 m3 m4 m5 m6 HE1 HI1 HP1 hr
   go_wp2_with fail
   obtain⟨hg,ho⟩:=set7 HZ7.out (.string ⟨#[]⟩) (.int .i64 0) (.int .i64 0) (.string ⟨#[]⟩) (.slice none 0 0) (.slice none 0 0) (.slice none 0 0)
   refine bodyPost_ret (results_cell_tmp rfl _ _ w.heap.size 70 _ (0,0) _ rfl hg Tryz.underlying70 rfl Tryz.iE) rfl ?_
   refine⟨⟨zeroMod,by rw[HERR.out];rfl,zero_ok _,dW _ _,by rw[oH (by rw[HERR.out];decide)];exact⟨rfl,rfl,rfl,rfl,rfl,rfl,rfl⟩⟩,HB7.trans (ho.below (by omega))⟩
end
section
open Go.RowKit
abbrev KV :Value:=.agg #[.int .i64 0,.int .i64 0,.int .i64 0]
theorem Tryz.Ot :(Tryz.prog.info? 60).map (fun i=>(i.zero,i.size,i.bytes))=some (some KV,3,24):=by kernel_rfl
def mZ (w:World)(base:Nat)(v:Value)(l:List Ded):Prop:=w.ownsRow base 60 3 v l.length (l.flatMap Ded.cells)
theorem PD (l:List Ded):∀u∈l.flatMap Ded.cells,u.oneCell'=true:=by
 intro u hu
 obtain⟨x,_,hx⟩:=List.mem_flatMap.1 hu
 simp only[Ded.cells,List.mem_cons,List.not_mem_nil,or_false]at hx
 rcases hx with rfl|rfl|rfl<;>rfl
theorem mZ.row {w:World}{base:Nat}{A:Option Addr}{n c:Nat}{l:List Ded}(h:mZ w base (.slice A n c) l):Row Ded.cells 3 w A l:=by
 obtain⟨A',c',e⟩:=bG h
 injection e with e1 e2 e3
 subst e1 e2 e3
 exact Reads.of_own h
theorem mZ.below {w w':World}{base B:Nat}{v:Value}{l:List Ded}(h:mZ w base v l)(hb:Below B w w')(hB:w.heap.size<=B):mZ w' base v l:=by
 refine⟨h.1,?_⟩
 rcases h.2 with h0|⟨g,cap,cur,e1,e2,e3,e4⟩
 ·exact .inl h0
 ·refine .inr ⟨g,cap,cur,e1,e2,?_,e4⟩
  have:g<w.heap.size:=(ZL e3)
  rw[hb.block g (by omega)];exact e3
theorem mZ.eT {w:World}{base:Nat}{v:Value}{l:List Ded}{O:Nat}{cs:Array Value}{t:TypeId}{fr:Nat×Nat}(h:mZ w base v l)(hO:w.heap[O]? =some (.cells cs t fr))(ht:t≠60)(o:Nat)(x:Value):mZ (w.setCell ⟨O,o,none⟩ x) base v l:=by
 refine ownsRow_setCell_other (a:=⟨O,o,none⟩) h (fun hv=>?_) x
 rcases h.2 with⟨rfl,_⟩|⟨g,cap,cur,rfl,_,e3,_⟩
 ·cases hv
 ·simp only[Value.ownBlock]at hv
  have:g=O:=by simpa using hv
  subst this
  rw[e3]at hO
  injection hO with hO
  injection hO with _ h2 _
  exact ht h2.symm
theorem Lg (W:World){ops:Array Oper}{o:Oper}{a:Act}{K:Act->World->Prop}{Q:Exit->Act->World->Prop}{E:Prop}(hgd:o.guard=none)(s x:Operand)
  (ho:o.op=.call {callee:=.builtin .append,args:=#[s,x],argTypes:=#[52,52]}) (base:Nat) (v:Value) (l0:List Ded) (hs:a.eval s=v) (hown:mZ W base v l0)
  (A:Option Addr) (c:Nat) (l1:List Ded) (hx:a.eval x=.slice A l1.length c) (hr:Row Ded.cells 3 W A l1) (hlen:l0.length+l1.length<=1000000) (hbase:base<=W.heap.size)
  (h:∀v' w',mZ w' base v' (l0++l1)->Below base W w'->K (a.put o.dst v') w'):if Region.wanted o (yielded ops a.tmps)=true then Oper.wp Tryz.prog o a W K Q else E:=by
 obtain⟨i0,hi,hz0,hz1,hz2⟩:=info_parts Tryz.Ot
 refine jX W hgd s x 52 ho base 60 i0 KV 3 24 Tryz.underlying52 hi hz0 hz1 hz2 rfl (by decide) v l0.length (l0.flatMap Ded.cells) hs hown W.heap.size A l1.length c (l1.flatMap Ded.cells) hx hr
  (PD l1) (by simp only[maxLen];omega) (by omega) hbase ?_
 intro v' w' h1 h2 _
 refine h v' w' ?_ ((GZ4 base W).grown h2 hbase (iW hown))
 unfold mZ
 rw[GZ8,List.flatMap_append];exact h1
def PSt (w:World)(P:Nat)(D:List Ded):Prop:=
 ∃(A:Option Addr)(c:Nat),w.heap[P]? =some (.cells #[.slice A D.length c] 214 (0,0))/\mZ w (P+1) (.slice A D.length c) D
theorem OB {w:World}{P:Nat}{D:List Ded}{d:Ded}{A A':Option Addr}{c c':Nat}(hJ:w.heap[P]? =some (.cells #[.slice A D.length c] 214 (0,0)))
  (hO:mZ w (P+1) (.slice A' (D++[d]).length c') (D++[d])):PSt (w.setCell ⟨P,0,none⟩ (.slice A' (D.length+1) c')) P (D++[d]):=by
 have hl:D.length+1=(D++[d]).length:=by simp
 rw[hl]
 exact⟨A',c',heap_setCell_same w P 0 _ _ (.slice A' (D++[d]).length c') hJ,hO.eT hJ (by decide) 0 _⟩
theorem PSt.below {w w':World}{P b:Nat}{D:List Ded}(h:PSt w P D)(hb:Below b w w')(hw:w.heap.size<=b):PSt w' P D:=by
 obtain⟨A,c,hJ,hO⟩:=h
 have:=(ZL hJ)
 exact⟨A,c,(hb.block P (by omega)).trans hJ,hO.below hb hw⟩
theorem iH (a:Nat)(l:List UInt8):(jM a l).length<=l.length:=by
 induction l generalizing a with
 |nil=>exact GZ3 _
 |cons c l ih=>
  unfold jM
  have:=ih (a+1)
  split
  ·rw[GY8];omega
  ·rw[GY8,GY8];omega
theorem JY {l:List UInt8}{j:Nat}(h:j<l.length):l.take (j+1)=l.take j++[l.getD j 0]:=by
 rw[List.take_succ_eq_append_getElem h,getD_lt h]
theorem VO (P a:Nat)(s:ByteArray)(D:List Ded)(w:World)(hs:s.size<=5000)(ha:a<=100000)(hD:D.length<=20000)(hP:PSt w P D):
  Calls Tryz.prog 169 #[.pointer (some ⟨P,0,none⟩),.int .i64 a,.string s] w fun e w'=>Below P w w'/\PSt w' P (D++jM a (bytesOf s))/\∃u,e=.returned u:=by
 have HP:=Hp hP
 have hsl:(bytesOf s).length=s.size:=RB s
 have HSL:=Hp hsl
 clear hP hsl
 go_enter Tryz.func169,Tryz.ntmps169
 go_wp2_with fail
 go_loopw [9] (fun i wr=>∃j:Nat,j<=s.size/\i=.int .i64 j/\PSt wr P (D++jM a ((bytesOf s).take j))/\Below P w wr) (fun i _=>s.size -(intOf i).toNat)
 case atStart=>exact⟨0,Nat.zero_le _,rfl,by rw[List.take_zero];simpa[jM]using HP.out,GZ4 _ _⟩
 case round=>
  obtain⟨j,hj,rfl,hJ,hb⟩:=hrel
  have HJ:=Hp hJ
  have HB:=Hp hb
  by_cases hlt:j<s.size
  ·have hlt':(j:Int)<s.size:=by omega
   have hsn:=JY (l:=bytesOf s) (j:=j) (by rw[HSL.out];exact hlt)
   have ix:=bZ s j hlt
   obtain⟨c,hc⟩:∃c,c=(bytesOf s).getD j 0:=⟨_,rfl⟩
   rw[<-hc]at ix hsn
   have hx8:c.toNat<256:=kJ _
   have hap:=IP a ((bytesOf s).take j) c
   rw[GY6,HSL.out,show min j s.size=j by omega,<-hsn]at hap
   have HAP:=Hp hap
   obtain⟨x,hx⟩:=Nm c.toNat
   rw[<-hx]at ix hx8
   obtain⟨D',hD'⟩:∃D',D'=D++jM a ((bytesOf s).take j):=⟨_,rfl⟩
   have hDl:D'.length<=30000:=by
    have:=iH a ((bytesOf s).take j)
    rw[GY6,HSL.out]at this
    rw[hD',GZ8];omega
   rw[<-hD']at hJ
   by_cases t:c=255
   ·rw[if_pos t,List.append_nil]at hap
    have hx2:((x:Int) != 255)=false:=by
     have:x=255:=by rw[hx,t];rfl
     rw[this];rfl
    have HAPX:=Hp hap
    clear hJ hb hsn hc hap hx hD' t
    go_wp2_with fail
    go_roundw
    case rel=>exact⟨j+1,hlt,by go_num,by rw[HAPX.out];exact HJ.out,HB.out⟩
    case measure=>(simp[intOf];try omega)
   ·rw[if_neg t]at hap
    have hx2:((x:Int) != 255)=true:=by
     have:x≠255:=fun e=>t (by rw[<-UInt8.toNat_inj,<-hx,e];rfl)
     simp;omega
    obtain⟨A,c0,hJ,hO⟩:=hJ
    obtain⟨q,hq⟩:=Nm (a+j)
    rw[<-hq,<-hx]at hap
    have HAPX:=Hp (show D++jM a ((bytesOf s).take (j+1))=D'++[⟨1,(q:Int),(x:Int)⟩] by rw[hap,hD',List.append_assoc])
    have q4:IntKind.i64.wrap ((a:Int)+j)=(q:Int):=by rw[IntWalk.i64_in _ (by omega)];omega
    have q5:IntKind.i64.wrap (x:Int)=x:=IntWalk.i64_in _ (by omega)
    have s0:=cell_of_heap hJ 0
    have f0:=aQ hJ 0
    simp only[GZ2,GZ0]at s0
    have hPl:P<wr.heap.size:=(ZL hJ)
    have HOA:=Hp (show∀o:Obj,mZ (wr.alloc o).drew (P+1) (.slice A D'.length c0) D' from fun o=>World.ownsRow.alloc hO o)
    have HRA:=Hp (show Row Ded.cells 3 (wr.alloc (.cells #[.int .i64 1,.int .i64 (q:Int),.int .i64 (x:Int)] 60)).drew (some ⟨wr.heap.size,0,none⟩) [⟨1,(q:Int),(x:Int)⟩] from pF (enc:=Ded.cells) (k:=3) (fun _=>rfl) (heap_alloc_new wr (.cells #[.int .i64 1,.int .i64 (q:Int),.int .i64 (x:Int)] 60)) rfl)
    have HJA:=Hp (show∀o:Obj,(wr.alloc o).drew.heap[P]? =some (.cells #[.slice A D'.length c0] 214 (0,0)) from fun o=>(Below.heap_alloc wr o P hPl).trans hJ)
    have HBA:=Hp (show∀o:Obj,Below P wr (wr.alloc o).drew from fun o=>((GZ4 _ _).alloc (GY2 hPl) o).drew)
    have HLR:=Hp (show D'.length+([⟨1,(q:Int),(x:Int)⟩]:List Ded).length<=1000000 by simp only[List.length_singleton];omega)
    have HBS:=Hp (show∀o:Obj,P+1<=(wr.alloc o).drew.heap.size from fun o=>by have:wr.heap.size<=(wr.alloc o).heap.size:=(by simp);show P+1<=(wr.alloc o).heap.size;omega)
    clear hJ hb hsn hc hap hx hD' t hO hq hDl
    go_upto_region 4 with fail
    go_region_law ((refine Lg _ (by rfl) (.tmp 20) (.tmp 29) (by rfl) (P+1) (.slice A D'.length c0) D' (by rfl) (HOA.out _) (some ⟨wr.heap.size,0,none⟩) 1 [⟨1,(q:Int),(x:Int)⟩] (by rfl) HRA.out HLR.out (HBS.out _) ?_;intro v' w2 ho2 hb2;obtain⟨A',c',rfl⟩:=bG ho2;have hJ2:=(hb2.block P (Nat.lt_succ_self P)).trans (HJA.out _);have z2:=cell_of_heap hJ2 0;have zf:=aQ hJ2 0;simp only[GZ2,GZ0]at z2;have HPN:=Hp (OB hJ2 ho2);have HB2:=Hp (HB.trans ((HBA.out _).trans (hb2.mono (Nat.le_succ P))));clear hJ2 ho2 hb2))
    all_goals(
     go_wp2_with fail
     go_roundw
     case rel=>exact⟨j+1,hlt,by go_num,by rw[HAPX.out];exact HPN.out,HB2.setCell (p:=⟨P,0,none⟩) (GZ3 _) _⟩
     case measure=>(simp[intOf];try omega))
  ·obtain rfl:j=s.size:=by omega
   have HE:=Hp (show(bytesOf s).take s.size=bytesOf s from List.take_of_length_le (by rw[HSL.out];exact GZ3 _))
   clear hJ hb
   go_wp2_with fail
   go_end0
   exact⟨HB.out,by rw[<-HE.out];exact HJ.out,_,rfl⟩
end
section
open Go.RowKit
theorem MC {P:Program}{e src dst:TypeId}(hs:P.underlying src=some (.slice e))(he:P.underlying e=some (.int .u8))(hd:P.underlying dst=some .string)(W:World)(x0 x1 x2 x3:Int):
  (convert src dst (.slice (some ⟨W.heap.size,0,none⟩) 4 4)).run P (W.alloc (.cells #[.int .u8 x0,.int .u8 x1,.int .u8 x2,.int .u8 x3] e)).drew=.ok (.string (ofBytes [UInt8.ofNat x0.toNat,UInt8.ofNat x1.toNat,UInt8.ofNat x2.toNat,UInt8.ofNat x3.toNat])) (W.alloc (.cells #[.int .u8 x0,.int .u8 x1,.int .u8 x2,.int .u8 x3] e)).drew:=
 run_convert_bytes_arg (P:=P) (W.alloc (.cells #[.int .u8 x0,.int .u8 x1,.int .u8 x2,.int .u8 x3] e)).drew src e hs he W.heap.size 0 4 4 [x0,x1,x2,x3] rfl (fun i hi=>by
  have hh:(W.alloc (.cells #[.int .u8 x0,.int .u8 x1,.int .u8 x2,.int .u8 x3] e)).drew.heap[W.heap.size]? =some (.cells #[.int .u8 x0,.int .u8 x1,.int .u8 x2,.int .u8 x3] e (0,0)):=heap_alloc_new _ _
  rw[cell_of_heap hh (0+i)]
  match i,hi with
  |0,_|1,_|2,_|3,_=>rfl) dst hd
theorem Dm (f:Fl)(w:World)(h:f.ok w)(hf:bP f.bl=0)(hj:Re (flat f.bl)=none):Calls Tryz.prog 96 #[f.v] w fun e w'=>e=.returned (.tuple #[.pointer none,.bool false])/\Below w.heap.size w w':=by
 refine(Gu f w h hf).mono fun e w' hp=>?_
 obtain⟨h1,h2⟩:=hp
 rw[hj]at h2
 exact⟨h2,h1⟩
theorem ED (f:Fl)(w:World)(h:f.ok w)(hf:bP f.bl=0)(k:Nat)(r:List ByteArray)(e:Nat)(hj:Re (flat f.bl)=some (k,r,e)):Calls Tryz.prog 96 #[f.v] w fun en w'=>Below w.heap.size w w'/\∃B,w.heap.size<=B/\en=.returned (.tuple #[.pointer (some ⟨B,0,none⟩),.bool true])/\JSt w' B (ofBytes (flat f.bl)) k r e:=by
 refine(Gu f w h hf).mono fun e w' hp=>?_
 obtain⟨h1,h2⟩:=hp
 rw[hj]at h2
 exact⟨h1,h2⟩
theorem GA {S:List UInt8}:∀{n i:Nat}{r:List ByteArray}{e k:Nat}{r1:List ByteArray}{e1:Nat},fV S n i r e=some (k,r1,e1)->e<=S.length->e1<=S.length
 |0,i,r,e,k,r1,e1,h,he=>by
  simp only[fV,Option.some.injEq,Prod.mk.injEq]at h
  obtain⟨_,_,rfl⟩:=h
  exact he
 |n+1,i,r,e,k,r1,e1,h,he=>by
  rw[fQ]at h
  split at h
  ·cases hr:eU S (RV S i) r e with
   |none=>rw[hr]at h;cases h
   |some p=>rw[hr]at h;exact GA (n:=n) h (AL hr he).1
  ·injection h with h
   injection h with _ h2
   injection h2 with _ h3
   omega
theorem Tj.Ms {S:List UInt8}{k:Nat}{r:List ByteArray}{e0 e:Nat}(h:Tj S k r e0 e):e<=S.length:=by
 rw[h.end_]
 have h1:=GA h.scan (Nat.zero_le _)
 have h2:iG (S.take (S.length -5*k))<=S.length:=GY1 (xK _ _) (by rw[GY6];omega)
 omega
theorem mZ.more {w:World}{b b':Nat}{v:Value}{l:List Ded}(h:mZ w b v l)(hb:b'<=b):mZ w b' v l:=by
 refine⟨h.1,?_⟩
 rcases h.2 with h0|⟨g,cap,cur,e1,e2,e3,e4⟩
 ·exact .inl h0
 ·exact .inr ⟨g,cap,cur,e1,by omega,e3,e4⟩
theorem Ky (a:Nat):jM a (bytesOf ⟨#[0]⟩)=[⟨1,(a:Int),0⟩]:=by
 show jM a [0]=_
 unfold jM
 rw[if_neg (by decide)];rfl
def vD (w:World)(E:Int)(D0:List Ded)(e:Ending)(w':World):Prop:=Below w.heap.size w w'/\∃(A:Option Addr)(c:Nat)(D:List Ded),e=.returned (.tuple #[.slice A D.length c,.int .i64 E])/\mZ w' w.heap.size (.slice A D.length c) D/\D=D0
theorem vD.nil {w w':World}{E:Int}(h:Below w.heap.size w w'):vD w E [] (.returned (.tuple #[.slice none 0 0,.int .i64 E])) w':=⟨h,none,0,[],rfl,World.ownsRow_nil _ _ _ _,rfl⟩
theorem PL (f:Fl)(s:ByteArray)(w:World)(h:f.ok w)(hf:bP f.bl=0)(h1:1<=s.size)(h8:s.size<=800):
  Calls Tryz.prog 95 #[f.v,.string s] w (vD w (TG (flat f.bl) s.size) (if TG (flat f.bl) s.size=0 then aW f.bl (bytesOf s)else[])):=by
 obtain⟨w1,hw1⟩:=Nm (w.alloc (.cells #[.slice f.a f.bl.length f.c] 29))
 obtain⟨f0,hz1,hb1⟩:=Ui hw1
 have hw1':=hw1.symm
 have HB1:=Hp hb1
 have hSl:=fG hf
 have h32:=(fP.1 hf).1
 cases hj:Re (flat f.bl)with
 |none=>
  have cL:=Hp (Dm f w1 (h.below hb1) hf hj)
  have hE:TG (flat f.bl) s.size=4:=by unfold TG;rw[hj]
  rw[hE,if_neg (by decide)]
  clear hw1 hb1 h hf hj h32 hSl hE
  go_enter Tryz.func95,Tryz.ntmps95
  go_wp2_with (go_at_call 96;refine(cL.out).mono ?_;rintro e w2 ⟨rfl,hb2⟩)
  go_ret2
  exact vD.nil (HB1.trans (hb2.mono HB1.size))
 |some p=>
  obtain⟨k,r,e⟩:=p
  have cL:=ED f w1 (h.below hb1) hf k r e hj
  obtain⟨e0,ho⟩:=xM hj
  have hk5:=ho.many
  have hel:=ho.Ms
  obtain⟨EA,hEA⟩:=Nm (TG (flat f.bl) s.size)
  obtain⟨DA,hDA⟩:=Nm (aW f.bl (bytesOf s))
  rw[<-hEA,<-hDA]
  unfold TG at hEA
  unfold aW at hDA
  rw[hj]at hEA hDA
  simp only at hEA hDA
  rw[hSl]at hEA hk5 hel
  obtain⟨n,hn⟩:=Nm f.bl.length
  unfold Fl.v at cL ⊢
  rw[<-hn]at hEA hDA hSl hk5 h32 f0 hw1' cL hel ⊢
  obtain⟨S,hS⟩:=Nm (ofBytes (flat f.bl))
  have hSz:S.size=128*n:=by rw[hS,gJ,hSl]
  rw[<-hS]at cL
  have CL:=Hp cL
  obtain⟨AT,hAT⟩:∃AT:Int,AT=128*(n:Int) -5*((k:Int)+1):=⟨_,rfl⟩
  have HAT:=Hp hAT
  have HSL:=Hp (RB s)
  clear hw1 hb1 h hf hj hS ho cL hSl hn
  go_enter Tryz.func95,Tryz.ntmps95
  go_upto_region 4 with(
   go_at_call 96
   refine(CL.out).mono ?_
   rintro e' w2 ⟨hb2,B,hB,rfl,hJ2⟩
   have HJ2:=Hp hJ2
   obtain⟨A2,c2,hJ2,hO2⟩:=hJ2
   have s0:=cell_of_heap hJ2 0
   have s1:=cell_of_heap hJ2 1
   have s3:=cell_of_heap hJ2 3
   have hBl:=(ZL hJ2)
   simp only[GZ2,GZ0,GZ1]at s0 s1 s3
   have HB2:=Hp (HB1.trans (hb2.mono HB1.size))
   have HBB:=Hp (show w.heap.size<=B by have:=HB1.size;omega)
   have HBL:=Hp (show B<w2.heap.size from hBl)
   clear hb2 hJ2 hO2 hBl hB)
  have v1:IntKind.i64.wrap ((k:Int)+1)=(k:Int)+1:=IntWalk.i64_in _ (by omega)
  have v2:IntKind.i64.wrap (5*((k:Int)+1))=5*((k:Int)+1):=IntWalk.i64_in _ (by omega)
  have v3:IntKind.i64.wrap (128*(n:Int) -5*((k:Int)+1))=AT:=by rw[IntWalk.i64_in _ (by omega)];exact HAT.symm
  have v4:(S.size:Int)=128*(n:Int):=by rw[hSz];omega
  go_cut [8] from 17 to 28 (fun v wx=>v=.int .i64 AT/\wx.heap=w2.heap/\Below w2.heap.size w2 wx)
  case first=>
   clear hAT hSz hEA
   go_quiet (fail)
   have HN:=Hp (show Below w2.heap.size w2 (w2.drewN nq) from below_drewN (GZ4 _ _) nq)
   go_wp2_with fail
   go_meet
   exact⟨rfl,rfl,HN.out⟩
  case rest=>
   obtain⟨rfl,hh,hb3⟩:=hcut
   obtain⟨w3,rfl⟩:=Nm wc
   have t3:w3.cell? ⟨B,3,none⟩=some (.int .i64 e):=(World.cell?_of_block (a:=⟨B,3,none⟩) (by rw[hh])).trans s3
   have HB3:=Hp (HB2.trans (hb3.mono HB2.size))
   have hBl3:B<w3.heap.size:=by have:=HBL.out;have:=hb3.size;omega
   have hATb: -5<=AT/\AT<=4096:=by have:=HAT.out;omega
   obtain⟨hA1,hA2⟩:=hATb
   clear v1 v2 v3 v4 s0 s1 s3 hh hb3
   by_cases hr:128*n<e+s.size+5+5*(k+1)
   ·rw[if_pos hr]at hEA
    have hc:AT -5<(e:Int)+s.size:=by omega
    subst hEA
    clear hAT hSz hr hk5
    go_wp2_with fail
    go_ret2
    exact vD.nil HB3.out
   ·rw[if_neg hr]at hEA
    obtain⟨q,hq⟩:=Nm (128*n -5*(k+1))
    have hATq:AT=(q:Int):=by omega
    subst hATq
    have hc:¬((q:Int) -5<(e:Int)+s.size):=by omega
    subst hEA
    rw[<-hq]at hDA
    have hq4:q<=4096:=by omega
    obtain⟨m,hm⟩:=Nm s.size
    have he4:e<=4096:=by omega
    obtain⟨w4,hw4⟩:=Nm (w3.alloc (.cells #[.slice none 0 0] 214))
    have hP4:PSt w4 w3.heap.size []:=⟨none,0,hw4▸heap_alloc_new _ _,World.ownsRow_nil _ _ _ _⟩
    have hb4:Below w3.heap.size w3 w4:=hw4▸ZB
    have hw4':=hw4.symm
    have cP1:=VO w3.heap.size e s [] w4 (by omega) (by omega) (by simp) hP4
    rw[List.nil_append]at cP1
    have CP1:=Hp cP1
    have t4:=(hb4.cell (p:=⟨B,3,none⟩) hBl3).trans t3
    have HB4:=Hp (HB3.trans (hb4.mono HB3.size))
    have HWB:=Hp (show w.heap.size<=w3.heap.size from HB3.size)
    have HZ4:=Hp (show w3.heap.size<w4.heap.size by rw[hw4];simp)
    have HQ:=Hp hq
    have hm8:m<=800:=by omega
    have HDA:=Hp hDA
    have HM:=Hp hm
    clear hAT hSz hr hk5 hw4 hP4 hb4 cP1 hq hDA hm
    go_upto_region 9 with(
     go_at_call 169
     refine(CP1.out).mono ?_
     rintro e' w5 ⟨hb5,hP5,u,rfl⟩
     have t5:=(hb5.cell (p:=⟨B,3,none⟩) hBl3).trans t4
     have HP5:=Hp hP5
     have HB5:=Hp (HB4.trans (hb5.mono HWB))
     have HZ5:=Hp (show w3.heap.size<w5.heap.size by have:=HZ4.out;have:=hb5.size;omega)
     clear hb5 hP5)
    obtain⟨b0,hb0⟩:=Nm (e % 256)
    obtain⟨b1,hb1⟩:=Nm (e / 256 % 256)
    obtain⟨b2,hb2⟩:=Nm (s.size % 256)
    obtain⟨b3,hb3⟩:=Nm (s.size / 256 % 256)
    have c0:IntKind.u8.wrap (e:Int)=(b0:Int):=by rw[IntKind.wrap_u8',hb0];omega
    have c1:IntKind.u8.wrap ((e:Int) / 256)=(b1:Int):=by rw[IntKind.wrap_u8',hb1];omega
    have c2:IntKind.u8.wrap (s.size:Int)=(b2:Int):=by rw[IntKind.wrap_u8',hb2];omega
    have c3:IntKind.u8.wrap ((s.size:Int) / 256)=(b3:Int):=by rw[IntKind.wrap_u8',hb3];omega
    obtain⟨H,hH⟩:=Nm (ofBytes (Sw e s.size))
    have hcv:=MC (P:=Tryz.prog) (src:=135) (dst:=9) Tryz.underlying135 Tryz.underlying5 Tryz.underlying9 w5 (b0:Int) (b1:Int) (b2:Int) (b3:Int)
    simp only[Int.toNat_natCast]at hcv
    have hH2:ofBytes [UInt8.ofNat b0,UInt8.ofNat b1,UInt8.ofNat b2,UInt8.ofNat b3]=H:=by rw[hH,hb0,hb1,hb2,hb3];rfl
    rw[hH2]at hcv
    have HPA:=Hp (show PSt (w5.alloc (.cells #[.int .u8 (b0:Int),.int .u8 (b1:Int),.int .u8 (b2:Int),.int .u8 (b3:Int)] 5)).drew w3.heap.size (jM e (bytesOf s)) from
     HP5.below ((ZB).drew) (GZ3 _))
    have cP2:=VO w3.heap.size q H (jM e (bytesOf s)) _ (by rw[hH,gJ];exact GY2 (by decide:4<5000)) (by omega) (by have:=iH e (bytesOf s);rw[HSL.out]at this;omega) HPA.out
    have HHB:=Hp (show bytesOf H=Sw e s.size by rw[hH,iZ])
    rw[HHB.out]at cP2
    have CP2:=Hp cP2
    have HBA:=Hp (show Below w3.heap.size w5 (w5.alloc (.cells #[.int .u8 (b0:Int),.int .u8 (b1:Int),.int .u8 (b2:Int),.int .u8 (b3:Int)] 5)).drew from((GZ4 _ _).alloc (GY2 HZ5.out) _).drew)
    clear hb0 hb1 hb2 hb3 hH hH2 cP2
    go_cut [8] from 48 to 70 (fun v wx=>v=.int .i64 (q:Int)/\PSt wx w3.heap.size (jM e (bytesOf s)++jM q (Sw e s.size))/\Below w.heap.size w wx)
    case first=>
     go_region_law ((go_simp;go_at_call 169;with_reducible refine(CP2.out).mono ?_;rintro e' w6 ⟨hb6,hP6,u6,rfl⟩;have HP6:=Hp hP6;have HB6:=Hp (HB5.out.trans ((HBA.out.trans hb6).mono HWB.out));clear hb6 hP6))
     all_goals(
      go_wp2_with fail
      go_meet
      exact⟨rfl,HP6.out,HB6.out⟩)
    case rest=>
     obtain⟨rfl,hP6,hb6⟩:=hcut
     obtain⟨w6,rfl⟩:=Nm wc
     have cP3:=VO w3.heap.size (q+4) ⟨#[0]⟩ _ w6 (by decide) (by omega) (by
      have h1:=iH e (bytesOf s)
      have h2:=iH q (Sw e s.size)
      rw[HSL.out]at h1
      have:(Sw e s.size).length=4:=rfl
      rw[GZ8];omega) hP6
     rw[Ky,show((q+4:Nat):Int)=(q:Int)+5 -1 by omega]at cP3
     obtain⟨D7,hD7⟩:=Nm (jM e (bytesOf s)++jM q (Sw e s.size)++[⟨1,(q:Int)+5 -1,0⟩])
     rw[<-hD7]at cP3
     have HD7:=Hp hD7
     have CP3:=Hp cP3
     have HB6:=Hp hb6
     clear hD7 cP3 hP6 hb6 hcv c0 c1 c2 c3 HPA CP2 HBA
     go_wp2_with (
      go_at_call 169
      (with_reducible refine(CP3.out).mono ?_)
      rintro e' w7 ⟨hb7,⟨A7,c7,hJ7,hO7⟩,u7,rfl⟩
      have z7:=cell_of_heap hJ7 0
      simp only[GZ2,GZ0]at z7
      have HO7:=Hp hO7
      have HB7:=Hp (HB6.trans (hb7.mono HWB))
      clear hJ7 hO7 hb7)
     go_ret2
     refine⟨HB7.out,A7,c7,D7,rfl,mZ.more HO7.out (by have:=HWB.out;omega),?_⟩
     rw[HD7.out,HDA.out];unfold CU
     rw[HSL.out,show((q+4:Nat):Int)=(q:Int)+5 -1 by omega]
end
end Go.Proofs.YtjiedaialianmaaGreat
