import Derived.Test.YtjiedaialianmaaGreatA18
import Derived.Test.YtjiedaialianmaaGreatA19
set_option maxRecDepth 100000
set_option maxHeartbeats 8000000
namespace Go.Proofs.YtjiedaialianmaaGreat
section
open Go
open Gs (Tx)
theorem Px {k:Krn}{c:Cm}{l:List Plc}(h:kP k c l=0):kC c l=0/\aZ k (cmL c l)=0:=by
 unfold kP at h
 by_cases e:kC c l=0
 ·rw[if_neg (by omega)]at h;exact⟨e,h⟩
 ·rw[if_pos e]at h;exact absurd h e
theorem Et {k:Krn}{l:List Plc}(h:aZ k l=0):RY l=0:=(dM (Sz h).1).2.1
end
section
open Go.RowKit Go.Lib
theorem AZ (l:List Plc)(m:Mod):(aL m≠0/\SA l m=aL m)\/(aL m=0/\0<=idxOf (named m.name) l/\SA l m=6)\/(aL m=0/\¬0<=idxOf (named m.name) l/\Hid (l.length=8)/\SA l m=2)\/
  (aL m=0/\¬0<=idxOf (named m.name) l/\Hid (l.length≠8)/\SA l m=if fM (aH m) (RI l)<0 then 8 else 0):=by
 unfold SA
 by_cases h1:aL m=0
 ·rw[if_neg (by omega)]
  by_cases h2:0<=idxOf (named m.name) l
  ·rw[if_pos h2];exact .inr (.inl ⟨h1,h2,rfl⟩)
  ·rw[if_neg h2]
   by_cases h3:l.length=8
   ·rw[if_pos h3];exact .inr (.inr (.inl ⟨h1,h2,Hp h3,rfl⟩))
   ·rw[if_neg h3];exact .inr (.inr (.inr ⟨h1,h2,Hp h3,rfl⟩))
 ·rw[if_pos h1];exact .inl ⟨h1,rfl⟩
theorem EY (base bp:Nat)(k:Krn)(A:Option Addr)(c:Nat)(l:List Plc)(m:Mod)(w:World)(h:RJ w base bp k A l c)(hm:m.ok w)(hr:RY l=0):
  Calls Tryz.prog 214 #[.pointer (some ⟨bp,0,none⟩),m.v] w (qV w base bp k (SA l m) (oD l m)):=by
 obtain⟨w0,hw0⟩:=Nm (w.alloc (.cells #[.string m.name,.int .i64 m.major,.int .i64 m.minor,.string m.text,.slice m.eA m.ex.length m.eC,.slice m.iA m.im.length m.iC,.slice m.pA m.pa.length m.pC] 70))
 have hb0:Below w.heap.size w w0:=hw0▸ZB
 have hM0:w0.heap[w.heap.size]? =some (.cells #[.string m.name,.int .i64 m.major,.int .i64 m.minor,.string m.text,.slice m.eA m.ex.length m.eC,.slice m.iA m.im.length m.iC,.slice m.pA m.pa.length m.pC] 70 (0,0)):=by rw[hw0];exact heap_alloc_new w _
 have HP0:=Hp (h.below hb0)
 obtain⟨m0,m1,m2,m3,m4,m5,m6⟩:=RF hM0
 have HM0:=Hp hM0
 have HB0:=Hp hb0
 have HSB:=Hp h.size
 have HMO:=Hp (fun W(hb:Below w.heap.size w W)=>hm.below hb)
 have H8:=Hp (cZ hr).1
 have HR:=Hp hr
 have c1:=Hp (oM m w0 (hm.below hb0))
 have cases:=AZ l m
 have cP:=Hp (fun W(hb:Below w0.heap.size w0 W)=>SY A c l m.name W (HP0.below hb).ok.row (HP0.below hb).ok.len)
 have cF:=Hp (fun W(hb:Below w0.heap.size w0 W)(he:aL m=0)=>He base bp k A c l m W (HP0.below hb) (hm.below (hb0.trans (hb.mono hb0.size))) he hr)
 have hfl:oD l m=fH l m (fM (aH m) (RI l)):=rfl
 rw[<-hfl]at cF
 obtain⟨L,hL⟩:=Nm (oD l m)
 rw[<-hL]at cF ⊢
 obtain⟨E,hE⟩:=Nm (SA l m)
 rw[<-hE]at cases⊢
 obtain⟨M,hM⟩:=Nm (aL m)
 rw[<-hM]at c1 cases cF
 obtain⟨ix,hix⟩:=Nm (idxOf (named m.name) l)
 rw[<-hix]at cP cases
 obtain⟨fe,hfe⟩:∃fe:Int,fe=if fM (aH m) (RI l)<0 then 8 else 0:=⟨_,rfl⟩
 rw[<-hfe]at cF cases
 have hw0':=hw0.symm
 clear hw0 hb0 hM0 h hm hr hfl hL hE hM hix hfe
 rcases cases with⟨t1,rfl⟩|⟨rfl,t2,rfl⟩|⟨rfl,t2,t3,rfl⟩|⟨rfl,t2,t3,rfl⟩
 ·have t1':(E != 0)=true:=by simp[t1]
  have T1:=Hp t1
  clear t1
  go_enter Tryz.func214,Tryz.ntmps214
  go_wp2_with fail
  refine(c1.out).mono ?_;rintro e w1 ⟨rfl,hb1⟩
  have HBW:=Hp (HB0.trans (hb1.mono HB0.size))
  clear hb1
  go_wp2_with fail
  go_ret
  exact⟨rfl,fun e=>absurd e T1.out,Kp.of_below HBW.out,HBW.mono HSB.out⟩
 ·have t':decide (0<=ix)=true:=decide_eq_true t2
  clear t2
  go_enter Tryz.func214,Tryz.ntmps214
  go_wp2_with fail
  refine(c1.out).mono ?_;rintro e w1 ⟨rfl,hb1⟩
  have HB1:=Hp hb1
  have hM1:=(hb1.block w.heap.size (ZL HM0.out)).trans HM0.out
  have HM1:=Hp hM1
  have HP1:=Hp (HP0.below hb1)
  obtain⟨n0,n1,n2,n3,n4,n5,n6⟩:=RF hM1
  obtain⟨hbp1,_,_,_,q3,_⟩:=dI HP1.out
  have HBW1:=Hp (HB0.trans (hb1.mono HB0.size))
  have hbl1:w.heap.size<w1.heap.size:=(ZL hM1)
  clear hb1 hM1 m0 m1 m2 m3 m4 m5 m6
  have HCH:=Hp (show fI w1 (fun W'=>Below w1.heap.size w1 W'/\W'.cell? ⟨w.heap.size,0,none⟩=some (.string m.name)/\W'.cell? ⟨bp,3,none⟩=some (.slice A l.length c)) from dE (by repeat' first|(with_reducible exact bC.cell (by first|omega|(simp;omega)|(simp only[aA];omega)))|refine bC.and ?_ ?_))
  have HC0:=Hp (HCH.now ⟨GZ4 _ _,by assumption,by assumption⟩)
  have HCD:=Hp HCH.D
  have HCS:=Hp HCH.S
  have HCA:=Hp HCH.A
  have HCX:=Hp HCH.X
  have HCL:=Hp HCH.L
  go_wp2_with fail
  go_region_held3 (fun W'=>Below w1.heap.size w1 W'/\W'.cell? ⟨w.heap.size,0,none⟩=some (.string m.name)/\W'.cell? ⟨bp,3,none⟩=some (.slice A l.length c)) (first|exact HC0.out|exact HCD.out _ HC0.out|exact HCS.out _ _ (by assumption) (by assumption)|exact HCS.out _ _ HC0.out (by assumption)|exact HCS.out _ _ (HCD.out _ HC0.out) (by assumption)|exact HCS.out _ _ (HCD.out _ (by assumption)) (by assumption)|exact HCD.out _ (by assumption)|exact HCA.out _ _ (by assumption)|exact HCA.out _ _ HC0.out|exact HCA.out _ _ (HCD.out _ HC0.out)|exact HCD.out _ (HCA.out _ _ (by assumption))|exact HCA.out _ _ (HCS.out _ _ HC0.out (by assumption))|exact HCA.out _ _ (HCS.out _ _ (HCD.out _ HC0.out) (by assumption))|exact HCX.out _ _ _ _ (GZ3 _) (by assumption)|exact HCX.out _ _ _ _ (GZ3 _) (HCS.out _ _ (HCA.out _ _ HC0.out) (by assumption))|exact HCX.out _ _ _ _ (GZ3 _) (HCS.out _ _ (HCD.out _ (HCA.out _ _ HC0.out)) (by assumption))|assumption) (first|(go_at_call 124;(with_reducible refine(cP.out _ (HB1.out.trans ((HCL.out _ (by first|assumption|exact HCD.out _ (by assumption)|exact HC0.out|exact HCD.out _ HC0.out)).mono HB1.out.size))).mono ?_);rintro e w4 ⟨rfl,hb4⟩))
  have HB4:=Hp (HCL.out w4 (by assumption))
  have HP4:=Hp (HP1.below HB4)
  have HBW:=Hp (HBW1.trans (HB4.mono HBW1.size))
  have HB14:=Hp (HB1.trans (HB4.mono HB1.size))
  obtain⟨p0,p1,p2,p3,p4,p5,p6⟩:=RF ((HB4.block w.heap.size hbl1).trans HM1.out)
  obtain⟨hbp4,_,_,_,r3,_⟩:=dI HP4.out
  clear hb4 HC0 HCD HCS HCA HCX HCL n0 n1 n2 n3 n4 n5 n6 q3 hbp1 hbl1
  go_wp2_with fail
  go_ret
  exact⟨rfl,fun e=>absurd e (by decide),Kp.of_below HBW.out,HBW.mono HSB.out⟩
 ·have t':decide (0<=ix)=false:=GY7 t2
  clear t2
  go_enter Tryz.func214,Tryz.ntmps214
  go_wp2_with fail
  refine(c1.out).mono ?_;rintro e w1 ⟨rfl,hb1⟩
  have HB1:=Hp hb1
  have hM1:=(hb1.block w.heap.size (ZL HM0.out)).trans HM0.out
  have HM1:=Hp hM1
  have HP1:=Hp (HP0.below hb1)
  obtain⟨n0,n1,n2,n3,n4,n5,n6⟩:=RF hM1
  obtain⟨hbp1,_,_,_,q3,_⟩:=dI HP1.out
  have HBW1:=Hp (HB0.trans (hb1.mono HB0.size))
  have hbl1:w.heap.size<w1.heap.size:=(ZL hM1)
  clear hb1 hM1 m0 m1 m2 m3 m4 m5 m6
  have HCH:=Hp (show fI w1 (fun W'=>Below w1.heap.size w1 W'/\W'.cell? ⟨w.heap.size,0,none⟩=some (.string m.name)/\W'.cell? ⟨bp,3,none⟩=some (.slice A l.length c)) from dE (by repeat' first|(with_reducible exact bC.cell (by first|omega|(simp;omega)|(simp only[aA];omega)))|refine bC.and ?_ ?_))
  have HC0:=Hp (HCH.now ⟨GZ4 _ _,by assumption,by assumption⟩)
  have HCD:=Hp HCH.D
  have HCS:=Hp HCH.S
  have HCA:=Hp HCH.A
  have HCX:=Hp HCH.X
  have HCL:=Hp HCH.L
  go_wp2_with fail
  go_region_held3 (fun W'=>Below w1.heap.size w1 W'/\W'.cell? ⟨w.heap.size,0,none⟩=some (.string m.name)/\W'.cell? ⟨bp,3,none⟩=some (.slice A l.length c)) (first|exact HC0.out|exact HCD.out _ HC0.out|exact HCS.out _ _ (by assumption) (by assumption)|exact HCS.out _ _ HC0.out (by assumption)|exact HCS.out _ _ (HCD.out _ HC0.out) (by assumption)|exact HCS.out _ _ (HCD.out _ (by assumption)) (by assumption)|exact HCD.out _ (by assumption)|exact HCA.out _ _ (by assumption)|exact HCA.out _ _ HC0.out|exact HCA.out _ _ (HCD.out _ HC0.out)|exact HCD.out _ (HCA.out _ _ (by assumption))|exact HCA.out _ _ (HCS.out _ _ HC0.out (by assumption))|exact HCA.out _ _ (HCS.out _ _ (HCD.out _ HC0.out) (by assumption))|exact HCX.out _ _ _ _ (GZ3 _) (by assumption)|exact HCX.out _ _ _ _ (GZ3 _) (HCS.out _ _ (HCA.out _ _ HC0.out) (by assumption))|exact HCX.out _ _ _ _ (GZ3 _) (HCS.out _ _ (HCD.out _ (HCA.out _ _ HC0.out)) (by assumption))|assumption) (first|(go_at_call 124;(with_reducible refine(cP.out _ (HB1.out.trans ((HCL.out _ (by first|assumption|exact HCD.out _ (by assumption)|exact HC0.out|exact HCD.out _ HC0.out)).mono HB1.out.size))).mono ?_);rintro e w4 ⟨rfl,hb4⟩))
  have HB4:=Hp (HCL.out w4 (by assumption))
  have HP4:=Hp (HP1.below HB4)
  have HBW:=Hp (HBW1.trans (HB4.mono HBW1.size))
  have HB14:=Hp (HB1.trans (HB4.mono HB1.size))
  obtain⟨p0,p1,p2,p3,p4,p5,p6⟩:=RF ((HB4.block w.heap.size hbl1).trans HM1.out)
  obtain⟨hbp4,_,_,_,r3,_⟩:=dI HP4.out
  clear hb4 HC0 HCD HCS HCA HCX HCL n0 n1 n2 n3 n4 n5 n6 q3 hbp1 hbl1
  have t4:((l.length:Int)==8)=true:=by have:=t3.out;simp;omega
  go_wp2_with fail
  go_ret
  exact⟨rfl,fun e=>absurd e (by decide),Kp.of_below HBW.out,HBW.mono HSB.out⟩
 ·have t':decide (0<=ix)=false:=GY7 t2
  go_enter Tryz.func214,Tryz.ntmps214
  go_wp2_with fail
  refine(c1.out).mono ?_;rintro e w1 ⟨rfl,hb1⟩
  have HB1:=Hp hb1
  have hM1:=(hb1.block w.heap.size (ZL HM0.out)).trans HM0.out
  have HM1:=Hp hM1
  have HP1:=Hp (HP0.below hb1)
  obtain⟨n0,n1,n2,n3,n4,n5,n6⟩:=RF hM1
  obtain⟨hbp1,_,_,_,q3,_⟩:=dI HP1.out
  have HBW1:=Hp (HB0.trans (hb1.mono HB0.size))
  have hbl1:w.heap.size<w1.heap.size:=(ZL hM1)
  clear hb1 hM1 m0 m1 m2 m3 m4 m5 m6
  have HCH:=Hp (show fI w1 (fun W'=>Below w1.heap.size w1 W'/\W'.cell? ⟨w.heap.size,0,none⟩=some (.string m.name)/\W'.cell? ⟨bp,3,none⟩=some (.slice A l.length c)) from dE (by repeat' first|(with_reducible exact bC.cell (by first|omega|(simp;omega)|(simp only[aA];omega)))|refine bC.and ?_ ?_))
  have HC0:=Hp (HCH.now ⟨GZ4 _ _,by assumption,by assumption⟩)
  have HCD:=Hp HCH.D
  have HCS:=Hp HCH.S
  have HCA:=Hp HCH.A
  have HCX:=Hp HCH.X
  have HCL:=Hp HCH.L
  go_wp2_with fail
  go_region_held3 (fun W'=>Below w1.heap.size w1 W'/\W'.cell? ⟨w.heap.size,0,none⟩=some (.string m.name)/\W'.cell? ⟨bp,3,none⟩=some (.slice A l.length c)) (first|exact HC0.out|exact HCD.out _ HC0.out|exact HCS.out _ _ (by assumption) (by assumption)|exact HCS.out _ _ HC0.out (by assumption)|exact HCS.out _ _ (HCD.out _ HC0.out) (by assumption)|exact HCS.out _ _ (HCD.out _ (by assumption)) (by assumption)|exact HCD.out _ (by assumption)|exact HCA.out _ _ (by assumption)|exact HCA.out _ _ HC0.out|exact HCA.out _ _ (HCD.out _ HC0.out)|exact HCD.out _ (HCA.out _ _ (by assumption))|exact HCA.out _ _ (HCS.out _ _ HC0.out (by assumption))|exact HCA.out _ _ (HCS.out _ _ (HCD.out _ HC0.out) (by assumption))|exact HCX.out _ _ _ _ (GZ3 _) (by assumption)|exact HCX.out _ _ _ _ (GZ3 _) (HCS.out _ _ (HCA.out _ _ HC0.out) (by assumption))|exact HCX.out _ _ _ _ (GZ3 _) (HCS.out _ _ (HCD.out _ (HCA.out _ _ HC0.out)) (by assumption))|assumption) (first|(go_at_call 124;(with_reducible refine(cP.out _ (HB1.out.trans ((HCL.out _ (by first|assumption|exact HCD.out _ (by assumption)|exact HC0.out|exact HCD.out _ HC0.out)).mono HB1.out.size))).mono ?_);rintro e w4 ⟨rfl,hb4⟩))
  have HB4:=Hp (HCL.out w4 (by assumption))
  have HP4:=Hp (HP1.below HB4)
  have HBW:=Hp (HBW1.trans (HB4.mono HBW1.size))
  have HB14:=Hp (HB1.trans (HB4.mono HB1.size))
  obtain⟨p0,p1,p2,p3,p4,p5,p6⟩:=RF ((HB4.block w.heap.size hbl1).trans HM1.out)
  obtain⟨hbp4,_,_,_,r3,_⟩:=dI HP4.out
  clear hb4 HC0 HCD HCS HCA HCX HCL n0 n1 n2 n3 n4 n5 n6 q3 hbp1 hbl1
  have t4:((l.length:Int)==8)=false:=by have:=t3.out;simp;omega
  have c5:=Hp (cF.out w4 HB14.out (by trivial))
  clear cF
  go_wp2_with fail
  refine(c5.out).mono ?_;rintro e w5 hd
  have HD:=Hp (qV.after (Kp.of_below HBW) (HBW.mono HSB) _ _ hd)
  obtain⟨rfl,_⟩:=hd
  go_wp2_with fail
  go_ret
  exact HD.out
theorem De (l:List Plc)(nm:ByteArray):(idxOf (named nm) l<0/\lF l nm=5)\/(∃j:Nat,idxOf (named nm) l=j/\oN l nm=true/\lF l nm=4)\/(∃j:Nat,idxOf (named nm) l=j/\oN l nm=false/\lF l nm=0):=by
 unfold lF
 by_cases h1:idxOf (named nm) l<0
 ·rw[if_pos h1];exact .inl ⟨h1,rfl⟩
 ·rw[if_neg h1]
  have hj:idxOf (named nm) l=((idxOf (named nm) l).toNat:Nat):=by omega
  cases h2:oN l nm
  ·exact .inr (.inr ⟨_,hj,rfl,rfl⟩)
  ·exact .inr (.inl ⟨_,hj,rfl,rfl⟩)
theorem G5 (base bp:Nat)(k:Krn)(A:Option Addr)(c:Nat)(l:List Plc)(nm:ByteArray)(w:World)(h:RJ w base bp k A l c)(h8:l.length<=8):
  Calls Tryz.prog 215 #[.pointer (some ⟨bp,0,none⟩),.string nm] w (qV w base bp k (lF l nm) (Rc l nm)):=by
 have HP:=Hp h
 have HSB:=Hp h.size
 obtain⟨_,_,_,_,p3,_⟩:=dI h
 have c1:=Hp (SY A c l nm w h.ok.row h.ok.len)
 have c2:=Hp (fun W(hb:Below w.heap.size w W)=>NN A c l nm W (h.below hb).ok)
 have c3:=Hp (fun W(hb:Below w.heap.size w W)(j:Nat)(hj:idxOf (named nm) l=j)=>DK base bp k A c l nm j W (h.below hb) hj h8)
 have cases:=De l nm
 obtain⟨L,hL⟩:=Nm (Rc l nm)
 rw[<-hL]at c3 ⊢
 obtain⟨E,hE⟩:=Nm (lF l nm)
 rw[<-hE]at cases⊢
 obtain⟨ix,hix⟩:=Nm (idxOf (named nm) l)
 rw[<-hix]at c1 c3 cases
 obtain⟨us,hus⟩:=Nm (oN l nm)
 rw[<-hus]at c2 cases
 clear h h8 hL hE hix hus
 rcases cases with⟨t1,rfl⟩|⟨j,rfl,rfl,rfl⟩|⟨j,rfl,rfl,rfl⟩
 ·have t':decide (ix<0)=true:=decide_eq_true t1
  clear t1
  go_enter Tryz.func215,Tryz.ntmps215
  go_wp2_with fail
  refine(c1.out).mono ?_;rintro e w1 ⟨rfl,hb1⟩
  have HB1:=Hp hb1
  clear hb1
  go_wp2_with fail
  go_ret
  exact⟨rfl,fun e=>absurd e (by decide),Kp.of_below HB1.out,HB1.mono HSB.out⟩
 ·have t':decide ((j:Int)<0)=false:=GY7 (by omega)
  go_enter Tryz.func215,Tryz.ntmps215
  go_wp2_with fail
  refine(c1.out).mono ?_;rintro e w1 ⟨rfl,hb1⟩
  have HB1:=Hp hb1
  obtain⟨_,_,_,_,q3,_⟩:=dI (HP.below hb1)
  clear hb1
  go_wp2_with fail
  refine(c2.out _ HB1.out).mono ?_;rintro e w2 ⟨rfl,hb2⟩
  have HB2:=Hp (HB1.trans (hb2.mono HB1.size))
  clear hb2
  go_wp2_with fail
  go_ret
  exact⟨rfl,fun e=>absurd e (by decide),Kp.of_below HB2.out,HB2.mono HSB.out⟩
 ·have t':decide ((j:Int)<0)=false:=GY7 (by omega)
  go_enter Tryz.func215,Tryz.ntmps215
  go_wp2_with fail
  refine(c1.out).mono ?_;rintro e w1 ⟨rfl,hb1⟩
  have HB1:=Hp hb1
  obtain⟨_,_,_,_,q3,_⟩:=dI (HP.below hb1)
  clear hb1
  go_wp2_with fail
  refine(c2.out _ HB1.out).mono ?_;rintro e w2 ⟨rfl,hb2⟩
  have HB2:=Hp (HB1.trans (hb2.mono HB1.size))
  have c4:=Hp (c3.out w2 HB2.out j rfl)
  clear hb2 c3
  go_wp2_with fail
  refine(c4.out).mono ?_;rintro e w3 ⟨rfl,⟨A',c',hp3⟩,hk3,hb3⟩
  have HP3:=Hp hp3
  have HK3:=Hp hk3
  have HB3:=Hp hb3
  clear hp3 hk3 hb3
  go_wp2_with fail
  go_ret
  exact⟨rfl,fun _=>⟨A',c',L,rfl,HP3.out⟩,(Kp.of_below HB2.out).trans HK3.out,(HB2.mono HSB.out).trans HB3.out⟩
theorem DY (l:List Plc)(m:Mod):(aL m≠0/\kD l m=aL m)\/(aL m=0/\idxOf (named m.name) l<0/\kD l m=5)\/
  (∃j:Nat,aL m=0/\idxOf (named m.name) l=j/\(RI (Rc l m.name)).any (jU (dH l m.name) (aH m))=true/\(0<=dH l m.name->kD l m=0)/\qF l m=fH (Rc l m.name) m (dH l m.name))\/
  (∃j:Nat,aL m=0/\idxOf (named m.name) l=j/\(RI (Rc l m.name)).any (jU (dH l m.name) (aH m))=false/\kD l m=(if fM (aH m) (RI (Rc l m.name))<0 then 8 else 0)/\qF l m=fH (Rc l m.name) m (fM (aH m) (RI (Rc l m.name)))):=by
 unfold kD qF Dx
 by_cases h1:aL m=0
 ·rw[if_neg (by omega)]
  by_cases h2:idxOf (named m.name) l<0
  ·rw[if_pos h2];exact .inr (.inl ⟨h1,h2,rfl⟩)
  ·rw[if_neg h2]
   have hj:idxOf (named m.name) l=((idxOf (named m.name) l).toNat:Nat):=by omega
   cases h3:(RI (Rc l m.name)).any (jU (dH l m.name) (aH m))
   ·exact .inr (.inr (.inr ⟨_,h1,hj,rfl,rfl,rfl⟩))
   ·exact .inr (.inr (.inl ⟨_,h1,hj,rfl,fun h0=>by rw[if_pos rfl,if_neg (by omega)],rfl⟩))
 ·rw[if_pos h1];exact .inl ⟨h1,rfl⟩
theorem En (base bp:Nat)(k:Krn)(A:Option Addr)(c:Nat)(l:List Plc)(m:Mod)(w:World)(h:RJ w base bp k A l c)(hmB:∀W,Below base w W->m.ok W)(hr:RY l=0):
  Calls Tryz.prog 216 #[.pointer (some ⟨bp,0,none⟩),m.v] w (qV w base bp k (kD l m) (qF l m)):=by
 have hm:=hmB w (GZ4 _ _)
 obtain⟨w0,hw0⟩:=Nm (w.alloc (.cells #[.string m.name,.int .i64 m.major,.int .i64 m.minor,.string m.text,.slice m.eA m.ex.length m.eC,.slice m.iA m.im.length m.iC,.slice m.pA m.pa.length m.pC] 70))
 have hb0:Below w.heap.size w w0:=hw0▸ZB
 have hM0:w0.heap[w.heap.size]? =some (.cells #[.string m.name,.int .i64 m.major,.int .i64 m.minor,.string m.text,.slice m.eA m.ex.length m.eC,.slice m.iA m.im.length m.iC,.slice m.pA m.pa.length m.pC] 70 (0,0)):=by rw[hw0];exact heap_alloc_new w _
 have HP0:=Hp (h.below hb0)
 obtain⟨m0,m1,m2,m3,m4,m5,m6⟩:=RF hM0
 have HM0:=Hp hM0
 have HB0:=Hp hb0
 have HSB:=Hp h.size
 have hrow:=cZ hr
 have H8:=Hp hrow.1
 have HRW:=Hp hrow.2.2
 have c1:=Hp (oM m w0 (hm.below hb0))
 have cases:=DY l m
 have cP:=Hp (fun W(hb:Below w0.heap.size w0 W)=>SY A c l m.name W (HP0.below hb).ok.row (HP0.below hb).ok.len)
 have cT:=Hp (fun W(hb:Below w0.heap.size w0 W)(j:Nat)(hj:idxOf (named m.name) l=j)=>DK base bp k A c l m.name j W (HP0.below hb) hj H8.out)
 have cM:=Hp (fun W=>qG m W hm.text)
 have hrr:RY (Rc l m.name)=0:=by unfold Rc;exact vV hr _
 have hr8:(Rc l m.name).length<=8:=(cZ hrr).1
 have HFI:=Hp (fun(j:Nat)(hj:idxOf (named m.name) l=j)=>show 0<=dH l m.name/\dH l m.name<=16 from by
  obtain⟨hjl,e⟩:=nK hj
  have h1:=rU hrow.2.2 _ (GZ9 hjl)
  have h2:=(gK (hrow.2.1 _ (GZ9 hjl)).1).1
  have h3:aR l[j]=l[j].first+aH l[j].m:=rfl
  rw[e];omega)
 have HMN:=Hp (fun(he:aL m=0)=>gK he)
 have cR:=Hp (fun(A':Option Addr)(c':Nat)W(first:Int)(h1: -1000<=first/\first<=1000)(h2: -1000<=aH m/\aH m<=1000)(hp:RJ W base bp k A' (Rc l m.name) c')=>MN base bp k A' c' (Rc l m.name) first (aH m) W hp hrr h1 h2)
 have cF:=Hp (fun(A':Option Addr)(c':Nat)W(hmo:m.ok W)(hp:RJ W base bp k A' (Rc l m.name) c')(he:aL m=0)=>He base bp k A' c' (Rc l m.name) m W hp hmo he hrr)
 have cU:=Hp (fun(A':Option Addr)(c':Nat)W(hmo:m.ok W)(hp:RJ W base bp k A' (Rc l m.name) c')(he:aL m=0)=>G8 base bp k A' c' (Rc l m.name) m (dH l m.name) W hp hmo he hr8)
 have HMO:=Hp hmB
 obtain⟨E,hE⟩:=Nm (kD l m)
 rw[<-hE]at cases⊢
 have hw0':=hw0.symm
 obtain⟨fa,hfa⟩:=Nm (dH l m.name)
 rw[<-hfa]at cases cT HFI cU
 obtain⟨mm,hmm⟩:=Nm (aH m)
 rw[<-hmm]at cases cM HMN cR
 obtain⟨R,hR⟩:=Nm (Rc l m.name)
 rw[<-hR]at cases cT cR cF cU
 obtain⟨U,hU⟩:=Nm (qF l m)
 rw[<-hU]at cases⊢
 rw[<-hmm]at cF
 obtain⟨fq,hfq⟩:∃fq:Int,fq=if fM mm (RI R)<0 then 8 else 0:=⟨_,rfl⟩
 rw[<-hfq]at cases cF
 obtain⟨fi,hfi⟩:=Nm (fM mm (RI R))
 rw[<-hfi]at cases cF
 obtain⟨fr,hfr⟩:∃fr,fr=(RI R).any (jU fa mm):=⟨_,rfl⟩
 rw[<-hfr]at cases
 have HFR:=Hp hfr
 obtain⟨M,hM⟩:=Nm (aL m)
 rw[<-hM]at c1 cases cF cU HMN
 obtain⟨ix,hix⟩:=Nm (idxOf (named m.name) l)
 rw[<-hix]at cP cT HFI cases
 clear hw0 hb0 hM0 h hm hmB hr hE hrr hr8 hrow hfa hmm hR hU hfq hfi hfr hM hix
 rcases cases with⟨t1,rfl⟩|⟨rfl,t2,rfl⟩|⟨j,rfl,rfl,t3,t4,rfl⟩|⟨j,rfl,rfl,t3,rfl,rfl⟩
 ·have t1':(E != 0)=true:=by simp[t1]
  have T1:=Hp t1
  clear t1
  go_enter Tryz.func216,Tryz.ntmps216
  go_wp2_with fail
  refine(c1.out).mono ?_;rintro e w1 ⟨rfl,hb1⟩
  have HBW:=Hp (HB0.trans (hb1.mono HB0.size))
  clear hb1
  go_wp2_with fail
  go_ret
  exact⟨rfl,fun e=>absurd e T1.out,Kp.of_below HBW.out,HBW.mono HSB.out⟩
 ·have t':decide (ix<0)=true:=decide_eq_true t2
  clear t2
  go_enter Tryz.func216,Tryz.ntmps216
  go_wp2_with fail
  refine(c1.out).mono ?_;rintro e w1 ⟨rfl,hb1⟩
  have HB1:=Hp hb1
  have hM1:=(hb1.block w.heap.size (ZL HM0.out)).trans HM0.out
  have HM1:=Hp hM1
  have HP1:=Hp (HP0.below hb1)
  obtain⟨n0,n1,n2,n3,n4,n5,n6⟩:=RF hM1
  obtain⟨hbp1,_,_,_,q3,_⟩:=dI HP1.out
  have HBW1:=Hp (HB0.trans (hb1.mono HB0.size))
  have hbl1:w.heap.size<w1.heap.size:=(ZL hM1)
  clear hb1 hM1 m0 m1 m2 m3 m4 m5 m6
  have HCH:=Hp (show fI w1 (fun W'=>Below w1.heap.size w1 W'/\W'.cell? ⟨w.heap.size,0,none⟩=some (.string m.name)/\W'.cell? ⟨bp,3,none⟩=some (.slice A l.length c)) from dE (by repeat' first|(with_reducible exact bC.cell (by first|omega|(simp;omega)|(simp only[aA];omega)))|refine bC.and ?_ ?_))
  have HC0:=Hp (HCH.now ⟨GZ4 _ _,by assumption,by assumption⟩)
  have HCD:=Hp HCH.D
  have HCS:=Hp HCH.S
  have HCA:=Hp HCH.A
  have HCX:=Hp HCH.X
  have HCL:=Hp HCH.L
  go_wp2_with fail
  go_region_held3 (fun W'=>Below w1.heap.size w1 W'/\W'.cell? ⟨w.heap.size,0,none⟩=some (.string m.name)/\W'.cell? ⟨bp,3,none⟩=some (.slice A l.length c)) (first|exact HC0.out|exact HCD.out _ HC0.out|exact HCS.out _ _ (by assumption) (by assumption)|exact HCS.out _ _ HC0.out (by assumption)|exact HCS.out _ _ (HCD.out _ HC0.out) (by assumption)|exact HCS.out _ _ (HCD.out _ (by assumption)) (by assumption)|exact HCD.out _ (by assumption)|exact HCA.out _ _ (by assumption)|exact HCA.out _ _ HC0.out|exact HCA.out _ _ (HCD.out _ HC0.out)|exact HCD.out _ (HCA.out _ _ (by assumption))|exact HCA.out _ _ (HCS.out _ _ HC0.out (by assumption))|exact HCA.out _ _ (HCS.out _ _ (HCD.out _ HC0.out) (by assumption))|exact HCX.out _ _ _ _ (GZ3 _) (by assumption)|exact HCX.out _ _ _ _ (GZ3 _) (HCS.out _ _ (HCA.out _ _ HC0.out) (by assumption))|exact HCX.out _ _ _ _ (GZ3 _) (HCS.out _ _ (HCD.out _ (HCA.out _ _ HC0.out)) (by assumption))|assumption) (first|(go_at_call 124;(with_reducible refine(cP.out _ (HB1.out.trans ((HCL.out _ (by first|assumption|exact HCD.out _ (by assumption)|exact HC0.out|exact HCD.out _ HC0.out)).mono HB1.out.size))).mono ?_);rintro e w4 ⟨rfl,hb4⟩))
  have HB4:=Hp (HCL.out w4 (by assumption))
  have HP4:=Hp (HP1.below HB4)
  have HBW:=Hp (HBW1.trans (HB4.mono HBW1.size))
  have HB14:=Hp (HB1.trans (HB4.mono HB1.size))
  have HM4:=Hp ((HB4.block w.heap.size hbl1).trans HM1)
  obtain⟨p0,p1,p2,p3,p4,p5,p6⟩:=RF HM4.out
  clear hb4 HC0 HCD HCS HCA HCX HCL n0 n1 n2 n3 n4 n5 n6 q3 hbp1 hbl1
  go_wp2_with fail
  go_ret
  exact⟨rfl,fun e=>absurd e (by decide),Kp.of_below HBW.out,HBW.mono HSB.out⟩
 ·obtain⟨f0,f1⟩:=HFI.out j rfl
  have hE0:=t4 f0
  subst hE0
  clear t4
  have t':decide ((j:Int)<0)=false:=GY7 (by omega)
  go_enter Tryz.func216,Tryz.ntmps216
  go_wp2_with fail
  refine(c1.out).mono ?_;rintro e w1 ⟨rfl,hb1⟩
  have HB1:=Hp hb1
  have hM1:=(hb1.block w.heap.size (ZL HM0.out)).trans HM0.out
  have HM1:=Hp hM1
  have HP1:=Hp (HP0.below hb1)
  obtain⟨n0,n1,n2,n3,n4,n5,n6⟩:=RF hM1
  obtain⟨hbp1,_,_,_,q3,_⟩:=dI HP1.out
  have HBW1:=Hp (HB0.trans (hb1.mono HB0.size))
  have hbl1:w.heap.size<w1.heap.size:=(ZL hM1)
  clear hb1 hM1 m0 m1 m2 m3 m4 m5 m6
  have HCH:=Hp (show fI w1 (fun W'=>Below w1.heap.size w1 W'/\W'.cell? ⟨w.heap.size,0,none⟩=some (.string m.name)/\W'.cell? ⟨bp,3,none⟩=some (.slice A l.length c)) from dE (by repeat' first|(with_reducible exact bC.cell (by first|omega|(simp;omega)|(simp only[aA];omega)))|refine bC.and ?_ ?_))
  have HC0:=Hp (HCH.now ⟨GZ4 _ _,by assumption,by assumption⟩)
  have HCD:=Hp HCH.D
  have HCS:=Hp HCH.S
  have HCA:=Hp HCH.A
  have HCX:=Hp HCH.X
  have HCL:=Hp HCH.L
  go_wp2_with fail
  go_region_held3 (fun W'=>Below w1.heap.size w1 W'/\W'.cell? ⟨w.heap.size,0,none⟩=some (.string m.name)/\W'.cell? ⟨bp,3,none⟩=some (.slice A l.length c)) (first|exact HC0.out|exact HCD.out _ HC0.out|exact HCS.out _ _ (by assumption) (by assumption)|exact HCS.out _ _ HC0.out (by assumption)|exact HCS.out _ _ (HCD.out _ HC0.out) (by assumption)|exact HCS.out _ _ (HCD.out _ (by assumption)) (by assumption)|exact HCD.out _ (by assumption)|exact HCA.out _ _ (by assumption)|exact HCA.out _ _ HC0.out|exact HCA.out _ _ (HCD.out _ HC0.out)|exact HCD.out _ (HCA.out _ _ (by assumption))|exact HCA.out _ _ (HCS.out _ _ HC0.out (by assumption))|exact HCA.out _ _ (HCS.out _ _ (HCD.out _ HC0.out) (by assumption))|exact HCX.out _ _ _ _ (GZ3 _) (by assumption)|exact HCX.out _ _ _ _ (GZ3 _) (HCS.out _ _ (HCA.out _ _ HC0.out) (by assumption))|exact HCX.out _ _ _ _ (GZ3 _) (HCS.out _ _ (HCD.out _ (HCA.out _ _ HC0.out)) (by assumption))|assumption) (first|(go_at_call 124;(with_reducible refine(cP.out _ (HB1.out.trans ((HCL.out _ (by first|assumption|exact HCD.out _ (by assumption)|exact HC0.out|exact HCD.out _ HC0.out)).mono HB1.out.size))).mono ?_);rintro e w4 ⟨rfl,hb4⟩))
  have HB4:=Hp (HCL.out w4 (by assumption))
  have HP4:=Hp (HP1.below HB4)
  have HBW:=Hp (HBW1.trans (HB4.mono HBW1.size))
  have HB14:=Hp (HB1.trans (HB4.mono HB1.size))
  have HM4:=Hp ((HB4.block w.heap.size hbl1).trans HM1)
  obtain⟨p0,p1,p2,p3,p4,p5,p6⟩:=RF HM4.out
  clear hb4 HC0 HCD HCS HCA HCX HCL n0 n1 n2 n3 n4 n5 n6 q3 hbp1 hbl1
  have cT':=Hp (cT.out w4 HB14.out j (by first|trivial|rfl))
  clear cT
  go_wp2_with fail
  refine(cT'.out).mono ?_;rintro e w5 ⟨rfl,⟨A',c',hp5⟩,hk5,hb5⟩
  have HP5:=Hp hp5
  have HM5:=Hp (hk5 _ _ _ _ HM4.out (by decide))
  obtain⟨r0,r1,r2,r3,r4,r5,r6⟩:=RF HM5.out
  have HK5:=Hp ((Kp.of_below HBW).trans hk5)
  have HB5:=Hp ((HBW.mono HSB).trans hb5)
  clear hp5 hk5 hb5 p0 p1 p2 p3 p4 p5 p6 cT'
  go_wp2_with fail
  refine(cM.out _).mono ?_;rintro e w6 ⟨rfl,hb6⟩
  have HP6:=Hp (HP5.below hb6)
  have HM6:=Hp ((hb6.block _ (ZL HM5)).trans HM5)
  have HK6:=Hp (HK5.trans (Kp.of_below hb6))
  have HB6:=Hp (HB5.trans (hb6.mono HP5.size))
  have hmn:=HMN.out (by first|trivial|rfl)
  have cR':=Hp (cR.out A' c' w6 fa (by omega) (by omega) HP6.out)
  rw[<-HFR.out,t3]at cR'
  clear hb6 r0 r1 r2 r3 r4 r5 r6 hmn
  go_wp2_with fail
  refine(cR'.out).mono ?_;rintro e w7 ⟨rfl,hb7⟩
  have HP7:=Hp (HP6.below hb7)
  have HM7:=Hp ((hb7.block _ (ZL HM6)).trans HM6)
  obtain⟨s0,s1,s2,s3,s4,s5,s6⟩:=RF HM7.out
  have HK7:=Hp (HK6.trans (Kp.of_below hb7))
  have HB7:=Hp (HB6.trans (hb7.mono HP6.size))
  clear hb7 cR'
  have cU':=Hp (cU.out A' c' w7 (HMO.out w7 HB7.out) HP7.out (by first|trivial|rfl))
  go_wp2_with fail
  refine(cU'.out).mono ?_;rintro e w8 ⟨⟨u,rfl⟩,⟨A8,c8,m8,hs8,hp8⟩,hk8,hb8⟩
  have HS8:=Hp hs8
  have HP8:=Hp hp8
  have HK8:=Hp (HK7.trans hk8)
  have HB8:=Hp (HB7.trans hb8)
  clear hs8 hp8 hk8 hb8
  go_wp2_with fail
  go_ret
  exact⟨rfl,fun _=>⟨A8,c8,fH R m8 fa,by rw[kU,kU,iL HS8.out],HP8.out⟩,HK8.out,HB8.out⟩
 ·obtain⟨f0,f1⟩:=HFI.out j rfl
  have t':decide ((j:Int)<0)=false:=GY7 (by omega)
  go_enter Tryz.func216,Tryz.ntmps216
  go_wp2_with fail
  refine(c1.out).mono ?_;rintro e w1 ⟨rfl,hb1⟩
  have HB1:=Hp hb1
  have hM1:=(hb1.block w.heap.size (ZL HM0.out)).trans HM0.out
  have HM1:=Hp hM1
  have HP1:=Hp (HP0.below hb1)
  obtain⟨n0,n1,n2,n3,n4,n5,n6⟩:=RF hM1
  obtain⟨hbp1,_,_,_,q3,_⟩:=dI HP1.out
  have HBW1:=Hp (HB0.trans (hb1.mono HB0.size))
  have hbl1:w.heap.size<w1.heap.size:=(ZL hM1)
  clear hb1 hM1 m0 m1 m2 m3 m4 m5 m6
  have HCH:=Hp (show fI w1 (fun W'=>Below w1.heap.size w1 W'/\W'.cell? ⟨w.heap.size,0,none⟩=some (.string m.name)/\W'.cell? ⟨bp,3,none⟩=some (.slice A l.length c)) from dE (by repeat' first|(with_reducible exact bC.cell (by first|omega|(simp;omega)|(simp only[aA];omega)))|refine bC.and ?_ ?_))
  have HC0:=Hp (HCH.now ⟨GZ4 _ _,by assumption,by assumption⟩)
  have HCD:=Hp HCH.D
  have HCS:=Hp HCH.S
  have HCA:=Hp HCH.A
  have HCX:=Hp HCH.X
  have HCL:=Hp HCH.L
  go_wp2_with fail
  go_region_held3 (fun W'=>Below w1.heap.size w1 W'/\W'.cell? ⟨w.heap.size,0,none⟩=some (.string m.name)/\W'.cell? ⟨bp,3,none⟩=some (.slice A l.length c)) (first|exact HC0.out|exact HCD.out _ HC0.out|exact HCS.out _ _ (by assumption) (by assumption)|exact HCS.out _ _ HC0.out (by assumption)|exact HCS.out _ _ (HCD.out _ HC0.out) (by assumption)|exact HCS.out _ _ (HCD.out _ (by assumption)) (by assumption)|exact HCD.out _ (by assumption)|exact HCA.out _ _ (by assumption)|exact HCA.out _ _ HC0.out|exact HCA.out _ _ (HCD.out _ HC0.out)|exact HCD.out _ (HCA.out _ _ (by assumption))|exact HCA.out _ _ (HCS.out _ _ HC0.out (by assumption))|exact HCA.out _ _ (HCS.out _ _ (HCD.out _ HC0.out) (by assumption))|exact HCX.out _ _ _ _ (GZ3 _) (by assumption)|exact HCX.out _ _ _ _ (GZ3 _) (HCS.out _ _ (HCA.out _ _ HC0.out) (by assumption))|exact HCX.out _ _ _ _ (GZ3 _) (HCS.out _ _ (HCD.out _ (HCA.out _ _ HC0.out)) (by assumption))|assumption) (first|(go_at_call 124;(with_reducible refine(cP.out _ (HB1.out.trans ((HCL.out _ (by first|assumption|exact HCD.out _ (by assumption)|exact HC0.out|exact HCD.out _ HC0.out)).mono HB1.out.size))).mono ?_);rintro e w4 ⟨rfl,hb4⟩))
  have HB4:=Hp (HCL.out w4 (by assumption))
  have HP4:=Hp (HP1.below HB4)
  have HBW:=Hp (HBW1.trans (HB4.mono HBW1.size))
  have HB14:=Hp (HB1.trans (HB4.mono HB1.size))
  have HM4:=Hp ((HB4.block w.heap.size hbl1).trans HM1)
  obtain⟨p0,p1,p2,p3,p4,p5,p6⟩:=RF HM4.out
  clear hb4 HC0 HCD HCS HCA HCX HCL n0 n1 n2 n3 n4 n5 n6 q3 hbp1 hbl1
  have cT':=Hp (cT.out w4 HB14.out j (by first|trivial|rfl))
  clear cT
  go_wp2_with fail
  refine(cT'.out).mono ?_;rintro e w5 ⟨rfl,⟨A',c',hp5⟩,hk5,hb5⟩
  have HP5:=Hp hp5
  have HM5:=Hp (hk5 _ _ _ _ HM4.out (by decide))
  obtain⟨r0,r1,r2,r3,r4,r5,r6⟩:=RF HM5.out
  have HK5:=Hp ((Kp.of_below HBW).trans hk5)
  have HB5:=Hp ((HBW.mono HSB).trans hb5)
  clear hp5 hk5 hb5 p0 p1 p2 p3 p4 p5 p6 cT'
  go_wp2_with fail
  refine(cM.out _).mono ?_;rintro e w6 ⟨rfl,hb6⟩
  have HP6:=Hp (HP5.below hb6)
  have HM6:=Hp ((hb6.block _ (ZL HM5)).trans HM5)
  have HK6:=Hp (HK5.trans (Kp.of_below hb6))
  have HB6:=Hp (HB5.trans (hb6.mono HP5.size))
  have hmn:=HMN.out (by first|trivial|rfl)
  have cR':=Hp (cR.out A' c' w6 fa (by omega) (by omega) HP6.out)
  rw[<-HFR.out,t3]at cR'
  clear hb6 r0 r1 r2 r3 r4 r5 r6 hmn
  go_wp2_with fail
  refine(cR'.out).mono ?_;rintro e w7 ⟨rfl,hb7⟩
  have HP7:=Hp (HP6.below hb7)
  have HM7:=Hp ((hb7.block _ (ZL HM6)).trans HM6)
  obtain⟨s0,s1,s2,s3,s4,s5,s6⟩:=RF HM7.out
  have HK7:=Hp (HK6.trans (Kp.of_below hb7))
  have HB7:=Hp (HB6.trans (hb7.mono HP6.size))
  clear hb7 cR'
  have cF':=Hp (cF.out A' c' w7 (HMO.out w7 HB7.out) HP7.out (by first|trivial|rfl))
  clear cF
  go_wp2_with fail
  refine(cF'.out).mono ?_;rintro e w8 hd
  have HD:=Hp (qV.after HK7 HB7 _ _ hd)
  obtain⟨rfl,_⟩:=hd
  go_wp2_with fail
  go_ret
  exact HD.out
end
section
open Go.RowKit Go.Lib
abbrev cmA (c:Cm):Array Value:=#[.int .i64 c.kind,.string c.m.name,.int .i64 c.m.major,.int .i64 c.m.minor,.string c.m.text,.slice c.m.eA c.m.ex.length c.m.eC,.slice c.m.iA c.m.im.length c.m.iC,.slice c.m.pA c.m.pa.length c.m.pC,.string c.nm]
abbrev Cm.v (c:Cm):Value:=.agg #[.int .i64 c.kind,.string c.m.name,.int .i64 c.m.major,.int .i64 c.m.minor,.string c.m.text,.slice c.m.eA c.m.ex.length c.m.eC,.slice c.m.iA c.m.im.length c.m.iC,.slice c.m.pA c.m.pa.length c.m.pC,.string c.nm]
theorem dJ {W:World}{b:Nat}{c:Cm}(h:W.heap[b]? =some (.cells (cmA c) 102 (0,0))):
  W.cell? ⟨b,0,none⟩=some (.int .i64 c.kind)/\W.cell? ⟨b,1,none⟩=some (.string c.m.name)/\W.cell? ⟨b,2,none⟩=some (.int .i64 c.m.major)/\W.cell? ⟨b,3,none⟩=some (.int .i64 c.m.minor)/\W.cell? ⟨b,4,none⟩=some (.string c.m.text)/\W.cell? ⟨b,5,none⟩=some (.slice c.m.eA c.m.ex.length c.m.eC)/\W.cell? ⟨b,6,none⟩=some (.slice c.m.iA c.m.im.length c.m.iC)/\W.cell? ⟨b,7,none⟩=some (.slice c.m.pA c.m.pa.length c.m.pC)/\W.cell? ⟨b,8,none⟩=some (.string c.nm):=
 ⟨heap_cell h 0,heap_cell h 1,heap_cell h 2,heap_cell h 3,heap_cell h 4,heap_cell h 5,heap_cell h 6,heap_cell h 7,heap_cell h 8⟩
theorem Pq (base bp B:Nat)(k:Krn)(A:Option Addr)(c:Nat)(l:List Plc)(cm:Cm)(w:World)(h:RJ w base bp k A l c)(hB:w.heap[B]? =some (.cells (cmA cm) 102 (0,0)))(hmB:∀W,Below base w W->cm.m.ok W)(hr:RY l=0):
  Calls Tryz.prog 213 (#[.pointer (some ⟨bp,0,none⟩)]++ #[.pointer (some ⟨B,0,none⟩)]) w (qV w base bp k (kC cm l) (cmL cm l)):=by
 obtain⟨p0,p1,p2,p3,p4,p5,p6,p7,p8⟩:=dJ hB
 have c1:=Hp (EY base bp k A c l cm.m w h (hmB w (GZ4 _ _)) hr)
 have c2:=Hp (G5 base bp k A c l cm.nm w h (cZ hr).1)
 have c3:=Hp (En base bp k A c l cm.m w h hmB hr)
 obtain⟨E,hE⟩:=Nm (kC cm l)
 obtain⟨L,hL⟩:=Nm (cmL cm l)
 rw[<-hE,<-hL]
 unfold kC at hE
 unfold cmL at hL
 clear h hB hmB hr
 by_cases t1:cm.kind=1
 ·rw[if_pos t1]at hE hL
  rw[<-hE,<-hL]at c1
  have t1':(cm.kind==1)=true:=by simp[t1]
  clear hE hL t1 c2 c3
  go_enter Tryz.func213,Tryz.ntmps213
  go_wp2_with fail
  refine(c1.out).mono ?_;rintro e w8 hd
  have HD:=Hp hd
  obtain⟨rfl,_⟩:=hd
  go_wp2_with fail
  go_ret
  exact HD.out
 ·rw[if_neg t1]at hE hL
  have t1':(cm.kind==1)=false:=by simp[t1]
  by_cases t2:cm.kind=2
  ·rw[if_pos t2]at hE hL
   rw[<-hE,<-hL]at c2
   have t2':(cm.kind==2)=true:=by simp[t2]
   clear hE hL t1 t2 c1 c3
   go_enter Tryz.func213,Tryz.ntmps213
   go_wp2_with fail
   refine(c2.out).mono ?_;rintro e w8 hd
   have HD:=Hp hd
   obtain⟨rfl,_⟩:=hd
   go_wp2_with fail
   go_ret
   exact HD.out
  ·rw[if_neg t2]at hE hL
   rw[<-hE,<-hL]at c3
   have t2':(cm.kind==2)=false:=by simp[t2]
   clear hE hL t1 t2 c1 c2
   go_enter Tryz.func213,Tryz.ntmps213
   go_wp2_with fail
   refine(c3.out).mono ?_;rintro e w8 hd
   have HD:=Hp hd
   obtain⟨rfl,_⟩:=hd
   go_wp2_with fail
   go_ret
   exact HD.out
def U7 (w:World)(F:Int)(k:Krn)(L:List Plc)(e:Ending)(w':World):Prop:=
 (∃k' A' l' c',e=.returned (.tuple #[rgV k' A' l' c',.int .i64 F])/\UQ w' w.heap.size k' A' l' c' (wK F k) (wL F L))/\Below w.heap.size w w'
theorem U7.of_below {w w1:World}{F:Int}{k:Krn}{L:List Plc}(hb:Below w.heap.size w w1):∀e w',U7 w1 F k L e w'->U7 w F k L e w':=
 fun _ _ ⟨⟨k',A',l',c',he,hr⟩,hb'⟩=>⟨⟨k',A',l',c',he,⟨⟨RH hr.own.ex hb.size,hr.own.mods.le hb.size⟩,hr.RU,hr.mods⟩⟩,hb.trans (hb'.mono hb.size)⟩
theorem Oa (k:Krn)(A:Option Addr)(c:Nat)(l:List Plc)(g:Nat)(lb:Array Value)(E:Int)(L:List Plc)(w:World)(eg:∀args w,(callFunc g args).run Tryz.prog w=.ok (.enter g args) w)(hk:k.ok w)(h:aU w A l)(hrg:aZ k l=0)
  (hdo:∀W bp k1 A1 l1 c1,Below w.heap.size w W->aD l1=aD l->RJ W w.heap.size bp k1 A1 l1 c1->Calls Tryz.prog g (#[.pointer (some ⟨bp,0,none⟩)]++lb) W (qV W w.heap.size bp k1 E L)):
  Calls Tryz.prog 212 #[rgV k A l c,.func (.func g) #[] lb] w (U7 w (if E≠0 then E else aZ k L) k L):=by
 obtain⟨w0,hw0⟩:=Nm (w.alloc (.cells #[.int .i64 k.major,.int .i64 k.minor,.slice k.eA k.ex.length k.eC,.slice A l.length c] 39))
 obtain⟨g0,g1,g2,g3,hz0,hb0⟩:=oJ hw0
 obtain⟨x0,hx0⟩:=Nm (w0.alloc (.cells #[.int .i64 0,.int .i64 0,.slice none 0 0,.slice none 0 0] 39))
 have hbx:Below w0.heap.size w0 x0:=hx0▸ZB
 have hzx:x0.heap.size=w.heap.size+2:=by rw[hx0];simp;omega
 have HR0:=Hp (show x0.heap[w.heap.size+1]? =some (.cells #[.int .i64 0,.int .i64 0,.slice none 0 0,.slice none 0 0] 39 (0,0)) by rw[hx0,<-hz0];exact heap_alloc_new w0 _)
 have HG0:=Hp (show x0.heap[w.heap.size]? =some (.cells #[.int .i64 k.major,.int .i64 k.minor,.slice k.eA k.ex.length k.eC,.slice A l.length c] 39 (0,0)) by rw[hx0,heap_alloc_old w0 _ (by omega),hw0];exact heap_alloc_new w _)
 obtain⟨_,k0,k1,k2,k3,_⟩:=aB HG0.out
 have HX:=Hp (hb0.trans (hbx.mono hb0.size))
 have HP:=Hp h
 have HK:=Hp hk
 obtain⟨f1,f2,f3,f4⟩:=oL hrg
 have c1:=Hp (fun W(hb:Below w.heap.size w W)=>U8 k A c l W (hk.below hb) (h.below hb) f1 f3 f4)
 have HD:=Hp hdo
 obtain⟨F,hF⟩:∃F,F=if E≠0 then E else aZ k L:=⟨_,rfl⟩
 rw[<-hF]
 have HF:=Hp hF
 have HEG:=Hp eg
 have hw0':=hw0.symm
 have hx0':=hx0.symm
 clear hw0 hx0 hb0 hbx hk h g0 g1 g2 g3 hzx hF f1 f2 f3 f4 hdo hrg eg
 go_enter Tryz.func212,Tryz.ntmps212
 go_wp2_with fail
 refine(c1.out _ HX.out).mono ?_;rintro e w1 ⟨⟨k1',A1,l1,c1',rfl,hk1,hl1,hrg1⟩,hb1⟩
 have HB1:=Hp (HX.trans (hb1.mono HX.size))
 obtain⟨w2,hw2⟩:=Nm (w1.alloc (.cells #[.int .i64 k1'.major,.int .i64 k1'.minor,.slice k1'.eA k1'.ex.length k1'.eC,.slice A1 l1.length c1'] 281))
 have hb2:Below w1.heap.size w1 w2:=hw2▸ZB
 have h2:w2.heap[w1.heap.size]? =some (.cells #[.int .i64 k1'.major,.int .i64 k1'.minor,.slice k1'.eA k1'.ex.length k1'.eC,.slice A1 l1.length c1'] 281 (0,0)):=by rw[hw2];exact heap_alloc_new w1 _
 have HB2:=Hp (HB1.trans (hb2.mono HB1.size))
 have hrg2:=hrg1.below hb2
 have HP2:=Hp (show RJ w2 w.heap.size w1.heap.size k1' A1 l1 c1' from⟨h2,⟨RH hrg2.ex HX.size,hrg2.mods.le HX.size⟩,hrg2.mods.ok rfl (by have:=congrArg (List.map Plc.m) hl1;rw[List.map_map,List.map_map]at this;exact this) HP.out,HB1.size⟩)
 have HR2:=Hp ((hb2.block (w.heap.size+1) (GY0 (ZL HR0) hb1.size)).trans ((hb1.block (w.heap.size+1) (ZL HR0)).trans HR0))
 have HK1:=Hp hk1
 have cD:=Hp (HD.out w2 w1.heap.size k1' A1 l1 c1' HB2.out hl1 HP2.out)
 have hw2':=hw2.symm
 have heg:=HEG.out
 clear hb1 hrg1 hw2 hb2 h2 hrg2 hk1 hl1 k0 k1 k2 k3 HD c1
 go_wp2_with fail
 refine(cD.out).mono ?_;rintro e w3 ⟨rfl,hE0,hk3,hb3⟩
 have HR3:=Hp (hk3 _ _ _ _ HR2.out (by decide))
 have HB3:=Hp (HB2.trans hb3)
 clear hk3 hb3 cD heg
 by_cases t:E=0
 ·obtain⟨A2,c2,L2,hL2,hp3⟩:=hE0 t
  have hFE:F=aZ k L:=by rw[HF.out,if_neg (by omega)]
  have hko:=hp3.own.okK HK1.out HK.out
  have cC:=Hp (jE k1' A2 c2 L2 w3 hko hp3.ok)
  rw[kQ HK1.out hL2,<-hFE]at cC
  have HP3:=Hp hp3
  have HL2:=Hp hL2
  obtain⟨_,p0,p1,p2,p3,_⟩:=dI hp3
  subst t
  clear hE0 hp3 hL2 hko hFE
  go_wp2_with fail
  refine(cC.out).mono ?_;rintro e w4 ⟨rfl,hb4⟩
  have HR4:=Hp ((hb4.block _ (ZL HR3)).trans HR3)
  have HB4:=Hp (HB3.trans (hb4.mono HB3.size))
  have HP4:=Hp (HP3.below hb4)
  obtain⟨_,q0,q1,q2,q3,_⟩:=dI HP4.out
  obtain⟨_,r0,r1,r2,r3,z0,z1,z2,z3⟩:=aB HR4.out
  clear hb4 cC p0 p1 p2 p3
  by_cases t:F=0
  ·have TF:=Hp t
   subst t
   go_wp2_with fail
   obtain⟨hg,ho⟩:=gY HR4.out (.int .i64 k1'.major) (.int .i64 k1'.minor) (.slice k1'.eA k1'.ex.length k1'.eC) (.slice A2 L2.length c2)
   refine bodyPost_ret (results_cell_tmp rfl _ _ (w.heap.size+1) 39 _ (0,0) _ rfl hg Tryz.underlying39 rfl Tryz.RP) rfl ?_
   have hkr:=ho.kp HR4.out (ts:=[39]) (by simp)
   exact⟨⟨k1',A2,L2,c2,rfl,⟨HP4.own.kp hkr (by decide) (by decide) (by decide) (by decide),HK1.out,HL2.out⟩⟩,HB4.trans ((ho.below (GY2 (ZL HR4.out))).mono (by omega))⟩
  ·have t':(F != 0)=true:=by simp[t]
   have T:=Hp t
   clear t
   go_wp2_with fail
   obtain⟨hg,ho⟩:=gY HR4.out (.int .i64 0) (.int .i64 0) (.slice none 0 0) (.slice none 0 0)
   refine bodyPost_ret (results_cell_tmp rfl _ _ (w.heap.size+1) 39 _ (0,0) _ rfl hg Tryz.underlying39 rfl Tryz.RP) rfl ?_
   exact⟨⟨Rk,none,[],0,rfl,oI _ _ T.out _ _⟩,HB4.trans ((ho.below (GY2 (ZL HR4.out))).mono (by omega))⟩
 ·have t':(E==0)=false:=by simp[t]
  have t2':(E != 0)=true:=by simp[t]
  have hFE:F=E:=by rw[HF.out,if_pos t]
  subst hFE
  have T:=Hp t
  obtain⟨_,r0,r1,r2,r3,z0,z1,z2,z3⟩:=aB HR3.out
  clear t hE0
  go_wp2_with fail
  obtain⟨hg,ho⟩:=gY HR3.out (.int .i64 0) (.int .i64 0) (.slice none 0 0) (.slice none 0 0)
  refine bodyPost_ret (results_cell_tmp rfl _ _ (w.heap.size+1) 39 _ (0,0) _ rfl hg Tryz.underlying39 rfl Tryz.RP) rfl ?_
  exact⟨⟨Rk,none,[],0,rfl,oI _ _ T.out _ _⟩,HB3.trans ((ho.below (GY2 (ZL HR3.out))).mono (by omega))⟩
theorem Ps (k:Krn)(A:Option Addr)(c:Nat)(l:List Plc)(cm:Cm)(w:World)(hk:k.ok w)(h:aU w A l)(hm:cm.m.ok w)(hrg:aZ k l=0):
  Calls Tryz.prog 151 #[rgV k A l c,cm.v] w (U7 w (kP k cm l) k (cmL cm l)):=by
 obtain⟨w0,hw0⟩:=Nm (w.alloc (.cells #[.int .i64 k.major,.int .i64 k.minor,.slice k.eA k.ex.length k.eC,.slice A l.length c] 39))
 obtain⟨x0,hx0⟩:=Nm (w0.alloc (.cells (cmA cm) 102))
 obtain⟨y0,hy0⟩:=Nm (x0.alloc (.cells #[.int .i64 0,.int .i64 0,.slice none 0 0,.slice none 0 0] 39))
 have hb0:Below w.heap.size w w0:=hw0▸ZB
 have hbx:Below w0.heap.size w0 x0:=hx0▸ZB
 have hby:Below x0.heap.size x0 y0:=hy0▸ZB
 have hz0:w0.heap.size=w.heap.size+1:=by rw[hw0];simp
 have hzx:x0.heap.size=w.heap.size+2:=by rw[hx0];simp;omega
 have hzy:y0.heap.size=w.heap.size+3:=by rw[hy0];simp;omega
 have hG0:w0.heap[w.heap.size]? =some (.cells #[.int .i64 k.major,.int .i64 k.minor,.slice k.eA k.ex.length k.eC,.slice A l.length c] 39 (0,0)):=by rw[hw0];exact heap_alloc_new w _
 have hC0:x0.heap[w.heap.size+1]? =some (.cells (cmA cm) 102 (0,0)):=by rw[hx0,<-hz0];exact heap_alloc_new w0 _
 have HG:=Hp ((hby.block w.heap.size (by omega)).trans ((hbx.block w.heap.size (by omega)).trans hG0))
 have HC:=Hp ((hby.block (w.heap.size+1) (by omega)).trans hC0)
 have HR:=Hp (show y0.heap[w.heap.size+2]? =some (.cells #[.int .i64 0,.int .i64 0,.slice none 0 0,.slice none 0 0] 39 (0,0)) by rw[hy0,<-hzx];exact heap_alloc_new x0 _)
 have HB:=Hp ((hb0.trans (hbx.mono hb0.size)).trans (hby.mono (GY1 hb0.size hbx.size)))
 obtain⟨_,k0,k1,k2,k3,_⟩:=aB HG.out
 have hlt:w.heap.size+1<y0.heap.size:=by omega
 have cR:=Hp (Oa k A c l 213 #[.pointer (some ⟨w.heap.size+1,0,none⟩)] (kC cm l) (cmL cm l) y0 (enters_of Tryz.func213 (by kernel_rfl) rfl) (hk.below HB.out) (h.below HB.out) hrg
  (fun W bp k1 A1 l1 c1 hb hl1 hp=>by
   have hreg:RY l1=0:=by rw[<-qW,hl1,qW];exact Et hrg
   have:=Pq y0.heap.size bp (w.heap.size+1) k1 A1 c1 l1 cm W hp ((hb.block _ hlt).trans HC.out) (fun W2 hb2=>hm.below (HB.trans ((hb.trans hb2).mono HB.size))) hreg
   refine this.mono ?_
   rintro e w' ⟨h1,h2,h3,h4⟩
   have he:kC cm l1=kC cm l:=AP rfl hl1
   rw[he]at h1 h2
   refine⟨h1,fun h0=>?_,h3,h4⟩
   obtain⟨A',c',L',hL',hp'⟩:=h2 h0
   exact⟨A',c',L',hL'.trans (zV rfl hl1),hp'⟩))
 have hce:(if kC cm l≠0 then kC cm l else aZ k (cmL cm l))=kP k cm l:=rfl
 rw[hce]at cR
 obtain⟨F,hF⟩:=Nm (kP k cm l)
 obtain⟨L,hL⟩:=Nm (cmL cm l)
 rw[<-hF,<-hL]at cR ⊢
 have hw0':=hw0.symm
 have hx0':=hx0.symm
 have hy0':=hy0.symm
 clear hw0 hx0 hy0 hb0 hbx hby hG0 hC0 hk h hm hrg hce hF hL hlt hzy
 go_enter Tryz.func151,Tryz.ntmps151
 go_wp2_with fail
 refine(cR.out).mono ?_;rintro e w1 ⟨⟨k',A',l',c',rfl,hrg⟩,hb1⟩
 have HRG:=Hp hrg
 have HB1:=Hp (HB.trans (hb1.mono HB.size))
 have HSZ:=Hp HB.size
 obtain⟨HR1,r0,r1,r2,r3,z0,z1,z2,z3⟩:=aB ((hb1.block _ (ZL HR.out)).trans HR.out)
 clear hrg hb1 cR
 go_wp2_with fail
 obtain⟨hg,ho⟩:=gY HR1.out (.int .i64 k'.major) (.int .i64 k'.minor) (.slice k'.eA k'.ex.length k'.eC) (.slice A' l'.length c')
 refine bodyPost_ret (results_cell_tmp rfl _ _ (w.heap.size+2) 39 _ (0,0) _ rfl hg Tryz.underlying39 rfl Tryz.RP) rfl ?_
 have hkr:=ho.kp HR1.out (ts:=[39]) (by simp)
 have hown:=HRG.own.kp hkr (by decide) (by decide) (by decide) (by decide)
 exact⟨⟨k',A',l',c',rfl,⟨⟨RH hown.ex HSZ.out,hown.mods.le HSZ.out⟩,HRG.RU,HRG.mods⟩⟩,HB1.trans ((ho.below (GY2 (ZL HR1.out))).mono (by omega))⟩
end
end Go.Proofs.YtjiedaialianmaaGreat
