import Derived.Test.YtjiedaialianmaaGreatCRestPlans06
import Derived.Test.YtjiedaialianmaaGreatCRestPlans07
/- RestPlans: registries and modules that came, and were changed, change nothing that was handed in, nor what comes next. No condition. -/
set_option maxRecDepth 100000
set_option maxHeartbeats 8000000
namespace Go.Proofs.YtjiedaialianmaaGreat
open Go.ChangeShapes Go.WideShapes Go.ChangeAt Go.RowKit Go.WideMaps Go.WideElems
open Go.ChangeMaps (setBlock shut_map_nil open_string shut_string keptBut_setBlock frozen?_setBlock heap_setBlock_same)
theorem RestPlans_any (k:Krn)(A:Option Addr)(l:List Plc)(c:Nat)(m:Mod)(nm:ByteArray)(w:World)(hk:k.ok w)(h:aU w A l)(hf:RgFit k l)(hm:m.ok w)(hmf:ModFit m)(_hn:nm.size<=140737488351232):
  Calls Tryz.prog 6 #[.agg #[.int .i64 k.major,.int .i64 k.minor,.slice k.eA k.ex.length k.eC,.slice A l.length c],m.v,.string nm] w fun e w'=>e=.returned (.bool true)/\Below w.heap.size w w':=by
 have HBw:=Hp (GZ4 w.heap.size w)
 obtain⟨w0,e0⟩:=Nm w
 have HB0:=Hp (show Below w.heap.size w w0 from e0▸GZ4 _ _)
 have HT0:=Hp (show dL w0 k A l from e0▸⟨hk,h⟩)
 have HMO0:=Hp (show m.ok w0 from e0▸hm)
 subst e0
 obtain⟨w1,m8⟩:=Nm (w0.alloc (.cells #[.int .i64 k.major,.int .i64 k.minor,.slice k.eA k.ex.length k.eC,.slice A l.length c] 39))
 have u8:Below w0.heap.size w0 w1:=m8▸ZB
 have HB1:=Hp (HB0.trans (u8.mono HB0.size))
 have HT1:=Hp (HT0.below u8)
 have HMO1:=Hp (HMO0.below u8)
 have HR1:=Hp (show w1.heap[w0.heap.size]? =some (.cells #[.int .i64 k.major,.int .i64 k.minor,.slice k.eA k.ex.length k.eC,.slice A l.length c] 39 (0,0)) by rw[m8];exact heap_alloc_new w0 _)
 have HSZ1:=Hp (show w1.heap.size=w0.heap.size+1 by rw[m8];simp)
 have hw1':=m8.symm
 clear m8 u8
 obtain⟨w2,l9⟩:=Nm (w1.alloc (.cells #[.string m.name,.int .i64 m.major,.int .i64 m.minor,.string m.text,.slice m.eA m.ex.length m.eC,.slice m.iA m.im.length m.iC,.slice m.pA m.pa.length m.pC] 70))
 have n8:Below w1.heap.size w1 w2:=l9▸ZB
 have hneRM:=Hp (Nat.ne_of_lt (ZL HR1.out))
 have HB2:=Hp (HB1.trans (n8.mono HB1.size))
 have HT2:=Hp (HT1.below n8)
 have HMO2:=Hp (HMO1.below n8)
 have HR2:=Hp (aF n8 HR1)
 have HM2:=Hp (show w2.heap[w1.heap.size]? =some (.cells #[.string m.name,.int .i64 m.major,.int .i64 m.minor,.string m.text,.slice m.eA m.ex.length m.eC,.slice m.iA m.im.length m.iC,.slice m.pA m.pa.length m.pC] 70 (0,0)) by rw[l9];exact heap_alloc_new w1 _)
 have HSZ2:=Hp (show w2.heap.size=w1.heap.size+1 by rw[l9];simp)
 have hw2':=l9.symm
 clear l9 n8
 have HFR:=Hp hf
 have HFM:=Hp hmf
 clear hk h hm hf hmf
 go_enter Tryz.func6,Tryz.ntmps6
 go_wp2_with fail
 refine(planBegun_any _).mono ?_;rintro e w3 ⟨rfl,l0⟩
 have HB3:=Hp (HB2.trans (l0.mono HB2.size))
 have HT3:=Hp (HT2.below l0)
 have HMO3:=Hp (HMO2.below l0)
 have HR3:=Hp (aF l0 HR2)
 have HM3:=Hp (aF l0 HM2)
 clear l0
 go_wp2_with fail
 refine(U4 _).mono ?_;rintro e w4 ⟨rfl,k9⟩
 have HB4:=Hp (HB3.trans (k9.mono HB3.size))
 have HT4:=Hp (HT3.below k9)
 have HMO4:=Hp (HMO3.below k9)
 have HR4:=Hp (aF k9 HR3)
 have HM4:=Hp (aF k9 HM3)
 clear k9
 go_wp2_with fail
 refine(moduleBegun_any _).mono ?_;rintro e w5 ⟨rfl,b9⟩
 have HB5:=Hp (HB4.trans (b9.mono HB4.size))
 have HT5:=Hp (HT4.below b9)
 have HMO5:=Hp (HMO4.below b9)
 have HR5:=Hp (aF b9 HR4)
 have HM5:=Hp (aF b9 HM4)
 clear b9
 go_wp2_with fail
 refine(resolveBegun_any _).mono ?_;rintro e w6 ⟨rfl,k8⟩
 have HB6:=Hp (HB5.trans (k8.mono HB5.size))
 have HT6:=Hp (HT5.below k8)
 have HMO6:=Hp (HMO5.below k8)
 have HR6:=Hp (aF k8 HR5)
 have HM6:=Hp (aF k8 HM5)
 clear k8
 go_wp2_with fail
 refine(graphBegun_any _).mono ?_;rintro e w7 ⟨rfl,k7⟩
 have HB7:=Hp (HB6.trans (k7.mono HB6.size))
 have HT7:=Hp (HT6.below k7)
 have HMO7:=Hp (HMO6.below k7)
 have HR7:=Hp (aF k7 HR6)
 have HM7:=Hp (aF k7 HM6)
 clear k7
 go_wp2_with fail
 refine(regionBegun_any _).mono ?_;rintro e w8 ⟨rfl,k0⟩
 have HB8:=Hp (HB7.trans (k0.mono HB7.size))
 have HT8:=Hp (HT7.below k0)
 have HMO8:=Hp (HMO7.below k0)
 have HR8:=Hp (aF k0 HR7)
 have HM8:=Hp (aF k0 HM7)
 clear k0
 go_wp2_with fail
 refine(compactBegun_any _).mono ?_;rintro e w9 ⟨rfl,j9⟩
 have HB9:=Hp (HB8.trans (j9.mono HB8.size))
 have HT9:=Hp (HT8.below j9)
 have x9:=Hp (HMO8.below j9)
 have HR9:=Hp (aF j9 HR8)
 have HM9:=Hp (aF j9 HM8)
 clear j9
 go_wp2_with fail
 have hlr:=(ZL HR9.out)
 have hlm:=(ZL HM9.out)
 refine wp_region_any (by kernel_rfl) ?_
 refine wpAny_inv0 (fun a0 L a W=>∃s:RpSt,RpOk w9 k A c l m s W/\L=s.L/\a=s.a a0.tmps) (by kernel_rfl) ?_ ?_ ?_ (by decide) ⟨⟨false,false,false,false,false,false,false,false,undef,undef,undef,undef,undef,undef⟩,?_,rfl,rfl⟩
 ·rintro L a W ⟨s,_,rfl,_⟩;rfl
 ·rintro i L a W hm ⟨s,hs,rfl,rfl⟩
  have hi:i<8:=by
   obtain⟨_,o,ho,_⟩:=mem_ready.1 hm
   exact(ZL ho)
  refine wpOp_gen fun KK hKK=>?_
  have HK:=Hp hKK
  clear hKK
  match i,hi,hm,HK with
  |0,_,hm,HK=>
   obtain⟨_,z0,z1,z2,z3,_⟩:=aB ((hs.bel.block _ hlr).trans HR9.out)
   refine wpOp_at rfl ?_
   simp only[RpSt.a,GZ7,GZ5,GZ6]
   go_simp
   rw[HK.out];exact⟨_,rps0 hs,rfl,rfl⟩
  |1,_,hm,HK=>
   have q67:=hs.v67 (up_at hm rfl 0 (by kernel_rfl))
   have hT:k.ok W/\aU W A l:=HT9.below hs.bel
   refine wpOp_at rfl ?_
   simp only[RpSt.a,q67,GZ7,GZ5,GZ6]
   go_simp
   go_at_call 49
   (with_reducible refine(copiedRegistry_any k A c l W hT.1 hT.2 HFR.out).mono ?_);rintro e w5 ⟨⟨k',A',l',c',rfl,q1,q2,q3⟩,b9⟩
   rw[HK.out];exact⟨_,rps1 hs ⟨k',A',l',c',rfl,q1,q2,q3⟩ b9,rfl,by simp only[RpSt.a,q67];rfl⟩
  |2,_,hm,HK=>
   obtain⟨_,z0,z1,z2,z3,z4,z5,z6,_⟩:=VH ((hs.bel.block _ hlm).trans HM9.out)
   refine wpOp_at rfl ?_
   simp only[RpSt.a,GZ7,GZ5,GZ6]
   go_simp
   rw[HK.out];exact⟨_,rps2 hs,rfl,rfl⟩
  |3,_,hm,HK=>
   have q69:=hs.v69 (up_at hm rfl 2 (by kernel_rfl))
   refine wpOp_at rfl ?_
   simp only[RpSt.a,q69,GZ7,GZ5,GZ6]
   go_simp
   go_at_call 50
   (with_reducible refine(copiedModule_any m W (x9.out.below hs.bel) HFM.out).mono ?_);rintro e w5 ⟨⟨n,rfl,q1,q2⟩,b9⟩
   rw[HK.out];exact⟨_,rps3 hs ⟨n,rfl,q1,q2⟩ b9,rfl,by simp only[RpSt.a,q69];rfl⟩
  |4,_,hm,HK=>
   have h2:s.l6=false:=by
    cases h3:s.l6 with
    |false=>rfl
    |true=>exact((hs.d6 h3).symm.trans (mem_ready.1 hm).1)
   refine wpOp_at rfl ?_
   simp only[RpSt.a,GZ7,GZ5,GZ6]
   go_simp
   rw[HK.out];exact⟨_,rps4 hs h2,rfl,rfl⟩
  |5,_,hm,HK=>
   have h2:s.l7=false:=by
    cases h3:s.l7 with
    |false=>rfl
    |true=>exact((hs.d7 h3).symm.trans (mem_ready.1 hm).1)
   refine wpOp_at rfl ?_
   simp only[RpSt.a,GZ7,GZ5,GZ6]
   go_simp
   rw[HK.out];exact⟨_,rps5 hs h2,rfl,rfl⟩
  |6,_,hm,HK=>
   obtain⟨b,q7,hle,hz⟩:=hs.a7 (up_at hm rfl 4 (by kernel_rfl)) (mem_ready.1 hm).1
   obtain⟨k',A',l',c',q68,q1,q2,q3⟩:=hs.o68 (up_at hm rfl 1 (by kernel_rfl))
   obtain⟨_,z0,z1,z2,z3,y0,y1,y2,y3⟩:=aB hz
   refine wpOp_at rfl ?_
   simp only[RpSt.a,q7,q68,GZ7,GZ5,GZ6]
   go_simp
   rw[HK.out];exact⟨_,rps6 hs q7 hle hz q1 q2 q3 (up_at hm rfl 4 (by kernel_rfl)),rfl,by simp only[RpSt.a,q7,q68];rfl⟩
  |7,_,hm,HK=>
   obtain⟨b,q8,hle,hz⟩:=hs.a8 (up_at hm rfl 5 (by kernel_rfl)) (mem_ready.1 hm).1
   obtain⟨n,q70,q1,q2⟩:=hs.o70 (up_at hm rfl 3 (by kernel_rfl))
   obtain⟨_,z0,z1,z2,z3,z4,z5,z6,y4,y5,y6⟩:=VH hz
   have y0:=heap_free hz 0
   have y1:=heap_free hz 1
   have y2:=heap_free hz 2
   have y3:=heap_free hz 3
   refine wpOp_at rfl ?_
   simp only[RpSt.a,q8,q70,GZ7,GZ5,GZ6]
   go_simp
   rw[HK.out];exact⟨_,rps7 hs q8 hle hz q1 q2 (up_at hm rfl 5 (by kernel_rfl)),rfl,by simp only[RpSt.a,q8,q70];rfl⟩
  |n+8,hi,_,_=>exact absurd hi (by omega)
 ·rintro L a w10 ⟨s,hs,rfl,rfl⟩ n9
  obtain⟨bI,ki,Ai,li,ci,q7,hleI,hI,kb,lb,oI⟩:=hs.b7 (n9 6 (by decide))
  obtain⟨bN,n,q8,hleN,hN,sm,oN⟩:=hs.b8 (n9 7 (by decide))
  have d5:=hs.bel
  have HB10:=Hp (HB9.trans (d5.mono HB9.size))
  have h5:=Hp (HT9.below d5)
  have o8:=Hp (x9.below d5)
  have v8:=Hp (aF d5 HR9)
  have HM10:=Hp (aF d5 HM9)
  have HI10:=Hp hI
  have HN10:=Hp hN
  have HIT10:=Hp (show dL w10 ki Ai li from UQ.QB (⟨oI,kb,lb⟩:UQ w10 w9.heap.size ki Ai li ci k l) h5.out.1 h5.out.2 rfl)
  have HNO10:=Hp (oN.ok sm o8)
  have v4:=Hp kb
  have v3:=Hp lb
  have v2:=Hp sm
  simp only[RpSt.a,q7,q8,GZ7,GZ5,GZ6]
  generalize s.t67=u67,s.t68=u68,s.t69=u69,s.t70=u70
  clear hs n9 q7 q8 hI hN kb lb oI sm oN d5 hleI hleN hlr hlm s
  obtain⟨F1,hF1⟩:=Nm (planErr k ⟨1,m,⟨#[]⟩⟩ l)
  have HF1:=Hp hF1
  obtain⟨R,hR⟩:=Nm (aZ k l)
  have HRE:=Hp hR
  have f1:=Hp (gH k A c l w10 h5.out.1 h5.out.2)
  rw[<-hR]at f1
  clear hF1 hR
  obtain⟨_,r0,r1,r2,r3,rf0,rf1,rf2,rf3⟩:=aB v8.out
  go_wp2_with fail
  refine(f1.out).mono ?_;rintro e V ⟨rfl,U⟩
  have t8:=Hp (HB10.trans (U.mono HB10.size))
  have HT11:=Hp (h5.below U)
  have HMO11:=Hp (o8.below U)
  have v7:=Hp (aF U v8)
  have y8:=Hp (aF U HM10)
  have z8:=Hp (aF U HI10)
  have x8:=Hp (aF U HN10)
  have HIT11:=Hp (HIT10.below U)
  have HNO11:=Hp (HNO10.below U)
  clear r0 r1 r2 r3 rf0 rf1 rf2 rf3
  clear U f1
  obtain⟨l8,g7⟩:=Nm (V.alloc (.cells #[.int .i64 0,.int .i64 0,.slice none 0 0,.slice none 0 0] 39))
  have T:Below V.heap.size V l8:=g7▸ZB
  have hneRW:=Hp (Nat.ne_of_lt (ZL v7.out))
  have hneMW:=Hp (Nat.ne_of_lt (ZL y8.out))
  have hneIW:=Hp (Nat.ne_of_lt (ZL z8.out))
  have hneNW:=Hp (Nat.ne_of_lt (ZL x8.out))
  have t7:=Hp (t8.trans (T.mono t8.size))
  have j0:=Hp (HT11.below T)
  have h8:=Hp (HMO11.below T)
  have o6:=Hp (aF T v7)
  have o9:=Hp (aF T y8)
  have z7:=Hp (aF T z8)
  have x7:=Hp (aF T x8)
  have p0:=Hp (HIT11.below T)
  have o7:=Hp (HNO11.below T)
  have v5:=Hp (show l8.heap[V.heap.size]? =some (.cells #[.int .i64 0,.int .i64 0,.slice none 0 0,.slice none 0 0] 39 (0,0)) by rw[g7];exact heap_alloc_new V _)
  have HSZ12:=Hp (show l8.heap.size=V.heap.size+1 by rw[g7];simp)
  have hw12':=g7.symm
  clear g7 T
  have HLEW:=Hp t8.size
  go_upto_if 74 with fail
  go_cut [9] from 73 to 80 (fun v wx=>v=.int .i64 F1/\∃(k4:Krn)(A4:Option Addr)(l4:List Plc)(c4:Nat),RpMem w0 w0.heap.size w1.heap.size bI bN V.heap.size k ki k4 A Ai A4 l li l4 c ci c4 m n wx/\(F1=0->k4.bare=k.bare/\aD l4=aD (cmL ⟨1,m,⟨#[]⟩⟩ l)))
  case first=>
   by_cases t:R=0
   ·have HRG:=Hp (HRE.symm.trans t)
    have hE1:kP k ⟨1,m,⟨#[]⟩⟩ l=F1:=by rw[HF1.out];unfold planErr;rw[if_neg (by rw[HRG.out];simp)]
    have g1:=Hp (C8 k A c l m l8 j0.out.1 j0.out.2 h8.out HRG.out)
    rw[hE1]at g1
    subst t
    clear hE1
    obtain⟨_,r0,r1,r2,r3,rf0,rf1,rf2,rf3⟩:=aB o6.out
    obtain⟨n0,n1,n2,n3,n4,n5,n6⟩:=RF o9.out
    go_wp2_with fail
    refine(g1.out).mono ?_;rintro e w13 ⟨⟨k4,A4,l4,c4,rfl,ht,hkb,hlb,-,-,-⟩,S⟩
    have HB13:=Hp (t7.trans (S.mono t7.size))
    have HT13:=Hp (j0.below S)
    have HMO13:=Hp (h8.below S)
    have v6:=Hp (aF S o6)
    have y7:=Hp (aF S o9)
    have y9:=Hp (aF S z7)
    have v9:=Hp (aF S x7)
    have HIT13:=Hp (p0.below S)
    have HNO13:=Hp (o7.below S)
    have a6:=Hp (aF S v5)
    have HG13:=Hp ht
    have HK4:=Hp (And.intro hkb hlb)
    clear r0 r1 r2 r3 rf0 rf1 rf2 rf3
    clear ht hkb hlb S g1 n0 n1 n2 n3 n4 n5 n6
    obtain⟨_,x0,x1,x2,x3,xf0,xf1,xf2,xf3⟩:=aB a6.out
    go_wp2_with fail
    obtain⟨m9,N⟩:=gY a6.out (.int .i64 k4.major) (.int .i64 k4.minor) (.slice k4.eA k4.ex.length k4.eC) (.slice A4 l4.length c4)
    obtain⟨w14,m7⟩:∃W,W=(((w13.setCell ⟨V.heap.size,0,none⟩ (.int .i64 k4.major)).setCell ⟨V.heap.size,1,none⟩ (.int .i64 k4.minor)).setCell ⟨V.heap.size,2,none⟩ (.slice k4.eA k4.ex.length k4.eC)).setCell ⟨V.heap.size,3,none⟩ (.slice A4 l4.length c4):=⟨_,rfl⟩
    rw[<-m7]at m9 N
    rw[<-m7]
    clear m7
    have HB14:=Hp (HB13.trans ((N.below (GY2 (ZL a6))).mono HLEW))
    have HT14:=Hp (HT13.other ⟨_,_,_,_,_,_,_,_,a6.out⟩ N)
    have HMO14:=Hp (Mod.ok.other ⟨_,_,_,_,_,_,_,_,a6.out⟩ N HMO13)
    have HR14:=Hp ((N.block _ (ZL v6) (hneRW.out)).trans v6)
    have HM14:=Hp ((N.block _ (ZL y7) (hneMW.out)).trans y7)
    have HI14:=Hp ((N.block _ (ZL y9) (hneIW.out)).trans y9)
    have HN14:=Hp ((N.block _ (ZL v9) (hneNW.out)).trans v9)
    have HIT14:=Hp (HIT13.other ⟨_,_,_,_,_,_,_,_,a6.out⟩ N)
    have HNO14:=Hp (Mod.ok.other ⟨_,_,_,_,_,_,_,_,a6.out⟩ N HNO13)
    have HW14:=Hp (m9)
    have HG14:=Hp (HG13.other ⟨_,_,_,_,_,_,_,_,a6.out⟩ N)
    clear m9 N
    clear x0 x1 x2 x3 xf0 xf1 xf2 xf3
    have HME:=Hp (show RpMem w0 w0.heap.size w1.heap.size bI bN V.heap.size k ki k4 A Ai A4 l li l4 c ci c4 m n w14/\(F1=0->k4.bare=k.bare/\aD l4=aD (cmL ⟨1,m,⟨#[]⟩⟩ l)) from
     ⟨⟨HB14.out,HR14.out,HM14.out,HI14.out,HN14.out,HW14.out,HT14.out,HIT14.out,HG14.out,HMO14.out,HNO14.out⟩,fun e=>by
      have h4:=HK4.out
      rw[e,wK0,wL0]at h4
      exact h4⟩)
    go_meet
    exact⟨rfl,k4,A4,l4,c4,HME.out⟩
   ·have hFR:F1=R:=by rw[HF1.out,HRE.out];unfold planErr;rw[if_pos (by rw[<-HRE.out];exact t)]
    have t':(R==0)=false:=by simp[t]
    have HME:=Hp (show RpMem w0 w0.heap.size w1.heap.size bI bN V.heap.size k ki Rk A Ai none l li [] c ci 0 m n l8/\(F1=0->Rk.bare=k.bare/\aD []=aD (cmL ⟨1,m,⟨#[]⟩⟩ l)) from
     ⟨⟨t7.out,o6.out,o9.out,z7.out,x7.out,v5.out,j0.out,p0.out,⟨Sg _,⟨Row.nil,Nat.zero_le _,by simp⟩⟩,h8.out,o7.out⟩,fun e=>absurd (hFR.symm.trans e) t⟩)
    have HFR:=Hp hFR
    clear t hFR
    go_wp2_with fail
    go_meet
    exact⟨by rw[HFR.out],Rk,none,[],0,HME.out⟩
  case rest=>
   obtain⟨rfl,k4,A4,l4,c4,hMI,hW4⟩:=hcut
   have HMI:=Hp hMI
   have HW4:=Hp hW4
   clear hMI hW4
   go_wp2_with fail
   go_loopw [11] (fun i wr=>∃j:Nat,j<=2/\i=.int .i64 j/\RpMem w0 w0.heap.size w1.heap.size bI bN V.heap.size k ki k4 A Ai A4 l li l4 c ci c4 m n wr) (fun i _=>2 -(intOf i).toNat)
   case atStart=>exact⟨0,by omega,rfl,HMI.out⟩
   case round=>
    obtain⟨j,hj,rfl,hM⟩:=hrel
    by_cases Y:j<2
    ·have i4:(j:Int)<2:=by omega
     obtain⟨P,rfl⟩:=Nm wr
     have b6:=Hp hM
     have t6:=Hp (GZ4 P.heap.size P)
     have HLT:=Hp Y
     have a9:=Hp hM.it
     have HNO:=Hp hM.no
     clear hM Y hj
     have v1:=Hp (plan_there a9.out.1 a9.out.2 (show(⟨1,n,⟨#[]⟩⟩:Cm).m.ok P from HNO.out))
     have hq1:planErr ki ⟨1,n,⟨#[]⟩⟩ li=F1:=by
      rw[HF1.out]
      exact planErr_like v4.out (by unfold Cm.bare;simp only[iL v2.out]) v3.out
     have f1:=Hp (PInstall_any ki Ai ci li n P b6.it.1 b6.it.2 b6.no)
     rw[hq1]at v1 f1
     clear hq1
     obtain⟨_,r0,r1,r2,r3,_⟩:=aB b6.ib
     obtain⟨n0,n1,n2,n3,n4,n5,n6⟩:=RF b6.nb
     go_wp2_with fail
     refine(f1.out).mono ?_;rintro e j8 ⟨⟨k1,A1,l1,c1,rfl,M⟩,n7⟩
     have HV21:=Hp (b6.below n7)
     have HB21:=Hp (t6.trans (n7.mono t6.size))
     have HP21:=Hp (M.own.le t6.size)
     have HPT21:=Hp (v1.out _ _ _ _ _ _ M).1
     have HS1:=Hp (v1.out _ _ _ _ _ _ M).2
     clear M n7 f1 v1 r0 r1 r2 r3 n0 n1 n2 n3 n4 n5 n6
     obtain⟨u6,g6⟩:=Nm (j8.alloc (.cells #[.int .i64 k1.major,.int .i64 k1.minor,.slice k1.eA k1.ex.length k1.eC,.slice A1 l1.length c1] 39))
     have g9:Below j8.heap.size j8 u6:=g6▸ZB
     have i9:=Hp (HV21.below g9)
     have HB22:=Hp (HB21.trans (g9.mono HB21.size))
     have HP22:=Hp (HP21.below g9)
     have h7:=Hp (HPT21.below g9)
     have s6:=Hp (show u6.heap[j8.heap.size]? =some (.cells #[.int .i64 k1.major,.int .i64 k1.minor,.slice k1.eA k1.ex.length k1.eC,.slice A1 l1.length c1] 39 (0,0)) by rw[g6];exact heap_alloc_new j8 _)
     have HSZ22:=Hp (show u6.heap.size=j8.heap.size+1 by rw[g6];simp)
     have hw22':=g6.symm
     clear g6 g9
     have q1:=Hp (SE F1 k1 k4 A1 A4 c1 c4 l1 l4 u6 h7.out.1 h7.out.2 i9.wt.1 i9.wt.2 (fun e=>by
      obtain⟨g1,g2⟩:=HS1.out.1 e
      obtain⟨g3,g4⟩:=HW4.out e
      exact⟨g1.trans (v4.trans g3.symm),g2.trans ((zV (by unfold Cm.bare;simp only[iL v2.out]) v3.out).trans g4.symm)⟩) (fun e=>HS1.out.2 e))
     obtain⟨_,x0,x1,x2,x3,xf0,xf1,xf2,xf3⟩:=aB s6.out
     obtain⟨_,y0,y1,y2,y3,_⟩:=aB i9.wb
     go_wp2_with fail
     refine(q1.out).mono ?_;rintro e w23 ⟨rfl,d4⟩
     have b5:=Hp (i9.below d4)
     have HB23:=Hp (HB22.trans (d4.mono HB22.size))
     have HP23:=Hp (HP22.below d4)
     have HPT23:=Hp (h7.below d4)
     have HBA23:=Hp (aF d4 s6)
     clear x0 x1 x2 x3 xf0 xf1 xf2 xf3
     clear d4 q1 y0 y1 y2 y3
     have q2:=Hp (Rw ki k Ai A ci c li l w23 b5.it.1 b5.it.2 b5.rt.1 b5.rt.2 v4.out v3.out)
     obtain⟨_,r0,r1,r2,r3,_⟩:=aB b5.ib
     obtain⟨_,y0,y1,y2,y3,_⟩:=aB b5.rb
     go_wp2_with fail
     refine(q2.out).mono ?_;rintro e w24 ⟨rfl,c9⟩
     have h1:=Hp (b5.below c9)
     have HB24:=Hp (HB23.trans (c9.mono HB23.size))
     have HP24:=Hp (HP23.below c9)
     have HPT24:=Hp (HPT23.below c9)
     have HBA24:=Hp (aF c9 HBA23)
     clear c9 q2 r0 r1 r2 r3 y0 y1 y2 y3
     have q3:=Hp (qA n m w24 v2.out h1.no h1.mo)
     obtain⟨n0,n1,n2,n3,n4,n5,n6⟩:=RF h1.nb
     obtain⟨m0,m1,m2,m3,m4,m5,m6⟩:=RF h1.mb
     go_wp2_with fail
     refine(q3.out).mono ?_;rintro e w25 ⟨rfl,c8⟩
     have i8:=Hp (h1.below c8)
     have t5:=Hp (HB24.trans (c8.mono HB24.size))
     have HP25:=Hp (HP24.below c8)
     have HPT25:=Hp (HPT24.below c8)
     have HBA25:=Hp (aF c8 HBA24)
     clear c8 q3 n0 n1 n2 n3 n4 n5 n6 m0 m1 m2 m3 m4 m5 m6
     have HU2:=Hp (plan_there a9.out.1 a9.out.2 (show(⟨2,jB,nm⟩:Cm).m.ok P from IL _))
     have f2:=Hp (PRemove_any ki Ai ci li nm w25 i8.it.1 i8.it.2)
     obtain⟨_,r0,r1,r2,r3,_⟩:=aB i8.ib
     go_wp2_with fail
     refine(f2.out).mono ?_;rintro e j7 ⟨⟨k2,A2,l2,c2,rfl,M⟩,c7⟩
     have HV26:=Hp (i8.below c7)
     have HB26:=Hp (t5.trans (c7.mono t5.size))
     have HP26:=Hp (HP25.below c7)
     have HPT26:=Hp (HPT25.below c7)
     have s5:=Hp (aF c7 HBA25)
     have HD26:=Hp (M.own.le t5.size)
     have HDT26:=Hp (HU2.out _ _ _ _ _ _ M).1
     clear M c7 f2 HU2 r0 r1 r2 r3
     obtain⟨u5,g5⟩:=Nm (j7.alloc (.cells #[.int .i64 k2.major,.int .i64 k2.minor,.slice k2.eA k2.ex.length k2.eC,.slice A2 l2.length c2] 39))
     have a5:Below j7.heap.size j7 u5:=g5▸ZB
     have hneBABB:=Hp (Nat.ne_of_lt (ZL s5.out))
     have d9:=Hp (HV26.below a5)
     have t4:=Hp (HB26.trans (a5.mono HB26.size))
     have HP27:=Hp (HP26.below a5)
     have HPT27:=Hp (HPT26.below a5)
     have HBA27:=Hp (aF a5 s5)
     have HD27:=Hp (HD26.below a5)
     have HDT27:=Hp (HDT26.below a5)
     have HBB27:=Hp (show u5.heap[j7.heap.size]? =some (.cells #[.int .i64 k2.major,.int .i64 k2.minor,.slice k2.eA k2.ex.length k2.eC,.slice A2 l2.length c2] 39 (0,0)) by rw[g5];exact heap_alloc_new j7 _)
     have HSZ27:=Hp (show u5.heap.size=j7.heap.size+1 by rw[g5];simp)
     have hw27':=g5.symm
     clear g5 a5
     have HU3:=Hp (plan_there a9.out.1 a9.out.2 (show(⟨3,n,⟨#[]⟩⟩:Cm).m.ok P from HNO.out))
     have f3:=Hp (PUpgrade_any ki Ai ci li n u5 d9.it.1 d9.it.2 d9.no)
     obtain⟨_,r0,r1,r2,r3,_⟩:=aB d9.ib
     obtain⟨n0,n1,n2,n3,n4,n5,n6⟩:=RF d9.nb
     go_wp2_with fail
     refine(f3.out).mono ?_;rintro e j6 ⟨⟨k3,A3,l3,c3,rfl,M⟩,a4⟩
     have HV28:=Hp (d9.below a4)
     have HB28:=Hp (t4.trans (a4.mono t4.size))
     have HP28:=Hp (HP27.below a4)
     have HPT28:=Hp (HPT27.below a4)
     have s4:=Hp (aF a4 HBA27)
     have HD28:=Hp (HD27.below a4)
     have HDT28:=Hp (HDT27.below a4)
     have r8:=Hp (aF a4 HBB27)
     have HE28:=Hp (M.own.le t4.size)
     have HET28:=Hp (HU3.out _ _ _ _ _ _ M).1
     clear M a4 f3 HU3 r0 r1 r2 r3 n0 n1 n2 n3 n4 n5 n6
     obtain⟨u4,e9⟩:=Nm (j6.alloc (.cells #[.int .i64 k3.major,.int .i64 k3.minor,.slice k3.eA k3.ex.length k3.eC,.slice A3 l3.length c3] 39))
     have Q:Below j6.heap.size j6 u4:=e9▸ZB
     have hneBABC:=Hp (Nat.ne_of_lt (ZL s4.out))
     have hneBBBC:=Hp (Nat.ne_of_lt (ZL r8.out))
     have i7:=Hp (HV28.below Q)
     have t3:=Hp (HB28.trans (Q.mono HB28.size))
     have HP29:=Hp (HP28.below Q)
     have HPT29:=Hp (HPT28.below Q)
     have HBA29:=Hp (aF Q s4)
     have HD29:=Hp (HD28.below Q)
     have HDT29:=Hp (HDT28.below Q)
     have HBB29:=Hp (aF Q r8)
     have HE29:=Hp (HE28.below Q)
     have HET29:=Hp (HET28.below Q)
     have HBC29:=Hp (show u4.heap[j6.heap.size]? =some (.cells #[.int .i64 k3.major,.int .i64 k3.minor,.slice k3.eA k3.ex.length k3.eC,.slice A3 l3.length c3] 39 (0,0)) by rw[e9];exact heap_alloc_new j6 _)
     have HSZ29:=Hp (show u4.heap.size=j6.heap.size+1 by rw[e9];simp)
     have hw29':=e9.symm
     clear e9 Q
     have f4:=Hp (CStep_any ki Ai ci li u4 i7.it.1 i7.it.2)
     obtain⟨_,r0,r1,r2,r3,_⟩:=aB i7.ib
     go_wp2_with fail
     refine(f4.out).mono ?_;rintro e j5 ⟨⟨k5,A5,l5,c5,rfl,M⟩,O⟩
     have HV30:=Hp (i7.below O)
     have HB30:=Hp (t3.trans (O.mono t3.size))
     have HP30:=Hp (HP29.below O)
     have HPT30:=Hp (HPT29.below O)
     have s3:=Hp (aF O HBA29)
     have HD30:=Hp (HD29.below O)
     have HDT30:=Hp (HDT29.below O)
     have r7:=Hp (aF O HBB29)
     have HE30:=Hp (HE29.below O)
     have HET30:=Hp (HET29.below O)
     have q9:=Hp (aF O HBC29)
     have HG30:=Hp (M.own.le t3.size)
     have HGT30:=Hp (there_of a9.out.1 a9.out.2 _ _ _ _ _ _ _ step_maps M).1
     clear M O f4 r0 r1 r2 r3
     obtain⟨u3,e8⟩:=Nm (j5.alloc (.cells #[.int .i64 k5.major,.int .i64 k5.minor,.slice k5.eA k5.ex.length k5.eC,.slice A5 l5.length c5] 39))
     have J:Below j5.heap.size j5 u3:=e8▸ZB
     have hneBABD:=Hp (Nat.ne_of_lt (ZL s3.out))
     have hneBBBD:=Hp (Nat.ne_of_lt (ZL r7.out))
     have hneBCBD:=Hp (Nat.ne_of_lt (ZL q9.out))
     have i6:=Hp (HV30.below J)
     have t2:=Hp (HB30.trans (J.mono HB30.size))
     have HP31:=Hp (HP30.below J)
     have HPT31:=Hp (HPT30.below J)
     have HBA31:=Hp (aF J s3)
     have HD31:=Hp (HD30.below J)
     have HDT31:=Hp (HDT30.below J)
     have HBB31:=Hp (aF J r7)
     have HE31:=Hp (HE30.below J)
     have HET31:=Hp (HET30.below J)
     have HBC31:=Hp (aF J q9)
     have HG31:=Hp (HG30.below J)
     have HGT31:=Hp (HGT30.below J)
     have HBD31:=Hp (show u3.heap[j5.heap.size]? =some (.cells #[.int .i64 k5.major,.int .i64 k5.minor,.slice k5.eA k5.ex.length k5.eC,.slice A5 l5.length c5] 39 (0,0)) by rw[e8];exact heap_alloc_new j5 _)
     have HSZ31:=Hp (show u3.heap.size=j5.heap.size+1 by rw[e8];simp)
     have hw31':=e8.symm
     clear e8 J
     have f5:=Hp (CPack_any ki Ai ci li u3 i6.it.1 i6.it.2)
     obtain⟨_,r0,r1,r2,r3,_⟩:=aB i6.ib
     go_wp2_with fail
     refine(f5.out).mono ?_;rintro e j4 ⟨⟨np,k6,A6,l6,c6,rfl,-,M⟩,I⟩
     have HV32:=Hp (i6.below I)
     have HB32:=Hp (t2.trans (I.mono t2.size))
     have HP32:=Hp (HP31.below I)
     have HPT32:=Hp (HPT31.below I)
     have s2:=Hp (aF I HBA31)
     have HD32:=Hp (HD31.below I)
     have HDT32:=Hp (HDT31.below I)
     have r6:=Hp (aF I HBB31)
     have HE32:=Hp (HE31.below I)
     have HET32:=Hp (HET31.below I)
     have q6:=Hp (aF I HBC31)
     have HG32:=Hp (HG31.below I)
     have HGT32:=Hp (HGT31.below I)
     have p8:=Hp (aF I HBD31)
     have HJ32:=Hp (M.own.le t2.size)
     have HJT32:=Hp (there_of a9.out.1 a9.out.2 _ _ _ _ _ _ _ Uj M).1
     clear M I f5 r0 r1 r2 r3
     obtain⟨u1,e7⟩:=Nm (j4.alloc (.cells #[.int .i64 k6.major,.int .i64 k6.minor,.slice k6.eA k6.ex.length k6.eC,.slice A6 l6.length c6] 39))
     have H:Below j4.heap.size j4 u1:=e7▸ZB
     have hneBABE:=Hp (Nat.ne_of_lt (ZL s2.out))
     have hneBBBE:=Hp (Nat.ne_of_lt (ZL r6.out))
     have hneBCBE:=Hp (Nat.ne_of_lt (ZL q6.out))
     have hneBDBE:=Hp (Nat.ne_of_lt (ZL p8.out))
     have i5:=Hp (HV32.below H)
     have t1:=Hp (HB32.trans (H.mono HB32.size))
     have HP33:=Hp (HP32.below H)
     have HPT33:=Hp (HPT32.below H)
     have HBA33:=Hp (aF H s2)
     have HD33:=Hp (HD32.below H)
     have HDT33:=Hp (HDT32.below H)
     have HBB33:=Hp (aF H r6)
     have HE33:=Hp (HE32.below H)
     have HET33:=Hp (HET32.below H)
     have HBC33:=Hp (aF H q6)
     have HG33:=Hp (HG32.below H)
     have HGT33:=Hp (HGT32.below H)
     have HBD33:=Hp (aF H p8)
     have HJ33:=Hp (HJ32.below H)
     have HJT33:=Hp (HJT32.below H)
     have HBE33:=Hp (show u1.heap[j4.heap.size]? =some (.cells #[.int .i64 k6.major,.int .i64 k6.minor,.slice k6.eA k6.ex.length k6.eC,.slice A6 l6.length c6] 39 (0,0)) by rw[e7];exact heap_alloc_new j4 _)
     have HSZ33:=Hp (show u1.heap.size=j4.heap.size+1 by rw[e7];simp)
     have hw33':=e7.symm
     clear e7 H
     have f6:=Hp (Dp ki Ai ci li nm u1 i5.it.1 i5.it.2)
     obtain⟨_,r0,r1,r2,r3,_⟩:=aB i5.ib
     go_wp2_with fail
     refine(f6.out).mono ?_;rintro e j3 ⟨⟨X,rfl,hfi⟩,G⟩
     have HV34:=Hp (i5.below G)
     have HB34:=Hp (t1.trans (G.mono t1.size))
     have HP34:=Hp (HP33.below G)
     have HPT34:=Hp (HPT33.below G)
     have s0:=Hp (aF G HBA33)
     have HD34:=Hp (HD33.below G)
     have HDT34:=Hp (HDT33.below G)
     have r5:=Hp (aF G HBB33)
     have HE34:=Hp (HE33.below G)
     have HET34:=Hp (HET33.below G)
     have q0:=Hp (aF G HBC33)
     have HG34:=Hp (HG33.below G)
     have HGT34:=Hp (HGT33.below G)
     have p7:=Hp (aF G HBD33)
     have HJ34:=Hp (HJ33.below G)
     have HJT34:=Hp (HJT33.below G)
     have p5:=Hp (aF G HBE33)
     have HX34:=Hp (hfi.own_.le t1.size)
     have HXL:=Hp (mod_lens hfi.2.2)
     clear hfi G f6 r0 r1 r2 r3
     obtain⟨u0,e6⟩:=Nm (j3.alloc (.cells #[.string X.m.name,.int .i64 X.m.major,.int .i64 X.m.minor,.string X.m.text,.slice X.m.eA X.m.ex.length X.m.eC,.slice X.m.iA X.m.im.length X.m.iC,.slice X.m.pA X.m.pa.length X.m.pC,.int .i64 X.first] 83))
     have F:Below j3.heap.size j3 u0:=e6▸ZB
     have hneBABX:=Hp (Nat.ne_of_lt (ZL s0.out))
     have hneBBBX:=Hp (Nat.ne_of_lt (ZL r5.out))
     have hneBCBX:=Hp (Nat.ne_of_lt (ZL q0.out))
     have hneBDBX:=Hp (Nat.ne_of_lt (ZL p7.out))
     have hneBEBX:=Hp (Nat.ne_of_lt (ZL p5.out))
     have o5:=Hp (HV34.below F)
     have HB35:=Hp (HB34.trans (F.mono HB34.size))
     have HP35:=Hp (HP34.below F)
     have HPT35:=Hp (HPT34.below F)
     have HBA35:=Hp (aF F s0)
     have HD35:=Hp (HD34.below F)
     have HDT35:=Hp (HDT34.below F)
     have HBB35:=Hp (aF F r5)
     have HE35:=Hp (HE34.below F)
     have HET35:=Hp (HET34.below F)
     have HBC35:=Hp (aF F q0)
     have HG35:=Hp (HG34.below F)
     have HGT35:=Hp (HGT34.below F)
     have HBD35:=Hp (aF F p7)
     have HJ35:=Hp (HJ34.below F)
     have HJT35:=Hp (HJT34.below F)
     have HBE35:=Hp (aF F p5)
     have HX35:=Hp (HX34.below F)
     have HBX35:=Hp (show u0.heap[j3.heap.size]? =some (.cells #[.string X.m.name,.int .i64 X.m.major,.int .i64 X.m.minor,.string X.m.text,.slice X.m.eA X.m.ex.length X.m.eC,.slice X.m.iA X.m.im.length X.m.iC,.slice X.m.pA X.m.pa.length X.m.pC,.int .i64 X.first] 83 (0,0)) by rw[e6];exact heap_alloc_new j3 _)
     have HSZ35:=Hp (show u0.heap.size=j3.heap.size+1 by rw[e6];simp)
     have hw35':=e6.symm
     clear e6 F
     have f7:=Encode_any n u0 o5.no
     obtain⟨bs,hbs,hbl⟩:∃bs:List UInt8,(if aL n≠0 then⟨#[]⟩else⟨(dK n).toArray⟩:ByteArray)=sof bs/\bs.length<=big:=by
      by_cases t:aL n=0
      ·exact⟨dK n,by rw[if_neg (by omega)],GY1 (enc_small t) (by unfold big;omega)⟩
      ·exact⟨[],by rw[if_pos t],Nat.zero_le _⟩
     rw[hbs]at f7
     have F7:=Hp f7
     have HBS:=Hp hbl
     clear hbs hbl f7
     obtain⟨n0,n1,n2,n3,n4,n5,n6⟩:=RF o5.nb
     go_wp2_with fail
     refine(F7.out).mono ?_;rintro e w36 ⟨rfl,E⟩
     have HV36:=Hp (o5.below E)
     have t0:=Hp (HB35.trans (E.mono HB35.size))
     have HP36:=Hp (HP35.below E)
     have HPT36:=Hp (HPT35.below E)
     have HBA36:=Hp (aF E HBA35)
     have HD36:=Hp (HD35.below E)
     have HDT36:=Hp (HDT35.below E)
     have HBB36:=Hp (aF E HBB35)
     have HE36:=Hp (HE35.below E)
     have HET36:=Hp (HET35.below E)
     have HBC36:=Hp (aF E HBC35)
     have HG36:=Hp (HG35.below E)
     have HGT36:=Hp (HGT35.below E)
     have HBD36:=Hp (aF E HBD35)
     have HJ36:=Hp (HJ35.below E)
     have HJT36:=Hp (HJT35.below E)
     have HBE36:=Hp (aF E HBE35)
     have HX36:=Hp (HX35.below E)
     have HBX36:=Hp (aF E HBX35)
     clear E F7 n0 n1 n2 n3 n4 n5 n6
     have f8:=Hp (Ig bs w36 HBS.out)
     go_wp2_with fail
     refine(f8.out).mono ?_;rintro e j2 ⟨⟨y,rfl,hyk,hyo,-⟩,D⟩
     have HV37:=Hp (HV36.below D)
     have HB37:=Hp (t0.trans (D.mono t0.size))
     have HP37:=Hp (HP36.below D)
     have HPT37:=Hp (HPT36.below D)
     have r9:=Hp (aF D HBA36)
     have HD37:=Hp (HD36.below D)
     have HDT37:=Hp (HDT36.below D)
     have r4:=Hp (aF D HBB36)
     have HE37:=Hp (HE36.below D)
     have HET37:=Hp (HET36.below D)
     have p9:=Hp (aF D HBC36)
     have HG37:=Hp (HG36.below D)
     have HGT37:=Hp (HGT36.below D)
     have p6:=Hp (aF D HBD36)
     have HJ37:=Hp (HJ36.below D)
     have HJT37:=Hp (HJT36.below D)
     have p4:=Hp (aF D HBE36)
     have HX37:=Hp (HX36.below D)
     have p3:=Hp (aF D HBX36)
     have HY37:=Hp (hyo.le t0.size)
     have HYL:=Hp (mod_lens hyk)
     clear hyk hyo D f8
     obtain⟨t9,e5⟩:=Nm (j2.alloc (.cells #[.string y.name,.int .i64 y.major,.int .i64 y.minor,.string y.text,.slice y.eA y.ex.length y.eC,.slice y.iA y.im.length y.iC,.slice y.pA y.pa.length y.pC] 70))
     have C:Below j2.heap.size j2 t9:=e5▸ZB
     have hneBABY:=Hp (Nat.ne_of_lt (ZL r9.out))
     have hneBBBY:=Hp (Nat.ne_of_lt (ZL r4.out))
     have hneBCBY:=Hp (Nat.ne_of_lt (ZL p9.out))
     have hneBDBY:=Hp (Nat.ne_of_lt (ZL p6.out))
     have hneBEBY:=Hp (Nat.ne_of_lt (ZL p4.out))
     have hneBXBY:=Hp (Nat.ne_of_lt (ZL p3.out))
     have d8:=Hp (HV37.below C)
     have s9:=Hp (HB37.trans (C.mono HB37.size))
     have HP38:=Hp (HP37.below C)
     have HPT38:=Hp (HPT37.below C)
     have HBA38:=Hp (aF C r9)
     have HD38:=Hp (HD37.below C)
     have HDT38:=Hp (HDT37.below C)
     have HBB38:=Hp (aF C r4)
     have HE38:=Hp (HE37.below C)
     have HET38:=Hp (HET37.below C)
     have HBC38:=Hp (aF C p9)
     have HG38:=Hp (HG37.below C)
     have HGT38:=Hp (HGT37.below C)
     have HBD38:=Hp (aF C p6)
     have HJ38:=Hp (HJ37.below C)
     have HJT38:=Hp (HJT37.below C)
     have HBE38:=Hp (aF C p4)
     have HX38:=Hp (HX37.below C)
     have HBX38:=Hp (aF C p3)
     have HY38:=Hp (HY37.below C)
     have HBY38:=Hp (show t9.heap[j2.heap.size]? =some (.cells #[.string y.name,.int .i64 y.major,.int .i64 y.minor,.string y.text,.slice y.eA y.ex.length y.eC,.slice y.iA y.im.length y.iC,.slice y.pA y.pa.length y.pC] 70 (0,0)) by rw[e5];exact heap_alloc_new j2 _)
     have HSZ38:=Hp (show t9.heap.size=j2.heap.size+1 by rw[e5];simp)
     have hw38':=e5.symm
     clear e5 C
     have f9:=AllO_any ki Ai ci li n t9 d8.it.1 d8.it.2 d8.no
     have u7:=GY1 (all_len (k:=ki) (l:=li) (m:=n)) (mod_lens HNO.out).2.1
     generalize allOf ki li n=Z at f9 u7
     obtain⟨zl,ze⟩:=Z
     simp only at f9 u7
     have F9:=Hp f9
     have HZL:=Hp u7
     clear f9 u7
     obtain⟨_,r0,r1,r2,r3,_⟩:=aB d8.ib
     obtain⟨n0,n1,n2,n3,n4,n5,n6⟩:=RF d8.nb
     go_wp2_with fail
     refine(F9.out).mono ?_;rintro e w39 ⟨⟨zA,zc,rfl,hz⟩,B⟩
     have o4:=Hp (d8.below B)
     have s8:=Hp (s9.trans (B.mono s9.size))
     have HP39:=Hp (HP38.below B)
     have HPT39:=Hp (HPT38.below B)
     have HBA39:=Hp (aF B HBA38)
     have HD39:=Hp (HD38.below B)
     have HDT39:=Hp (HDT38.below B)
     have HBB39:=Hp (aF B HBB38)
     have HE39:=Hp (HE38.below B)
     have HET39:=Hp (HET38.below B)
     have HBC39:=Hp (aF B HBC38)
     have HG39:=Hp (HG38.below B)
     have HGT39:=Hp (HGT38.below B)
     have HBD39:=Hp (aF B HBD38)
     have HJ39:=Hp (HJ38.below B)
     have HJT39:=Hp (HJT38.below B)
     have HBE39:=Hp (aF B HBE38)
     have HX39:=Hp (HX38.below B)
     have HBX39:=Hp (aF B HBX38)
     have HY39:=Hp (HY38.below B)
     have HBY39:=Hp (aF B HBY38)
     have HZ39:=Hp (i_spoil hz s9.size)
     clear hz B F9 r0 r1 r2 r3 n0 n1 n2 n3 n4 n5 n6
     have v0:=Order_any Ai ci li w39 o4.it.2
     have hgl:=GY1 (orderT_len li) a9.out.2.len
     generalize orderT li=ss at v0 hgl
     generalize orderErr li=oe at v0
     have F10:=Hp v0
     have HGL:=Hp hgl
     clear v0 hgl
     obtain⟨_,r0,r1,r2,r3,_⟩:=aB o4.ib
     go_wp2_with fail
     refine(F10.out).mono ?_;rintro e w40 ⟨⟨gv,rfl,hg⟩,z⟩
     have o3:=Hp (o4.below z)
     have s7:=Hp (s8.trans (z.mono s8.size))
     have HP40:=Hp (HP39.below z)
     have HPT40:=Hp (HPT39.below z)
     have HBA40:=Hp (aF z HBA39)
     have HD40:=Hp (HD39.below z)
     have HDT40:=Hp (HDT39.below z)
     have HBB40:=Hp (aF z HBB39)
     have HE40:=Hp (HE39.below z)
     have HET40:=Hp (HET39.below z)
     have HBC40:=Hp (aF z HBC39)
     have HG40:=Hp (HG39.below z)
     have HGT40:=Hp (HGT39.below z)
     have HBD40:=Hp (aF z HBD39)
     have HJ40:=Hp (HJ39.below z)
     have HJT40:=Hp (HJT39.below z)
     have HBE40:=Hp (aF z HBE39)
     have HX40:=Hp (HX39.below z)
     have HBX40:=Hp (aF z HBX39)
     have HY40:=Hp (HY39.below z)
     have HBY40:=Hp (aF z HBY39)
     have HZ40:=Hp (HZ39.below z)
     obtain⟨gA,gc,rfl,hgs⟩:=tr_spoil hg s8.size
     have HQ40:=Hp hgs
     clear hg hgs z F10 r0 r1 r2 r3
     have u9:=FreeO_any Ai ci li w40 o3.it.2
     have hfl:=GY1 (free_len (l:=li)) (Nat.succ_le_succ a9.out.2.len)
     generalize freeOf li=rl at u9 hfl
     generalize RY li=fe at u9
     have F11:=Hp u9
     have HFL:=Hp hfl
     clear u9 hfl
     obtain⟨_,r0,r1,r2,r3,_⟩:=aB o3.ib
     go_wp2_with fail
     refine(F11.out).mono ?_;rintro e w41 ⟨⟨hA',hc',rfl,hh⟩,x⟩
     have b4:=Hp (o3.below x)
     have HB41:=Hp (s7.trans (x.mono s7.size))
     have HP41:=Hp (HP40.below x)
     have HPT41:=Hp (HPT40.below x)
     have HBA41:=Hp (aF x HBA40)
     have HD41:=Hp (HD40.below x)
     have HDT41:=Hp (HDT40.below x)
     have HBB41:=Hp (aF x HBB40)
     have HE41:=Hp (HE40.below x)
     have HET41:=Hp (HET40.below x)
     have HBC41:=Hp (aF x HBC40)
     have HG41:=Hp (HG40.below x)
     have HGT41:=Hp (HGT40.below x)
     have HBD41:=Hp (aF x HBD40)
     have HJ41:=Hp (HJ40.below x)
     have HJT41:=Hp (HJT40.below x)
     have HBE41:=Hp (aF x HBE40)
     have HX41:=Hp (HX40.below x)
     have HBX41:=Hp (aF x HBX40)
     have HY41:=Hp (HY40.below x)
     have HBY41:=Hp (aF x HBY40)
     have HZ41:=Hp (HZ40.below x)
     have HQ41:=Hp (HQ40.below x)
     have HH41:=Hp (ru_spoil hh s7.size)
     clear hh x F11 r0 r1 r2 r3
     have q4:=Hp (Rw ki k Ai A ci c li l w41 b4.it.1 b4.it.2 b4.rt.1 b4.rt.2 v4.out v3.out)
     obtain⟨_,r0,r1,r2,r3,_⟩:=aB b4.ib
     obtain⟨_,y0,y1,y2,y3,_⟩:=aB b4.rb
     go_wp2_with fail
     refine(q4.out).mono ?_;rintro e w42 ⟨rfl,r⟩
     have h0:=Hp (b4.below r)
     have HB42:=Hp (HB41.trans (r.mono HB41.size))
     have HP42:=Hp (HP41.below r)
     have HPT42:=Hp (HPT41.below r)
     have HBA42:=Hp (aF r HBA41)
     have HD42:=Hp (HD41.below r)
     have HDT42:=Hp (HDT41.below r)
     have HBB42:=Hp (aF r HBB41)
     have HE42:=Hp (HE41.below r)
     have HET42:=Hp (HET41.below r)
     have HBC42:=Hp (aF r HBC41)
     have HG42:=Hp (HG41.below r)
     have HGT42:=Hp (HGT41.below r)
     have HBD42:=Hp (aF r HBD41)
     have HJ42:=Hp (HJ41.below r)
     have HJT42:=Hp (HJT41.below r)
     have HBE42:=Hp (aF r HBE41)
     have HX42:=Hp (HX41.below r)
     have HBX42:=Hp (aF r HBX41)
     have HY42:=Hp (HY41.below r)
     have HBY42:=Hp (aF r HBY41)
     have HZ42:=Hp (HZ41.below r)
     have HQ42:=Hp (HQ41.below r)
     have HH42:=Hp (HH41.below r)
     clear r q4 r0 r1 r2 r3 y0 y1 y2 y3
     have q5:=Hp (qA n m w42 v2.out h0.no h0.mo)
     obtain⟨n0,n1,n2,n3,n4,n5,n6⟩:=RF h0.nb
     obtain⟨m0,m1,m2,m3,m4,m5,m6⟩:=RF h0.mb
     go_wp2_with fail
     refine(q5.out).mono ?_;rintro e h6 ⟨rfl,g⟩
     have HV43:=Hp (h0.below g)
     have z9:=Hp (HB42.trans (g.mono HB42.size))
     have HP43:=Hp (HP42.below g)
     have HPT43:=Hp (HPT42.below g)
     have i3:=Hp (aF g HBA42)
     have HD43:=Hp (HD42.below g)
     have HDT43:=Hp (HDT42.below g)
     have i2:=Hp (aF g HBB42)
     have HE43:=Hp (HE42.below g)
     have HET43:=Hp (HET42.below g)
     have i1:=Hp (aF g HBC42)
     have HG43:=Hp (HG42.below g)
     have HGT43:=Hp (HGT42.below g)
     have i0:=Hp (aF g HBD42)
     have HJ43:=Hp (HJ42.below g)
     have HJT43:=Hp (HJT42.below g)
     have h9:=Hp (aF g HBE42)
     have HX43:=Hp (HX42.below g)
     have p2:=Hp (aF g HBX42)
     have HY43:=Hp (HY42.below g)
     have p1:=Hp (aF g HBY42)
     have HZ43:=Hp (HZ42.below g)
     have HQ43:=Hp (HQ42.below g)
     have HH43:=Hp (HH42.below g)
     clear g q5 n0 n1 n2 n3 n4 n5 n6 m0 m1 m2 m3 m4 m5 m6
     obtain⟨_,a0,a1,a2,a3,_⟩:=aB i3.out
     obtain⟨_,b0,b1,b2,b3,_⟩:=aB i2.out
     obtain⟨_,d0,d1,d2,d3,_⟩:=aB i1.out
     obtain⟨_,e0,e1,e2,e3,_⟩:=aB i0.out
     obtain⟨_,g0,g1,g2,g3,_⟩:=aB h9.out
     obtain⟨K,e4⟩:=Nm (h6.alloc (.cells #[.int .i64 k1.major,.int .i64 k1.minor,.slice k1.eA k1.ex.length k1.eC,.slice A1 l1.length c1,.int .i64 k2.major,.int .i64 k2.minor,.slice k2.eA k2.ex.length k2.eC,.slice A2 l2.length c2,.int .i64 k3.major,.int .i64 k3.minor,.slice k3.eA k3.ex.length k3.eC,.slice A3 l3.length c3,.int .i64 k5.major,.int .i64 k5.minor,.slice k5.eA k5.ex.length k5.eC,.slice A5 l5.length c5,.int .i64 k6.major,.int .i64 k6.minor,.slice k6.eA k6.ex.length k6.eC,.slice A6 l6.length c6] 39))
     have f:Below h6.heap.size h6 K:=e4▸ZB
     have hneBAAL:=Hp (Nat.ne_of_lt (ZL i3.out))
     have hneBBAL:=Hp (Nat.ne_of_lt (ZL i2.out))
     have hneBCAL:=Hp (Nat.ne_of_lt (ZL i1.out))
     have hneBDAL:=Hp (Nat.ne_of_lt (ZL i0.out))
     have hneBEAL:=Hp (Nat.ne_of_lt (ZL h9.out))
     have hneBXAL:=Hp (Nat.ne_of_lt (ZL p2.out))
     have hneBYAL:=Hp (Nat.ne_of_lt (ZL p1.out))
     have HV44:=Hp (HV43.below f)
     have j1:=Hp (z9.trans (f.mono z9.size))
     have HP44:=Hp (HP43.below f)
     have HPT44:=Hp (HPT43.below f)
     have HBA44:=Hp (aF f i3)
     have HD44:=Hp (HD43.below f)
     have HDT44:=Hp (HDT43.below f)
     have HBB44:=Hp (aF f i2)
     have HE44:=Hp (HE43.below f)
     have HET44:=Hp (HET43.below f)
     have HBC44:=Hp (aF f i1)
     have HG44:=Hp (HG43.below f)
     have HGT44:=Hp (HGT43.below f)
     have HBD44:=Hp (aF f i0)
     have HJ44:=Hp (HJ43.below f)
     have HJT44:=Hp (HJT43.below f)
     have HBE44:=Hp (aF f h9)
     have o2:=Hp (HX43.below f)
     have HBX44:=Hp (aF f p2)
     have o1:=Hp (HY43.below f)
     have HBY44:=Hp (aF f p1)
     have HZ44:=Hp (HZ43.below f)
     have HQ44:=Hp (HQ43.below f)
     have HH44:=Hp (HH43.below f)
     have d:=Hp (show K.heap[h6.heap.size]? =some (.cells #[.int .i64 k1.major,.int .i64 k1.minor,.slice k1.eA k1.ex.length k1.eC,.slice A1 l1.length c1,.int .i64 k2.major,.int .i64 k2.minor,.slice k2.eA k2.ex.length k2.eC,.slice A2 l2.length c2,.int .i64 k3.major,.int .i64 k3.minor,.slice k3.eA k3.ex.length k3.eC,.slice A3 l3.length c3,.int .i64 k5.major,.int .i64 k5.minor,.slice k5.eA k5.ex.length k5.eC,.slice A5 l5.length c5,.int .i64 k6.major,.int .i64 k6.minor,.slice k6.eA k6.ex.length k6.eC,.slice A6 l6.length c6] 39 (0,0)) by rw[e4];exact heap_alloc_new h6 _)
     have HSZ44:=Hp (show K.heap.size=h6.heap.size+1 by rw[e4];simp)
     have hw44':=e4.symm
     clear e4 f
     have HS0:=Hp (SpX.refl (W:=K) (Sp.refl P.heap.size K))
     have HRA:=Hp (show RgAt P.heap.size K h6.heap.size 5 from⟨fun q hq=>by
      match q,hq with
      |0,_=>exact⟨k1,A1,l1,c1,⟨heap_cell d.out 0,heap_cell d.out 1,heap_cell d.out 2,heap_cell d.out 3⟩,HP44.out,HPT44.out⟩
      |1,_=>exact⟨k2,A2,l2,c2,⟨heap_cell d.out 4,heap_cell d.out 5,heap_cell d.out 6,heap_cell d.out 7⟩,HD44.out,HDT44.out⟩
      |2,_=>exact⟨k3,A3,l3,c3,⟨heap_cell d.out 8,heap_cell d.out 9,heap_cell d.out 10,heap_cell d.out 11⟩,HE44.out,HET44.out⟩
      |3,_=>exact⟨k5,A5,l5,c5,⟨heap_cell d.out 12,heap_cell d.out 13,heap_cell d.out 14,heap_cell d.out 15⟩,HG44.out,HGT44.out⟩
      |4,_=>exact⟨k6,A6,l6,c6,⟨heap_cell d.out 16,heap_cell d.out 17,heap_cell d.out 18,heap_cell d.out 19⟩,HJ44.out,HJT44.out⟩⟩)
     go_wp2_with fail
     clear a0 a1 a2 a3 b0 b1 b2 b3 d0 d1 d2 d3 e0 e1 e2 e3 g0 g1 g2 g3
     go_loopw [37] (fun i w2=>∃q:Nat,q<=5/\i=.int .i64 q/\SpX P.heap.size K K w2) (fun i _=>5 -(intOf i).toNat)
     case atStart=>exact⟨0,by omega,rfl,HS0.out⟩
     case round=>
      obtain⟨q,hq,rfl,hS⟩:=hrel
      have HS:=Hp hS
      by_cases Y:q<5
      ·have i4:(q:Int)<5:=by omega
       obtain⟨kq,Aq,lq,cq,aq,dq,⟨g0,g1,g2,g3⟩,ho,hl1,hl2,hl3⟩:=HRA.now hS.sp Y
       have cS:=Hp (show Calls Tryz.prog 34 #[.agg #[.int .i64 aq,.int .i64 dq,.slice kq.eA kq.ex.length kq.eC,.slice Aq lq.length cq]] wr fun e w'=>(∃u,e=.returned u)/\SpX P.heap.size K wr w' from
        spoilRegistry_any ⟨aq,dq,kq.ex,kq.eA,kq.eC⟩ Aq lq cq K P.heap.size ⟨ho.ex,ho.mods⟩ wr hS.sp j1.size hl1 hl2 hl3)
       clear hS ho hl1 hl2 hl3
       go_wp2_with fail
       refine(cS.out).mono ?_;rintro e wE ⟨⟨u,rfl⟩,o0⟩
       have HN:=Hp (HS.trans o0)
       clear o0 g0 g1 g2 g3
       go_wp2_with fail
       go_roundw
       case rel=>exact⟨q+1,Y,by go_num,HN.out⟩
       case measure=>(simp[intOf];try omega)
      ·obtain⟨nm1,mj1,mn1,tx1,x0,x1,x2,x3,x4,x5,x6⟩:=md_spoilt hS.sp HBX44.out
       have cX:=Hp (show Calls Tryz.prog 60 #[.agg #[.string nm1,.int .i64 mj1,.int .i64 mn1,.string tx1,.slice X.m.eA X.m.ex.length X.m.eC,.slice X.m.iA X.m.im.length X.m.iC,.slice X.m.pA X.m.pa.length X.m.pC]] wr fun e w'=>(∃u,e=.returned u)/\SpX P.heap.size K wr w' from
        spoilModule_any ⟨nm1,mj1,mn1,tx1,X.m.ex,X.m.im,X.m.pa,X.m.eA,X.m.eC,X.m.iA,X.m.iC,X.m.pA,X.m.pC⟩ K P.heap.size ⟨o2.ex,o2.im,o2.pa⟩ wr hS.sp j1.size HXL.out.1 HXL.out.2.1 HXL.out.2.2)
       clear hS
       go_wp2_with fail
       refine(cX.out).mono ?_;rintro e wX ⟨⟨u,rfl⟩,o0⟩
       have HS2:=Hp (HS.trans o0)
       obtain⟨nm2,mj2,mn2,tx2,y0,y1,y2,y3,y4,y5,y6⟩:=md_spoilt HS2.sp HBY44.out
       have cY:=Hp (show Calls Tryz.prog 60 #[.agg #[.string nm2,.int .i64 mj2,.int .i64 mn2,.string tx2,.slice y.eA y.ex.length y.eC,.slice y.iA y.im.length y.iC,.slice y.pA y.pa.length y.pC]] wX fun e w'=>(∃u,e=.returned u)/\SpX P.heap.size K wX w' from
        spoilModule_any ⟨nm2,mj2,mn2,tx2,y.ex,y.im,y.pa,y.eA,y.eC,y.iA,y.iC,y.pA,y.pC⟩ K P.heap.size ⟨o1.ex,o1.im,o1.pa⟩ wX HS2.sp j1.size HYL.out.1 HYL.out.2.1 HYL.out.2.2)
       clear o0 cX x0 x1 x2 x3 x4 x5 x6
       go_wp2_with fail
       refine(cY.out).mono ?_;rintro e wY ⟨⟨u2,rfl⟩,hS3⟩
       have HS3:=Hp (HS2.trans hS3)
       clear hS3 cY y0 y1 y2 y3 y4 y5 y6
       go_wp2_with fail
       go_loopw [38] (fun i w2=>∃p:Nat,p<=zl.length/\i=.int .i64 p/\SpX P.heap.size K K w2) (fun i _=>zl.length -(intOf i).toNat)
       case atStart=>exact⟨0,by omega,rfl,HS3.out⟩
       case round=>
        obtain⟨p,hp,rfl,hT⟩:=hrel
        have HT:=Hp hT
        have g8:=HZL.out
        unfold big at g8
        by_cases Y:p<zl.length
        ·have i4:(p:Int)<zl.length:=by omega
         obtain⟨g1,s1,hA,c0,f0,hb,hg⟩:=HZ44.now hT.sp Y
         subst hA
         simp only[Nat.mul_one,Nat.add_zero]at c0 f0
         have HN:=Hp (hT.store c0 (Alk.int .i64 s1 (-7)) hb hg)
         clear hT hb hg
         go_wp2_with fail
         go_roundw
         case rel=>exact⟨p+1,Y,by go_num,HN.out⟩
         case measure=>(simp[intOf];try omega)
        ·clear hT g8
         go_wp2_with fail
         go_loopw [39] (fun i w2=>∃p:Nat,p<=ss.length/\i=.int .i64 p/\SpX P.heap.size K K w2) (fun i _=>ss.length -(intOf i).toNat)
         case atStart=>exact⟨0,by omega,rfl,HT.out⟩
         case round=>
          obtain⟨p,hp,rfl,hT⟩:=hrel
          have HT:=Hp hT
          have g8:=HGL.out
          unfold big at g8
          by_cases Y:p<ss.length
          ·have i4:(p:Int)<ss.length:=by omega
           obtain⟨g1,s1,hA,c0,f0,hb,hg⟩:=HQ44.now hT.sp Y
           subst hA
           simp only[Nat.mul_one,Nat.add_zero]at c0 f0
           have HN:=Hp (hT.store c0 (Alk.str s1 ⟨#[63]⟩) hb hg)
           clear hT hb hg
           go_wp2_with fail
           go_roundw
           case rel=>exact⟨p+1,Y,by go_num,HN.out⟩
           case measure=>(simp[intOf];try omega)
          ·clear hT g8
           go_wp2_with fail
           go_loopw [40] (fun i w2=>∃p:Nat,p<=rl.length/\i=.int .i64 p/\SpX P.heap.size K K w2) (fun i _=>rl.length -(intOf i).toNat)
           case atStart=>exact⟨0,by omega,rfl,HT.out⟩
           case round=>
            obtain⟨p,hp,rfl,hT⟩:=hrel
            have HT:=Hp hT
            have g8:=HFL.out
            unfold big at g8
            by_cases Y:p<rl.length
            ·have i4:(p:Int)<rl.length:=by omega
             obtain⟨g1,s1,hA,c0,f0,hb,hg⟩:=HH44.now hT.sp Y
             subst hA
             rw[Nat.add_zero]at c0 f0
             have HN:=Hp (hT.store c0 (Alk.int .i64 s1 (-7)) hb hg)
             clear hT hb hg
             go_wp2_with fail
             go_roundw
             case rel=>exact⟨p+1,Y,by go_num,HN.out⟩
             case measure=>(simp[intOf];try omega)
            ·have HEND:=Hp (b6.below (j1.trans hT.sp.bel))
             clear hT g8
             go_wp2_with fail
             go_roundw
             case rel=>exact⟨j+1,HLT.out,by go_num,HEND.out⟩
             case measure=>(simp[intOf];try omega)
    ·have HMB:=Hp hM.bel
     clear hM hj
     go_wp2_with fail
     go_ret
     exact⟨rfl,HMB.out⟩
 ·exact{v67:=fun e=>no_ft e,o68:=fun e=>no_ft e,v69:=fun e=>no_ft e,o70:=fun e=>no_ft e,a7:=fun e=>no_ft e,a8:=fun e=>no_ft e,b7:=fun e=>no_ft e,b8:=fun e=>no_ft e,d6:=fun e=>no_ft e,d7:=fun e=>no_ft e,bel:=(GZ4 _ _).drew}
theorem restPlans_closed :joinedFacts Tryz.prog 6 Tryz.f6 Rows.restPlansSpec Rows.restPlansRow=true:=by
 unfold joinedFacts
 simp only[Bool.and_eq_true]
 and_intros
 ·as_aux_lemma=>kernel_rfl
 ·exact Tryz.laidOut
 ·exact Tryz.Sa
 ·as_aux_lemma=>kernel_rfl
 ·as_aux_lemma=>kernel_rfl
 ·as_aux_lemma=>kernel_rfl
 ·exact Tryz.UF
 ·as_aux_lemma=>kernel_rfl
 ·exact Tryz.SS
 ·as_aux_lemma=>kernel_rfl
 ·as_aux_lemma=>kernel_rfl
 ·as_aux_lemma=>kernel_rfl
 ·as_aux_lemma=>kernel_rfl
 ·as_aux_lemma=>kernel_rfl
 ·as_aux_lemma=>kernel_rfl
 ·as_aux_lemma=>kernel_rfl
 ·as_aux_lemma=>kernel_rfl
 ·as_aux_lemma=>kernel_rfl
 ·as_aux_lemma=>kernel_rfl
 ·as_aux_lemma=>kernel_rfl
 ·as_aux_lemma=>kernel_rfl
 ·as_aux_lemma=>kernel_rfl
 ·exact Tryz.Sc
 ·as_aux_lemma=>kernel_rfl
 ·exact Tryz.jD
 ·exact Tryz.kY
 ·exact Tryz.rW
 ·exact Tryz.xI
 ·as_aux_lemma=>kernel_rfl
 ·as_aux_lemma=>kernel_rfl
 ·as_aux_lemma=>kernel_rfl
 ·as_aux_lemma=>kernel_rfl
theorem restPlans_lifted (D:Os)(c:D.Started)(H:Type)(enc:TypeId×Value->H):
  ReturnsInHanded {} Tryz.checked D 6 .any (Rows.restPlansSpec.pre6 enc Tryz.prog Tryz.f6 Rows.restPlansRow.domain false) (Rows.restPlansSpec.post enc Tryz.prog Tryz.f6 false true false false):=by
 refine returnsInHanded_of_change_sized (C:=Tryz.checked) Tryz.own c (by kernel_rfl) Tryz.func6
  (ChangeSpec.witness6 (enc:=enc) (C:=Tryz.checked) false ⟨#[],#[.agg #[.int .i64 0,.int .i64 0,.slice none 0 0,.slice none 0 0],.agg #[.string ⟨#[]⟩,.int .i64 0,.int .i64 0,.string ⟨#[]⟩,.slice none 0 0,.slice none 0 0,.slice none 0 0],.string ⟨#[]⟩],[]⟩ 8 (by kernel_rfl) (by kernel_rfl) (by kernel_rfl) (by kernel_rfl)) ?_
 intro W n b J gs o f G F l _
 have a:∀(j:Nat)t v,Tryz.f6.params[j]? =some t->b[j]? =some v->Value.okWide Tryz.prog W .any n t v:=f
 have d:(DataW.weightsEach Tryz.prog (Tryz.f6.params.toList++Rows.restPlansSpec.plain.varTypes Tryz.prog) (J++gs)).all (· <=reachBytes)=true:=l
 have u:=G
 obtain⟨p,q,w,hV,rfl,X,V⟩:=G
 have I:DataW.TrodAll enc Tryz.prog W 0 (fun _=>true) true Tryz.f6.params.toList b.toList J p:=w
 rw[Tryz.params6]at I a d
 obtain⟨B,N,d0,a2,p0,q0,s,rfl,rfl,h0,U⟩:=trodAll_cons I
 obtain⟨A,M,d1,a1,p1,q1,rfl,rfl,rfl,h1,T⟩:=trodAll_cons U
 obtain⟨z,L,d2,a0,p2,q2,rfl,rfl,rfl,h2,S⟩:=trodAll_cons T
 obtain⟨rfl,rfl,rfl⟩:=trodAll_nil S
 obtain rfl:b=#[B,A,z]:=by cases b;simp_all
 obtain⟨rfl,rfl⟩:=trodVars_none hV
 have y:=fF d (j:=0) rfl rfl
 obtain⟨P,R,O,Q,rfl,h,g,k⟩:=open_RegistryF (a 0 39 B rfl rfl) h0 y
 have x:=fF d (j:=1) rfl rfl
 obtain⟨m,rfl,r,i⟩:=open_ModuleF (a 1 70 A rfl rfl) h1 x
 obtain⟨E,rfl,rfl,rfl,w2⟩:=open_string Tryz.underlying9 (a 2 9 z rfl rfl) h2
 have K:E.size<=140737488351232:=by have:=sized_string d (j:=2) (t:=9) rfl rfl;simpa[reachBytes]using this
 refine(RestPlans_any P R O Q m E W h g k r i K).mono fun e W' ⟨Y,Z⟩=>?_
 subst Y
 exact⟨_,rfl,nZ Tryz.laidOut u rfl (by decide+kernel) rfl Tryz.underlying4 rfl rfl rfl Z⟩
theorem restPlans_holds :Rows.RestPlansSaid:=
 OpenClaim.holds_of_wide 6 Tryz.f6 rfl rfl rfl rfl rfl rfl rfl ⟨rfl,rfl,rfl,rfl,rfl⟩ rfl rfl rfl rfl rfl (by kernel_rfl) Tryz.func6 restPlans_closed
  (of_decide_eq_true (by kernel_rfl)) (by unfold Func.isWrapper;first|(rw[if_pos (by decide+kernel)];kernel_rfl)|(rw[if_neg (by decide+kernel)];exact⟨rfl,rfl⟩))
  (fun b a H enc _=>restPlans_lifted b a H enc)
#print axioms restPlans_holds
end Go.Proofs.YtjiedaialianmaaGreat
