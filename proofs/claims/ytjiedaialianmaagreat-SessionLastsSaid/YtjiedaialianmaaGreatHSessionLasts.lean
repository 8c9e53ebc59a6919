import Derived.Test.YtjiedaialianmaaGreatA25
import Derived.Test.YtjiedaialianmaaGreatBCoPlRe02
import Derived.Test.YtjiedaialianmaaGreatBLaPa01
import Derived.Test.YtjiedaialianmaaGreatBLaPaPl01
import Derived.Test.YtjiedaialianmaaGreatBLaPaPlRe01
import Derived.Test.YtjiedaialianmaaGreatCLasts02
import Derived.Test.YtjiedaialianmaaGreatCParts02
import Derived.Test.YtjiedaialianmaaGreatKTiny
/- SessionLasts: what was played is reopened: the same registry, and so the same bytes. No condition. -/
open Go
set_option maxRecDepth 100000
set_option maxHeartbeats 8000000
namespace Go.Proofs.YtjiedaialianmaaGreat
open Go.ChangeShapes Go.WideShapes Go.ChangeAt Go.RowKit Go.WideMaps Go.WideElems
open Go.ChangeMaps (setBlock shut_map_nil open_string shut_string keptBut_setBlock frozen?_setBlock heap_setBlock_same)
theorem SessionLasts_any (k:Krn) (cA:Option Addr) (cs:List Cm) (cc:Nat) (w:World) (hk:k.ok w) (hc:nE w cA cs):
  Calls Tryz.prog 3 #[k.v,.slice cA cs.length cc] w fun e w'=>e=.returned (.bool true)/\Below w.heap.size w w':=by
 show Calls Tryz.prog 3 #[.agg #[.int .i64 k.major,.int .i64 k.minor,.slice k.eA k.ex.length k.eC],.slice cA cs.length cc] w _
 have HBw:=Hp (Below.refl w.heap.size w)
 obtain⟨w0,e0⟩:=Nm w
 have HB0:=Hp (show Below w.heap.size w w0 from e0▸Below.refl _ _)
 have HK0:=Hp (show k.ok w0 from e0▸hk)
 have HC0:=Hp (show nE w0 cA cs from e0▸hc)
 subst e0
 obtain⟨w1,hw1⟩:=Nm (w0.alloc (.cells #[.int .i64 k.major,.int .i64 k.minor,.slice k.eA k.ex.length k.eC] 24))
 have hb1:Below w0.heap.size w0 w1:=hw1▸(Below.refl _ _).alloc (Nat.le_refl _) _
 have HB1:=Hp (HB0.out.trans (hb1.mono HB0.out.size))
 have HK1:=Hp (HK0.out.below hb1)
 have HC1:=Hp (HC0.out.below hb1)
 have HR1:=Hp (show w1.heap[w0.heap.size]? =some (.cells #[.int .i64 k.major,.int .i64 k.minor,.slice k.eA k.ex.length k.eC] 24 (0,0)) by rw[hw1];exact heap_alloc_new w0 _)
 have HSZ1:=Hp (show w1.heap.size=w0.heap.size+1 by rw[hw1];simp)
 have hw1':=hw1.symm
 clear hw1 hb1
 have hl63:=hc.len
 unfold big at hl63
 clear hk hc
 go_enter Tryz.func3,Tryz.ntmps3
 go_wp2_with fail
 refine(dG _).mono ?_;rintro e w2 ⟨rfl,hb2⟩
 have HB2:=Hp (HB1.out.trans (hb2.mono HB1.out.size))
 have HK2:=Hp (HK1.out.below hb2)
 have HC2:=Hp (HC1.out.below hb2)
 have HR2:=Hp (aF hb2 HR1.out)
 clear hb2
 go_wp2_with fail
 refine(jF _).mono ?_;rintro e w3 ⟨rfl,hb3⟩
 have HB3:=Hp (HB2.out.trans (hb3.mono HB2.out.size))
 have HK3:=Hp (HK2.out.below hb3)
 have HC3:=Hp (HC2.out.below hb3)
 have HR3:=Hp (aF hb3 HR2.out)
 clear hb3
 go_wp2_with fail
 refine(Cb _).mono ?_;rintro e w4 ⟨rfl,hb4⟩
 have HB4:=Hp (HB3.out.trans (hb4.mono HB3.out.size))
 have HK4:=Hp (HK3.out.below hb4)
 have HC4:=Hp (HC3.out.below hb4)
 have HR4:=Hp (aF hb4 HR3.out)
 clear hb4
 go_wp2_with fail
 refine(U4 _).mono ?_;rintro e w5 ⟨rfl,hb5⟩
 have HB5:=Hp (HB4.out.trans (hb5.mono HB4.out.size))
 have HK5:=Hp (HK4.out.below hb5)
 have HC5:=Hp (HC4.out.below hb5)
 have HR5:=Hp (aF hb5 HR4.out)
 clear hb5
 go_wp2_with fail
 refine(format32 _).mono ?_;rintro e w6 ⟨⟨g,rfl,_,hgok,hgF⟩,hb6⟩
 have HB6:=Hp (HB5.out.trans (hb6.mono HB5.out.size))
 have HK6:=Hp (HK5.out.below hb6)
 have HC6:=Hp (HC5.out.below hb6)
 have HR6:=Hp (aF hb6 HR5.out)
 have HG6:=Hp hgok
 have HGF:=Hp hgF
 clear hb6 hgok hgF
 obtain⟨w7,hw7⟩:=Nm (w6.alloc (.cells #[.slice g.a g.bl.length g.c] 29))
 have hb7:Below w6.heap.size w6 w7:=hw7▸(Below.refl _ _).alloc (Nat.le_refl _) _
 have hneRD:=Hp (Nat.ne_of_lt (Array.getElem?_eq_some_iff.1 HR6.out).1)
 have HB7:=Hp (HB6.out.trans (hb7.mono HB6.out.size))
 have HK7:=Hp (HK6.out.below hb7)
 have HC7:=Hp (HC6.out.below hb7)
 have HR7:=Hp (aF hb7 HR6.out)
 have HG7:=Hp (HG6.out.below hb7)
 have HD7:=Hp (show w7.heap[w6.heap.size]? =some (.cells #[.slice g.a g.bl.length g.c] 29 (0,0)) by rw[hw7];exact heap_alloc_new w6 _)
 have HSZ7:=Hp (show w7.heap.size=w6.heap.size+1 by rw[hw7];simp)
 have hw7':=hw7.symm
 clear hw7 hb7
 obtain⟨E,hE⟩:=Nm (bJ k)
 have HE:=Hp hE
 have f1:=Hp (iT k w7 HK7.out)
 rw[<-hE]at f1
 clear hE
 obtain⟨r0,r1,r2⟩:=qL HR7.out
 go_wp2_with fail
 refine(f1.out).mono ?_;rintro e w8 ⟨rfl,hb8⟩
 have HB8:=Hp (HB7.out.trans (hb8.mono HB7.out.size))
 have HK8:=Hp (HK7.out.below hb8)
 have HC8:=Hp (HC7.out.below hb8)
 have HR8:=Hp (aF hb8 HR7.out)
 have HG8:=Hp (HG7.out.below hb8)
 have HD8:=Hp (aF hb8 HD7.out)
 clear hb8 f1 r0 r1 r2
 by_cases t:E=0/\cs.length<=40
 ·obtain⟨t0,t1⟩:=t
  have HK0':=Hp (HE.out.symm.trans t0)
  have H40:=Hp t1
  obtain⟨P,hP⟩:=Nm (fD k F32 cs)
  obtain⟨F1,es1,c1⟩:=P
  have HP:=Hp hP
  have t1':¬((40:Int)<cs.length):=by omega
  subst t0
  clear hP t1
  have f2:=Hp (play_c (F:=F1) (es:=es1) (c:=c1) (cc:=cc) HK8.out HG8.out HC8.out (by rw[HGF.out];exact HP.out.symm))
  obtain⟨r0,r1,r2⟩:=qL HR8.out
  have d0:=J4 HD8.out
  go_wp2_with fail
  refine(f2.out).mono ?_;rintro e w9 ⟨⟨x,eA,ec,rfl,hrx,hox⟩,hb9⟩
  have HB9:=Hp (HB8.out.trans (hb9.mono HB8.out.size))
  have HK9:=Hp (HK8.out.below hb9)
  have HC9:=Hp (HC8.out.below hb9)
  have HR9:=Hp (aF hb9 HR8.out)
  have HG9:=Hp (HG8.out.below hb9)
  have HD9:=Hp (aF hb9 HD8.out)
  by_cases tc:c1=0
  ·subst tc
   obtain⟨l1,l2,l3⟩:=DC HK0'.out H40.out (by rw[<-HP.out])
   have hfl:bP F1=0:=by
    have h:=zN (k:=k) (cs:=cs) HK0'.out H40.out
    have h2:=FI (k:=k) cs (l:=[]) Qf
    rw[<-h,<-HP.out]at h2
    exact h2
   rw[<-HP.out]at l1 l2 l3
   dsimp only at l1 l2 l3
   have HL1:=Hp l1
   have HL2:=Hp l2
   have HL3:=Hp l3
   have HO9:=Hp (AO hox)
   have HX9:=Hp (hrx.ok (.inr hfl))
   have HXF:=Hp hrx.is
   have HRL:=Hp (show aZ k (Rl k [] cs)=0 from lG _ (Be HK0'.out))
   have HEL:=Hp (show es1.length<=big from by
    have h3:=play_len' k F32 cs
    rw[<-HP.out]at h3
    have h4:=H40.out
    unfold big
    dsimp only at h3
    omega)
   clear hrx hox hb9 f2 r0 r1 r2 d0 l1 l2 l3 hfl
   obtain⟨w10,hw10⟩:=Nm (w9.alloc (.cells #[.slice x.a x.bl.length x.c] 29))
   have hb10:Below w9.heap.size w9 w10:=hw10▸(Below.refl _ _).alloc (Nat.le_refl _) _
   have hneRM:=Hp (Nat.ne_of_lt (Array.getElem?_eq_some_iff.1 HR9.out).1)
   have HB10:=Hp (HB9.out.trans (hb10.mono HB9.out.size))
   have HK10:=Hp (HK9.out.below hb10)
   have HC10:=Hp (HC9.out.below hb10)
   have HR10:=Hp (aF hb10 HR9.out)
   have HX10:=Hp (HX9.out.below hb10)
   have HO10:=Hp (Row.below HO9.out hb10)
   have HM10:=Hp (show w10.heap[w9.heap.size]? =some (.cells #[.slice x.a x.bl.length x.c] 29 (0,0)) by rw[hw10];exact heap_alloc_new w9 _)
   have HSZ10:=Hp (show w10.heap.size=w9.heap.size+1 by rw[hw10];simp)
   have hw10':=hw10.symm
   clear hw10 hb10
   have f3:=Hp (run_c (cc:=cc) HK10.out HC10.out HK0'.out H40.out HL1.out.symm)
   obtain⟨r0,r1,r2⟩:=qL HR10.out
   go_wp2_with fail
   refine(f3.out).mono ?_;rintro e w11 ⟨⟨k1,A1,l1,c1,fA,fc,rfl,ht1,hk1,hl1,ho1⟩,hb11⟩
   have HB11:=Hp (HB10.out.trans (hb11.mono HB10.out.size))
   have HK11:=Hp (HK10.out.below hb11)
   have HC11:=Hp (HC10.out.below hb11)
   have HR11:=Hp (aF hb11 HR10.out)
   have HX11:=Hp (HX10.out.below hb11)
   have HO11:=Hp (Row.below HO10.out hb11)
   have HM11:=Hp (aF hb11 HM10.out)
   have HP11:=Hp ht1
   have HW11:=Hp ho1
   have HK1:=Hp hk1
   have HM1:=Hp hl1
   clear ht1 ho1 hk1 hl1 hb11 f3 r0 r1 r2
   obtain⟨w12,hw12⟩:=Nm (w11.alloc (.cells #[.int .i64 k1.major,.int .i64 k1.minor,.slice k1.eA k1.ex.length k1.eC,.slice A1 l1.length c1] 39))
   have hb12:Below w11.heap.size w11 w12:=hw12▸(Below.refl _ _).alloc (Nat.le_refl _) _
   have hneRU:=Hp (Nat.ne_of_lt (Array.getElem?_eq_some_iff.1 HR11.out).1)
   have hneMU:=Hp (Nat.ne_of_lt (Array.getElem?_eq_some_iff.1 HM11.out).1)
   have HB12:=Hp (HB11.out.trans (hb12.mono HB11.out.size))
   have HK12:=Hp (HK11.out.below hb12)
   have HR12:=Hp (aF hb12 HR11.out)
   have HX12:=Hp (HX11.out.below hb12)
   have HO12:=Hp (Row.below HO11.out hb12)
   have HM12:=Hp (aF hb12 HM11.out)
   have HP12:=Hp (HP11.out.below hb12)
   have HW12:=Hp (Row.below HW11.out hb12)
   have HU12:=Hp (show w12.heap[w11.heap.size]? =some (.cells #[.int .i64 k1.major,.int .i64 k1.minor,.slice k1.eA k1.ex.length k1.eC,.slice A1 l1.length c1] 39 (0,0)) by rw[hw12];exact heap_alloc_new w11 _)
   have HSZ12:=Hp (show w12.heap.size=w11.heap.size+1 by rw[hw12];simp)
   have hw12':=hw12.symm
   clear hw12 hb12
   have f4:=Hp (reopen_c HK12.out HX12.out HXF.out HK0'.out HL2.out)
   obtain⟨r0,r1,r2⟩:=qL HR12.out
   have d0:=J4 HM12.out
   go_wp2_with fail
   refine(f4.out).mono ?_;rintro e w13 ⟨⟨k2,A2,l2,c2,rfl,ht2,hk2,hl2⟩,hb13⟩
   have HB13:=Hp (HB12.out.trans (hb13.mono HB12.out.size))
   have HK13:=Hp (HK12.out.below hb13)
   have HR13:=Hp (aF hb13 HR12.out)
   have HX13:=Hp (HX12.out.below hb13)
   have HO13:=Hp (Row.below HO12.out hb13)
   have HM13:=Hp (aF hb13 HM12.out)
   have HP13:=Hp (HP12.out.below hb13)
   have HW13:=Hp (Row.below HW12.out hb13)
   have HU13:=Hp (aF hb13 HU12.out)
   have HQ13:=Hp ht2
   have HK2:=Hp hk2
   have HM2:=Hp (hl2.trans HL3.out)
   clear ht2 hk2 hl2 hb13 f4 r0 r1 r2 d0
   obtain⟨w14,hw14⟩:=Nm (w13.alloc (.cells #[.int .i64 k2.major,.int .i64 k2.minor,.slice k2.eA k2.ex.length k2.eC,.slice A2 l2.length c2] 39))
   have hb14:Below w13.heap.size w13 w14:=hw14▸(Below.refl _ _).alloc (Nat.le_refl _) _
   have hneRV:=Hp (Nat.ne_of_lt (Array.getElem?_eq_some_iff.1 HR13.out).1)
   have hneUV:=Hp (Nat.ne_of_lt (Array.getElem?_eq_some_iff.1 HU13.out).1)
   have HB14:=Hp (HB13.out.trans (hb14.mono HB13.out.size))
   have HK14:=Hp (HK13.out.below hb14)
   have HR14:=Hp (aF hb14 HR13.out)
   have HO14:=Hp (Row.below HO13.out hb14)
   have HP14:=Hp (HP13.out.below hb14)
   have HW14:=Hp (Row.below HW13.out hb14)
   have HU14:=Hp (aF hb14 HU13.out)
   have HQ14:=Hp (HQ13.out.below hb14)
   have HV14:=Hp (show w14.heap[w13.heap.size]? =some (.cells #[.int .i64 k2.major,.int .i64 k2.minor,.slice k2.eA k2.ex.length k2.eC,.slice A2 l2.length c2] 39 (0,0)) by rw[hw14];exact heap_alloc_new w13 _)
   have HSZ14:=Hp (show w14.heap.size=w13.heap.size+1 by rw[hw14];simp)
   have hw14':=hw14.symm
   clear hw14 hb14
   obtain⟨g1,g2,g3⟩:=area_c HK1.out HM1.out HRL.out
   obtain⟨h1,h2,h3⟩:=area_c HK2.out HM2.out HRL.out
   have HG1:=Hp g2
   have HG2:=Hp h2
   have HGT:=Hp (g3.trans h3.symm)
   have HG3:=Hp h1
   clear g1 g2 g3 h1 h2 h3
   have f5:=Hp (fO eA fA ec fc es1 w14 HO14.out HW14.out HEL.out)
   go_wp2_with fail
   refine(f5.out).mono ?_;rintro e w15 ⟨rfl,hb15⟩
   have HB15:=Hp (HB14.out.trans (hb15.mono HB14.out.size))
   have HK15:=Hp (HK14.out.below hb15)
   have HR15:=Hp (aF hb15 HR14.out)
   have HP15:=Hp (HP14.out.below hb15)
   have HU15:=Hp (aF hb15 HU14.out)
   have HQ15:=Hp (HQ14.out.below hb15)
   have HV15:=Hp (aF hb15 HV14.out)
   clear hb15 f5
   have f6:=Hp (Rw k1 k2 A1 A2 c1 c2 l1 l2 w15 HP15.out.1 HP15.out.2 HQ15.out.1 HQ15.out.2 (HK1.out.trans HK2.out.symm) (HM1.out.trans HM2.out.symm))
   obtain⟨_,u0,u1,u2,u3,uf0,uf1,uf2,uf3⟩:=aB HU15.out
   obtain⟨_,v0,v1,v2,v3,vf0,vf1,vf2,vf3⟩:=aB HV15.out
   go_wp2_with fail
   refine(f6.out).mono ?_;rintro e w16 ⟨rfl,hb16⟩
   have HB16:=Hp (HB15.out.trans (hb16.mono HB15.out.size))
   have HK16:=Hp (HK15.out.below hb16)
   have HR16:=Hp (aF hb16 HR15.out)
   have HP16:=Hp (HP15.out.below hb16)
   have HU16:=Hp (aF hb16 HU15.out)
   have HQ16:=Hp (HQ15.out.below hb16)
   have HV16:=Hp (aF hb16 HV15.out)
   clear u0 u1 u2 u3 uf0 uf1 uf2 uf3;clear v0 v1 v2 v3 vf0 vf1 vf2 vf3
   clear hb16 f6
   have f7:=Hp (jE k2 A2 c2 l2 w16 HQ16.out.1 HQ16.out.2)
   rw[HG3.out]at f7
   obtain⟨_,v0,v1,v2,v3,vf0,vf1,vf2,vf3⟩:=aB HV16.out
   go_wp2_with fail
   refine(f7.out).mono ?_;rintro e w17 ⟨rfl,hb17⟩
   have HB17:=Hp (HB16.out.trans (hb17.mono HB16.out.size))
   have HK17:=Hp (HK16.out.below hb17)
   have HR17:=Hp (aF hb17 HR16.out)
   have HP17:=Hp (HP16.out.below hb17)
   have HU17:=Hp (aF hb17 HU16.out)
   have HQ17:=Hp (HQ16.out.below hb17)
   have HV17:=Hp (aF hb17 HV16.out)
   clear v0 v1 v2 v3 vf0 vf1 vf2 vf3
   clear hb17 f7
   have f8:=Hp (Bo k A1 c1 l1 w17 HK17.out HP17.out.2)
   rw[HG1.out]at f8
   obtain⟨r0,r1,r2⟩:=qL HR17.out
   obtain⟨_,u0,u1,u2,u3,uf0,uf1,uf2,uf3⟩:=aB HU17.out
   go_wp2_with fail
   refine(f8.out).mono ?_;rintro e w18 ⟨rfl,hb18⟩
   have HB18:=Hp (HB17.out.trans (hb18.mono HB17.out.size))
   have HK18:=Hp (HK17.out.below hb18)
   have HR18:=Hp (aF hb18 HR17.out)
   have HP18:=Hp (HP17.out.below hb18)
   have HU18:=Hp (aF hb18 HU17.out)
   have HQ18:=Hp (HQ17.out.below hb18)
   have HV18:=Hp (aF hb18 HV17.out)
   clear u0 u1 u2 u3 uf0 uf1 uf2 uf3
   clear hb18 f8 r0 r1 r2
   have f9:=Hp (Bo k A2 c2 l2 w18 HK18.out HQ18.out.2)
   rw[HG2.out,<-HGT.out]at f9
   obtain⟨r0,r1,r2⟩:=qL HR18.out
   obtain⟨_,v0,v1,v2,v3,vf0,vf1,vf2,vf3⟩:=aB HV18.out
   go_wp2_with fail
   refine(f9.out).mono ?_;rintro e w19 ⟨rfl,hb19⟩
   have HB19:=Hp (HB18.out.trans (hb19.mono HB18.out.size))
   have HK19:=Hp (HK18.out.below hb19)
   have HR19:=Hp (aF hb19 HR18.out)
   have HP19:=Hp (HP18.out.below hb19)
   have HU19:=Hp (aF hb19 HU18.out)
   have HQ19:=Hp (HQ18.out.below hb19)
   have HV19:=Hp (aF hb19 HV18.out)
   clear v0 v1 v2 v3 vf0 vf1 vf2 vf3
   clear hb19 f9 r0 r1 r2
   go_wp2_with fail
   go_ret
   exact⟨by simp,HB19.out⟩
  ·have hc8:c1=8:=by
    have:=DW HK0'.out H40.out
    rw[<-HP.out]at this
    exact this.resolve_left tc
   subst hc8
   clear hrx hox f2 r0 r1 r2 d0
   go_wp2_with fail
   go_ret
   exact⟨by simp,HB9.out.alloc HB9.out.size _⟩
 ·by_cases t0:E=0
  ·have t1:(40:Int)<cs.length:=by omega
   subst t0
   clear t
   go_wp2_with fail
   go_ret
   exact⟨rfl,HB8.out⟩
  ·have t1:(E != 0)=true:=by simp[t0]
   clear t
   go_wp2_with fail
   go_ret
   exact⟨rfl,HB8.out⟩
theorem sG :joinedFacts Tryz.prog 3 Tryz.f3 Rows.sessionLastsSpec Rows.sessionLastsRow=true:=by
 unfold joinedFacts
 simp only[Bool.and_eq_true]
 and_intros
 ·as_aux_lemma=>kernel_rfl
 ·exact Tryz.laidOut
 ·exact Tryz.Sa
 ·as_aux_lemma=>kernel_rfl
 ·as_aux_lemma=>kernel_rfl
 ·as_aux_lemma=>kernel_rfl
 ·exact Tryz.UF
 ·as_aux_lemma=>kernel_rfl
 ·exact Tryz.SS
 ·as_aux_lemma=>kernel_rfl
 ·as_aux_lemma=>kernel_rfl
 ·as_aux_lemma=>kernel_rfl
 ·as_aux_lemma=>kernel_rfl
 ·as_aux_lemma=>kernel_rfl
 ·as_aux_lemma=>kernel_rfl
 ·as_aux_lemma=>kernel_rfl
 ·as_aux_lemma=>kernel_rfl
 ·as_aux_lemma=>kernel_rfl
 ·as_aux_lemma=>kernel_rfl
 ·as_aux_lemma=>kernel_rfl
 ·as_aux_lemma=>kernel_rfl
 ·as_aux_lemma=>kernel_rfl
 ·exact Tryz.Sc
 ·as_aux_lemma=>kernel_rfl
 ·exact Tryz.jD
 ·exact Tryz.kY
 ·exact Tryz.rW
 ·exact Tryz.xI
 ·as_aux_lemma=>kernel_rfl
 ·as_aux_lemma=>kernel_rfl
 ·as_aux_lemma=>kernel_rfl
 ·as_aux_lemma=>kernel_rfl
theorem UI (os:Os) (started:os.Started) (H:Type) (enc:TypeId×Value->H):
  ReturnsInHanded {} Tryz.checked os 3 .any (Rows.sessionLastsSpec.pre6 enc Tryz.prog Tryz.f3 Rows.sessionLastsRow.domain false) (Rows.sessionLastsSpec.post enc Tryz.prog Tryz.f3 false true false false):=by
 refine returnsInHanded_of_change_sized (C:=Tryz.checked) Tryz.own started (by kernel_rfl) Tryz.func3
  (ChangeSpec.witness6 (enc:=enc) (C:=Tryz.checked) false ⟨#[],#[.agg #[.int .i64 0,.int .i64 0,.slice none 0 0],.slice none 0 0],[]⟩ 8 (by kernel_rfl) (by kernel_rfl) (by kernel_rfl) (by kernel_rfl)) ?_
 intro W base args ds gs before hval0 hW hcnd hsz0 _
 have hval:∀(j:Nat) t v,Tryz.f3.params[j]? =some t->args[j]? =some v->Value.okWide Tryz.prog W .any base t v:=hval0
 have hsz:(DataW.weightsEach Tryz.prog (Tryz.f3.params.toList++Rows.sessionLastsSpec.plain.varTypes Tryz.prog) (ds++gs)).all (· <=reachBytes)=true:=hsz0
 have hW':=hW
 obtain⟨p,q,hA0,hV,rfl,hfz,hnd⟩:=hW
 have hA:DataW.TrodAll enc Tryz.prog W 0 (fun _=>true) true Tryz.f3.params.toList args.toList ds p:=hA0
 rw[Tryz.params3]at hA hval hsz
 obtain⟨v0,vs0,d0,ds0,p0,q0,hargs,rfl,rfl,h0,r0⟩:=trodAll_cons hA
 obtain⟨v1,vs1,d1,ds1,p1,q1,rfl,rfl,rfl,h1,r1⟩:=trodAll_cons r0
 obtain⟨rfl,rfl,rfl⟩:=trodAll_nil r1
 obtain rfl:args=#[v0,v1]:=by cases args;simp_all
 obtain⟨rfl,rfl⟩:=trodVars_none hV
 have ft0:=fF hsz (j:=0) rfl rfl
 obtain⟨k,rfl,ok0⟩:=nO (hval 0 24 v0 rfl rfl) h0 ft0
 have ft1:=fF hsz (j:=1) rfl rfl
 obtain⟨lA,l,lc,rfl,ok1⟩:=UD (hval 1 25 v1 rfl rfl) h1 ft1
 refine(SessionLasts_any k lA l lc W ok0 ok1).mono fun e W' ⟨he,hb⟩=>?_
 subst he
 exact⟨_,rfl,nZ Tryz.laidOut hW' rfl (by decide+kernel) rfl Tryz.underlying4 rfl rfl rfl hb⟩
theorem sessionLasts_holds :Rows.SessionLastsSaid:=
 OpenClaim.holds_of_wide 3 Tryz.f3 rfl rfl rfl rfl rfl rfl rfl ⟨rfl,rfl,rfl,rfl,rfl⟩ rfl rfl rfl rfl rfl (by kernel_rfl) Tryz.func3 sG
  (of_decide_eq_true (by kernel_rfl)) (by unfold Func.isWrapper;first|(rw[if_pos (by decide+kernel)];kernel_rfl)|(rw[if_neg (by decide+kernel)];exact⟨rfl,rfl⟩))
  (fun os started H enc _=>UI os started H enc)
#print axioms sessionLasts_holds
end Go.Proofs.YtjiedaialianmaaGreat
