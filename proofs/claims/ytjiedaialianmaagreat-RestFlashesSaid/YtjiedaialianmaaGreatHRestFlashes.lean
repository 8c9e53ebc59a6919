import Derived.Test.YtjiedaialianmaaGreatA25
import Derived.Test.YtjiedaialianmaaGreatCRestFlashes02
import Derived.Test.YtjiedaialianmaaGreatCRestFlashes03
import Derived.Test.YtjiedaialianmaaGreatCRestFlashes05
import Derived.Test.YtjiedaialianmaaGreatKTiny
/- RestFlashes: flashes, deeds, records and what is reopened, that came, and were changed, change nothing that was handed in, nor what comes next. No condition. -/
open Go
set_option maxRecDepth 100000
set_option maxHeartbeats 8000000
namespace Go.Proofs.YtjiedaialianmaaGreat
open Go.ChangeShapes Go.WideShapes Go.ChangeAt Go.RowKit Go.WideMaps Go.WideElems
open Go.ChangeMaps (setBlock shut_map_nil open_string shut_string keptBut_setBlock frozen?_setBlock heap_setBlock_same)
theorem RestFlashes_any (k:Krn) (n:Int) (rA:Option Addr) (rl:List ByteArray) (rc:Nat) (cA:Option Addr) (cs:List Cm) (cc:Nat) (w:World) (hk:k.ok w) (hkf:k.ex.length*24<=big) (h:jK w rA rl/\rl.length<=rc) (hc:nE w cA cs):
  Calls Tryz.prog 4 #[k.v,.int .i64 n,.slice rA rl.length rc,.slice cA cs.length cc] w fun e w'=>e=.returned (.bool true)/\Below w.heap.size w w':=by
 show Calls Tryz.prog 4 #[.agg #[.int .i64 k.major,.int .i64 k.minor,.slice k.eA k.ex.length k.eC],.int .i64 n,.slice rA rl.length rc,.slice cA cs.length cc] w _
 have HBw:=Hp (Below.refl w.heap.size w)
 obtain⟨w0,e0⟩:=Nm w
 have HB0:=Hp (show Below w.heap.size w w0 from e0▸Below.refl _ _)
 have HK0:=Hp (show k.ok w0 from e0▸hk)
 have HT0:=Hp (show jK w0 rA rl from e0▸h.1)
 have HC0:=Hp (show nE w0 cA cs from e0▸hc)
 subst e0
 obtain⟨w1,hw1⟩:=Nm (w0.alloc (.cells #[.int .i64 k.major,.int .i64 k.minor,.slice k.eA k.ex.length k.eC] 24))
 have hb1:Below w0.heap.size w0 w1:=hw1▸(Below.refl _ _).alloc (Nat.le_refl _) _
 have HB1:=Hp (HB0.out.trans (hb1.mono HB0.out.size))
 have HK1:=Hp (HK0.out.below hb1)
 have HT1:=Hp (HT0.out.below hb1)
 have HC1:=Hp (HC0.out.below hb1)
 have HR1:=Hp (show w1.heap[w0.heap.size]? =some (.cells #[.int .i64 k.major,.int .i64 k.minor,.slice k.eA k.ex.length k.eC] 24 (0,0)) by rw[hw1];exact heap_alloc_new w0 _)
 have HSZ1:=Hp (show w1.heap.size=w0.heap.size+1 by rw[hw1];simp)
 have hw1':=hw1.symm
 clear hw1 hb1
 have HKF:=Hp hkf
 have hl62:=h.1.len
 have hl63:=hc.len
 unfold big at hl62 hl63
 clear hk h hc hkf
 go_enter Tryz.func4,Tryz.ntmps4
 go_wp2_with fail
 refine(flashBegun_any _).mono ?_;rintro e w2 ⟨rfl,hb2⟩
 have HB2:=Hp (HB1.out.trans (hb2.mono HB1.out.size))
 have HK2:=Hp (HK1.out.below hb2)
 have HT2:=Hp (HT1.out.below hb2)
 have HC2:=Hp (HC1.out.below hb2)
 have HR2:=Hp (aF hb2 HR1.out)
 clear hb2
 go_wp2_with fail
 refine(jF _).mono ?_;rintro e w3 ⟨rfl,hb3⟩
 have HB3:=Hp (HB2.out.trans (hb3.mono HB2.out.size))
 have HK3:=Hp (HK2.out.below hb3)
 have HT3:=Hp (HT2.out.below hb3)
 have HC3:=Hp (HC2.out.below hb3)
 have HR3:=Hp (aF hb3 HR2.out)
 clear hb3
 go_wp2_with fail
 refine(dG _).mono ?_;rintro e w4 ⟨rfl,hb4⟩
 have HB4:=Hp (HB3.out.trans (hb4.mono HB3.out.size))
 have HK4:=Hp (HK3.out.below hb4)
 have HT4:=Hp (HT3.out.below hb4)
 have HC4:=Hp (HC3.out.below hb4)
 have HR4:=Hp (aF hb4 HR3.out)
 clear hb4
 go_wp2_with fail
 by_cases t:lD n=0
 ·have f1:=Hp (Ux n rA rl rc w4 HT4.out t)
  clear t
  refine(f1.out).mono ?_;rintro e w5 ⟨⟨g,F,Rs,Ds,k0,j0,v6,rfl,hJ,hF,hV,hap⟩,hb5⟩
  have HB5:=Hp (HB4.out.trans (hb5.mono HB4.out.size))
  have HK5:=Hp (HK4.out.below hb5)
  have HC5:=Hp (HC4.out.below hb5)
  have HR5:=Hp (aF hb5 HR4.out)
  obtain⟨A6,c6,rfl,hrow6,_⟩:=hV.form
  obtain⟨o1,o2⟩:=hJ.open_
  have hrs:=kW F
  rw[o2]at hrs
  have HG5:=Hp (hF.ok (.inr hJ.ok))
  have HGF:=Hp hF.is
  have HJ:=Hp hJ
  have HO1:=Hp o1
  have HO2:=Hp o2
  have HF32:=Hp (fP.1 hJ.ok).1.2
  have HRS:=Hp hrs.2
  have HV5:=Hp hrow6
  clear hJ hF hV hap hrow6 o1 o2 hrs hb5 f1
  obtain⟨w6,hw6⟩:=Nm (w5.alloc (.cells #[.slice g.a g.bl.length g.c] 29))
  have hb6:Below w5.heap.size w5 w6:=hw6▸(Below.refl _ _).alloc (Nat.le_refl _) _
  have hneRD:=Hp (Nat.ne_of_lt (Array.getElem?_eq_some_iff.1 HR5.out).1)
  have HB6:=Hp (HB5.out.trans (hb6.mono HB5.out.size))
  have HK6:=Hp (HK5.out.below hb6)
  have HC6:=Hp (HC5.out.below hb6)
  have HR6:=Hp (aF hb6 HR5.out)
  have HG6:=Hp (HG5.out.below hb6)
  have HV6:=Hp (Row.below HV5.out hb6)
  have HD6:=Hp (show w6.heap[w5.heap.size]? =some (.cells #[.slice g.a g.bl.length g.c] 29 (0,0)) by rw[hw6];exact heap_alloc_new w5 _)
  have HSZ6:=Hp (show w6.heap.size=w5.heap.size+1 by rw[hw6];simp)
  have hw6':=hw6.symm
  clear hw6 hb6
  obtain⟨w7,hw7⟩:=Nm (w6.alloc (.cells #[] 9))
  have hb7:Below w6.heap.size w6 w7:=hw7▸(Below.refl _ _).alloc (Nat.le_refl _) _
  have HE7:=Hp (show dA w7 w6.heap.size (.slice (some ⟨w6.heap.size,0,none⟩) 0 0) [] from hw7▸(World.ownsRow_made w6 #[] 0 (Nat.le_refl _) (Nat.zero_le _) rfl))
  have HB7':=Hp hb7
  have HR7:=Hp (HG6.out.1.row.below hb7)
  have HL7:=Hp (show([]:List ByteArray).length+g.bl.length<=1000000 by rw[HGF.out];have:=HF32.out;simp only[List.length_nil];omega)
  have d0:=(J4 HD6.out)
  have d1:=(hb7.cell (p:=⟨w5.heap.size,0,none⟩) (Array.getElem?_eq_some_iff.1 HD6.out).1).trans d0
  have hw7':=hw7.symm
  have HKX:=Hp (show([]:List Exp).length+k.ex.length<=5864062014700/\k.ex.length<=big from by have:=HKF.out;unfold big at this ⊢;simp only[List.length_nil];omega)
  clear hb7 hw7
  go_wp2_with (first
   |(at_builtin;refine vK w7 rfl (.tmp 53) (.tmp 55) rfl w6.heap.size (.slice (some ⟨w6.heap.size,0,none⟩) 0 0) [] rfl HE7.out g.a g.c g.bl rfl HR7.out HL7.out HB7'.out.size ?_
     intro v8 w8 ht8 hb8 _ _
     rw[List.nil_append]at ht8
     obtain⟨A8,c8,rfl⟩:=bG ht8
     have hb68:=HB7'.out.trans hb8
     have HB8:=Hp (HB6.out.trans (hb68.mono HB6.out.size))
     have HK8:=Hp (HK6.out.below hb68)
     have HC8:=Hp (HC6.out.below hb68)
     have HR8:=Hp (aF hb68 HR6.out)
     have HG8:=Hp (HG6.out.below hb68)
     have HV8:=Hp (Row.below HV6.out hb68)
     have HD8:=Hp (aF hb68 HD6.out)
     have HY8:=Hp (show(⟨g.bl,A8,c8⟩:Fl).ok w8 from Rt.ok (l:=g.bl) (base:=w6.heap.size) ⟨ht8,er_capR ht8,rfl⟩ (.inr (by rw[HGF.out];exact HJ.out.ok)))
     clear ht8 hb8 hb68 d0 d1 hw7'
     obtain⟨w9,hw9⟩:=Nm (w8.alloc (.cells #[.slice A8 g.bl.length c8] 29))
     have hb9:Below w8.heap.size w8 w9:=hw9▸(Below.refl _ _).alloc (Nat.le_refl _) _
     have hneRI:=Hp (Nat.ne_of_lt (Array.getElem?_eq_some_iff.1 HR8.out).1)
     have hneDI:=Hp (Nat.ne_of_lt (Array.getElem?_eq_some_iff.1 HD8.out).1)
     have HB9:=Hp (HB8.out.trans (hb9.mono HB8.out.size))
     have HK9:=Hp (HK8.out.below hb9)
     have HC9:=Hp (HC8.out.below hb9)
     have HR9:=Hp (aF hb9 HR8.out)
     have HG9:=Hp (HG8.out.below hb9)
     have HV9:=Hp (Row.below HV8.out hb9)
     have HD9:=Hp (aF hb9 HD8.out)
     have HY9:=Hp (HY8.out.below hb9)
     have HI9:=Hp (show w9.heap[w8.heap.size]? =some (.cells #[.slice A8 g.bl.length c8] 29 (0,0)) by rw[hw9];exact heap_alloc_new w8 _)
     have HSZ9:=Hp (show w9.heap.size=w8.heap.size+1 by rw[hw9];simp)
     have hw9':=hw9.symm
     clear hw9 hb9
     obtain⟨w10,hw10⟩:=Nm (w9.alloc (.cells #[] 159))
     have hb10:Below w9.heap.size w9 w10:=hw10▸(Below.refl _ _).alloc (Nat.le_refl _) _
     have HE10:=Hp (show ExpOwn w10 w9.heap.size (.slice (some ⟨w9.heap.size,0,none⟩) 0 0) [] from hw10▸ExpOwn.empty w9 w9.heap.size (Nat.le_refl _))
     have HB10':=Hp hb10
     have HR10':=Hp (show Row Exp.cells 2 w10 k.eA k.ex from(HK9.out.1.1.below hb10))
     obtain⟨_,_,r2⟩:=qL HR9.out
     have q2:=(hb10.cell (p:=⟨w0.heap.size,2,none⟩) (Array.getElem?_eq_some_iff.1 HR9.out).1).trans r2
     have hw10':=hw10.symm
     clear hb10 hw10 r2)
   |(at_builtin;refine wpList_exps w10 rfl (.tmp 58) (.tmp 60) rfl w9.heap.size (.slice (some ⟨w9.heap.size,0,none⟩) 0 0) [] rfl HE10.out k.eA k.eC k.ex rfl HR10'.out HKX.out.1 HB10'.out.size ?_
     intro v11 w11 he11 hb11
     rw[List.nil_append]at he11
     obtain⟨oA,oC,rfl⟩:=bG he11
     have hb911:=HB10'.out.trans hb11
     have HB11:=Hp (HB9.out.trans (hb911.mono HB9.out.size))
     have HK11:=Hp (HK9.out.below hb911)
     have HC11:=Hp (HC9.out.below hb911)
     have HR11:=Hp (aF hb911 HR9.out)
     have HG11:=Hp (HG9.out.below hb911)
     have HV11:=Hp (Row.below HV9.out hb911)
     have HD11:=Hp (aF hb911 HD9.out)
     have HY11:=Hp (HY9.out.below hb911)
     have HI11:=Hp (aF hb911 HI9.out)
     have HX11:=Hp (show Row Exp.cells 2 w11 oA k.ex from Reads.of_own he11)
     clear he11 hb11 hb911 q2 hw10'))
  have HMX:=Hp (show∃gi:Fl,RfMem w0 k w0.heap.size w5.heap.size w8.heap.size g gi F A6 Rs oA cA cs w11 from⟨⟨g.bl,A8,c8⟩,HB11.out,HR11.out,HD11.out,HI11.out,HG11.out,HY11.out,HGF.out,HGF.out,HV11.out,HX11.out,HK11.out,HC11.out⟩)
  obtain⟨gi,hMI⟩:=HMX.out
  have HMI:=Hp hMI
  clear hMI HMX
  go_loopw [14] (fun i wr=>∃j:Nat,j<=2/\i=.int .i64 j/\RfMem w0 k w0.heap.size w5.heap.size w8.heap.size g gi F A6 Rs oA cA cs wr) (fun i _=>2 -(intOf i).toNat)
  case atStart=>exact⟨0,by omega,rfl,HMI.out⟩
  case round=>
   obtain⟨j,hj,rfl,hM⟩:=hrel
   by_cases hlt:j<2
   ·have hlt':(j:Int)<2:=by omega
    obtain⟨w20,rfl⟩:=Nm wr
    have HM20:=Hp hM
    have HB20:=Hp (Below.refl w20.heap.size w20)
    have HLT:=Hp hlt
    clear hM hlt hj
    have cA:=Hp (uG gi ⟨#[109,111,114,101]⟩ w20 HM20.out.io (by decide))
    have d0:=J4 HM20.out.ib
    go_wp2_with fail
    refine(cA.out).mono ?_;rintro e w21 ⟨hb21,x,dA,dc,D,rfl,hrx,hd,hD⟩
    have HM21:=Hp (HM20.out.below hb21)
    have HB21:=Hp (HB20.out.trans (hb21.mono HB20.out.size))
    have HDL:=Hp (show D.length<=100 by
     have h1:=appDs_len HJ.out.load (bytesOf ⟨#[109,111,114,101]⟩)
     rw[<-HM20.out.ie,<-hD]at h1
     exact Nat.le_trans h1 (by decide))
    have HX21:=Hp (fl_spoil hrx (Nat.le_refl _))
    have HXL:=Hp (show x.bl.length<=32 by rw[hrx.is];exact Nat.le_trans (app_len _ _) (by rw[HM20.out.ie];exact HF32.out))
    have HE21:=Hp (show ES w21 dA D from⟨mZ.row hd,Nat.le_trans HDL.out (by decide)⟩)
    have HW21:=Hp (d_spoil hd (Nat.le_refl _))
    clear hrx hd hD hb21 cA d0
    obtain⟨w22,hw22⟩:=Nm (w21.alloc (.cells #[.slice x.a x.bl.length x.c] 29))
    have hb22:Below w21.heap.size w21 w22:=hw22▸(Below.refl _ _).alloc (Nat.le_refl _) _
    have HM22:=Hp (HM21.out.below hb22)
    have HB22:=Hp (HB21.out.trans (hb22.mono HB21.out.size))
    have HX22:=Hp (HX21.out.below hb22)
    have HE22:=Hp (HE21.out.below hb22)
    have HW22:=Hp (HW21.out.below hb22)
    have HP22:=Hp (show w22.heap[w21.heap.size]? =some (.cells #[.slice x.a x.bl.length x.c] 29 (0,0)) by rw[hw22];exact heap_alloc_new w21 _)
    have HSZ22:=Hp (show w22.heap.size=w21.heap.size+1 by rw[hw22];simp)
    have hw22':=hw22.symm
    clear hw22 hb22
    have cO:=wJ gi w22 HM22.out.io
    rw[HM20.out.ie,HO1.out,HO2.out]at cO
    have CO:=Hp cO
    have d0:=J4 HM22.out.ib
    clear cO
    go_wp2_with fail
    refine(CO.out).mono ?_;rintro e w23 ⟨hb23,uA,uc,Ro,rfl,ho,hRo⟩
    subst Ro
    have HM23:=Hp (HM22.out.below hb23)
    have HB23:=Hp (HB22.out.trans (hb23.mono HB22.out.size))
    have HX23:=Hp (HX22.out.below hb23)
    have HE23:=Hp (HE22.out.below hb23)
    have HW23:=Hp (HW22.out.below hb23)
    have HP23:=Hp (aF hb23 HP22.out)
    have HU23:=Hp (t_rowR ho)
    have HV23:=Hp (t_spoil ho HB22.out.size)
    clear ho hb23 CO d0
    have cP:=Hp (zP k gi cA cs cc w23 HM23.out.krn HM23.out.io HM23.out.cms)
    obtain⟨r0,r1,r2⟩:=qL HM23.out.kr
    have d0:=J4 HM23.out.ib
    go_wp2_with fail
    refine(cP.out).mono ?_;rintro e w24 ⟨⟨y,eA,ec,rfl,hry,_⟩,hb24⟩
    have HM24:=Hp (HM23.out.below hb24)
    have HB24:=Hp (HB23.out.trans (hb24.mono HB23.out.size))
    have HX24:=Hp (HX23.out.below hb24)
    have HE24:=Hp (HE23.out.below hb24)
    have HW24:=Hp (HW23.out.below hb24)
    have HP24:=Hp (aF hb24 HP23.out)
    have HU24:=Hp (Row.below HU23.out hb24)
    have HV24:=Hp (HV23.out.below hb24)
    have HY24:=Hp (fl_spoil hry HB23.out.size)
    have HYL:=Hp (show y.bl.length<=32 by rw[hry.is];exact Nat.le_trans (playR_length _ _ _) (by rw[HM20.out.ie];exact HF32.out))
    clear hry hb24 cP r0 r1 r2 d0
    obtain⟨w25,hw25⟩:=Nm (w24.alloc (.cells #[.slice y.a y.bl.length y.c] 29))
    have hb25:Below w24.heap.size w24 w25:=hw25▸(Below.refl _ _).alloc (Nat.le_refl _) _
    have hnePQ:=Hp (Nat.ne_of_lt (Array.getElem?_eq_some_iff.1 HP24.out).1)
    have HM25:=Hp (HM24.out.below hb25)
    have HB25:=Hp (HB24.out.trans (hb25.mono HB24.out.size))
    have HX25:=Hp (HX24.out.below hb25)
    have HE25:=Hp (HE24.out.below hb25)
    have HW25:=Hp (HW24.out.below hb25)
    have HP25:=Hp (aF hb25 HP24.out)
    have HU25:=Hp (Row.below HU24.out hb25)
    have HV25:=Hp (HV24.out.below hb25)
    have HY25:=Hp (HY24.out.below hb25)
    have HQ25:=Hp (show w25.heap[w24.heap.size]? =some (.cells #[.slice y.a y.bl.length y.c] 29 (0,0)) by rw[hw25];exact heap_alloc_new w24 _)
    have HSZ25:=Hp (show w25.heap.size=w24.heap.size+1 by rw[hw25];simp)
    have hw25':=hw25.symm
    clear hw25 hb25
    have cR:=Hp (rG k gi w25 HM25.out.krn HM25.out.io)
    obtain⟨r0,r1,r2⟩:=qL HM25.out.kr
    have d0:=J4 HM25.out.ib
    go_wp2_with fail
    refine(cR.out).mono ?_;intro e w26 hpost
    obtain⟨⟨k1,A1,l1,c1,rfl,hg,hth⟩,hb26⟩:=rgres_own hpost (fun e=>re_rg e _)
    have HM26:=Hp (HM25.out.below hb26)
    have HB26:=Hp (HB25.out.trans (hb26.mono HB25.out.size))
    have HX26:=Hp (HX25.out.below hb26)
    have HE26:=Hp (HE25.out.below hb26)
    have HW26:=Hp (HW25.out.below hb26)
    have HP26:=Hp (aF hb26 HP25.out)
    have HU26:=Hp (Row.below HU25.out hb26)
    have HV26:=Hp (HV25.out.below hb26)
    have HY26:=Hp (HY25.out.below hb26)
    have HQ26:=Hp (aF hb26 HQ25.out)
    have HH26:=Hp (hg.le HB25.out.size)
    have HTH:=Hp (rg_lens hth)
    clear hpost hg hth hb26 cR r0 r1 r2 d0
    obtain⟨w27,hw27⟩:=Nm (w26.alloc (.cells #[.int .i64 k1.major,.int .i64 k1.minor,.slice k1.eA k1.ex.length k1.eC,.slice A1 l1.length c1] 39))
    have hb27:Below w26.heap.size w26 w27:=hw27▸(Below.refl _ _).alloc (Nat.le_refl _) _
    have hnePG:=Hp (Nat.ne_of_lt (Array.getElem?_eq_some_iff.1 HP26.out).1)
    have hneQG:=Hp (Nat.ne_of_lt (Array.getElem?_eq_some_iff.1 HQ26.out).1)
    have HM27:=Hp (HM26.out.below hb27)
    have HB27:=Hp (HB26.out.trans (hb27.mono HB26.out.size))
    have HX27:=Hp (HX26.out.below hb27)
    have HE27:=Hp (HE26.out.below hb27)
    have HW27:=Hp (HW26.out.below hb27)
    have HP27:=Hp (aF hb27 HP26.out)
    have HU27:=Hp (Row.below HU26.out hb27)
    have HV27:=Hp (HV26.out.below hb27)
    have HY27:=Hp (HY26.out.below hb27)
    have HQ27:=Hp (aF hb27 HQ26.out)
    have HH27:=Hp (HH26.out.below hb27)
    have HG27:=Hp (show w27.heap[w26.heap.size]? =some (.cells #[.int .i64 k1.major,.int .i64 k1.minor,.slice k1.eA k1.ex.length k1.eC,.slice A1 l1.length c1] 39 (0,0)) by rw[hw27];exact heap_alloc_new w26 _)
    have HSZ27:=Hp (show w27.heap.size=w26.heap.size+1 by rw[hw27];simp)
    have hw27':=hw27.symm
    clear hw27 hb27
    have cD:=Hp (Do_any gi dA dc D w27 HM27.out.io HE27.out)
    have d0:=J4 HM27.out.ib
    go_wp2_with fail
    refine(cD.out).mono ?_;rintro e w28 ⟨hb28,z,rfl,hrz⟩
    have HM28:=Hp (HM27.out.below hb28)
    have HB28:=Hp (HB27.out.trans (hb28.mono HB27.out.size))
    have HX28:=Hp (HX27.out.below hb28)
    have HE28:=Hp (HE27.out.below hb28)
    have HW28:=Hp (HW27.out.below hb28)
    have HP28:=Hp (aF hb28 HP27.out)
    have HU28:=Hp (Row.below HU27.out hb28)
    have HV28:=Hp (HV27.out.below hb28)
    have HY28:=Hp (HY27.out.below hb28)
    have HQ28:=Hp (aF hb28 HQ27.out)
    have HH28:=Hp (HH27.out.below hb28)
    have HG28:=Hp (aF hb28 HG27.out)
    have HZ28:=Hp (fl_spoil hrz HB27.out.size)
    have HZL:=Hp (show z.bl.length<=32 by rw[hrz.is];exact Nat.le_trans (do_len _ _ _) (by rw[HM20.out.ie];exact HF32.out))
    clear hrz hb28 cD d0
    obtain⟨w29,hw29⟩:=Nm (w28.alloc (.cells #[.slice z.a z.bl.length z.c] 29))
    have hb29:Below w28.heap.size w28 w29:=hw29▸(Below.refl _ _).alloc (Nat.le_refl _) _
    have hnePS:=Hp (Nat.ne_of_lt (Array.getElem?_eq_some_iff.1 HP28.out).1)
    have hneQS:=Hp (Nat.ne_of_lt (Array.getElem?_eq_some_iff.1 HQ28.out).1)
    have hneGS:=Hp (Nat.ne_of_lt (Array.getElem?_eq_some_iff.1 HG28.out).1)
    have HM29:=Hp (HM28.out.below hb29)
    have HB29:=Hp (HB28.out.trans (hb29.mono HB28.out.size))
    have HX29:=Hp (HX28.out.below hb29)
    have HW29:=Hp (HW28.out.below hb29)
    have HP29:=Hp (aF hb29 HP28.out)
    have HU29:=Hp (Row.below HU28.out hb29)
    have HV29:=Hp (HV28.out.below hb29)
    have HY29:=Hp (HY28.out.below hb29)
    have HQ29:=Hp (aF hb29 HQ28.out)
    have HH29:=Hp (HH28.out.below hb29)
    have HG29:=Hp (aF hb29 HG28.out)
    have HZ29:=Hp (HZ28.out.below hb29)
    have HS29:=Hp (show w29.heap[w28.heap.size]? =some (.cells #[.slice z.a z.bl.length z.c] 29 (0,0)) by rw[hw29];exact heap_alloc_new w28 _)
    have HSZ29:=Hp (show w29.heap.size=w28.heap.size+1 by rw[hw29];simp)
    have hw29':=hw29.symm
    clear hw29 hb29
    have cT:=Hp (Torn_any gi 2 0 0 ⟨#[97]⟩ w29 HM29.out.io (by decide))
    have d0:=J4 HM29.out.ib
    go_wp2_with fail
    refine(cT.out).mono ?_;rintro e w30 ⟨hb30,t,rfl,hrt⟩
    have HM30:=Hp (HM29.out.below hb30)
    have HB30:=Hp (HB29.out.trans (hb30.mono HB29.out.size))
    have HX30:=Hp (HX29.out.below hb30)
    have HW30:=Hp (HW29.out.below hb30)
    have HP30:=Hp (aF hb30 HP29.out)
    have HU30:=Hp (Row.below HU29.out hb30)
    have HV30:=Hp (HV29.out.below hb30)
    have HY30:=Hp (HY29.out.below hb30)
    have HQ30:=Hp (aF hb30 HQ29.out)
    have HH30:=Hp (HH29.out.below hb30)
    have HG30:=Hp (aF hb30 HG29.out)
    have HZ30:=Hp (HZ29.out.below hb30)
    have HS30:=Hp (aF hb30 HS29.out)
    have HT30:=Hp (fl_spoil hrt HB29.out.size)
    have HTL:=Hp (show t.bl.length<=32 by rw[hrt.is];exact Nat.le_trans (torn_len _ _ _ _) (by rw[HM20.out.ie];exact HF32.out))
    clear hrt hb30 cT d0
    obtain⟨w31,hw31⟩:=Nm (w30.alloc (.cells #[.slice t.a t.bl.length t.c] 29))
    have hb31:Below w30.heap.size w30 w31:=hw31▸(Below.refl _ _).alloc (Nat.le_refl _) _
    have hnePJ:=Hp (Nat.ne_of_lt (Array.getElem?_eq_some_iff.1 HP30.out).1)
    have hneQJ:=Hp (Nat.ne_of_lt (Array.getElem?_eq_some_iff.1 HQ30.out).1)
    have hneGJ:=Hp (Nat.ne_of_lt (Array.getElem?_eq_some_iff.1 HG30.out).1)
    have hneSJ:=Hp (Nat.ne_of_lt (Array.getElem?_eq_some_iff.1 HS30.out).1)
    have HM31:=Hp (HM30.out.below hb31)
    have HB31:=Hp (HB30.out.trans (hb31.mono HB30.out.size))
    have HX31:=Hp (HX30.out.below hb31)
    have HW31:=Hp (HW30.out.below hb31)
    have HP31:=Hp (aF hb31 HP30.out)
    have HU31:=Hp (Row.below HU30.out hb31)
    have HV31:=Hp (HV30.out.below hb31)
    have HY31:=Hp (HY30.out.below hb31)
    have HQ31:=Hp (aF hb31 HQ30.out)
    have HH31:=Hp (HH30.out.below hb31)
    have HG31:=Hp (aF hb31 HG30.out)
    have HZ31:=Hp (HZ30.out.below hb31)
    have HS31:=Hp (aF hb31 HS30.out)
    have HT31:=Hp (HT30.out.below hb31)
    have HJ31:=Hp (show w31.heap[w30.heap.size]? =some (.cells #[.slice t.a t.bl.length t.c] 29 (0,0)) by rw[hw31];exact heap_alloc_new w30 _)
    have HSZ31:=Hp (show w31.heap.size=w30.heap.size+1 by rw[hw31];simp)
    have hw31':=hw31.symm
    clear hw31 hb31
    have f8:=Hp (pX uA A6 uc c6 Rs Rs w31 HU31.out HM31.out.all (by have:=HRS.out;unfold big;omega) (by have:=HRS.out;unfold big;omega))
    rw[decide_eq_true rfl]at f8
    go_wp2_with fail
    refine(f8.out).mono ?_;rintro e w32 ⟨rfl,hb32⟩
    have HM32:=Hp (HM31.out.below hb32)
    have HB32:=Hp (HB31.out.trans (hb32.mono HB31.out.size))
    have HX32:=Hp (HX31.out.below hb32)
    have HW32:=Hp (HW31.out.below hb32)
    have HP32:=Hp (aF hb32 HP31.out)
    have HV32:=Hp (HV31.out.below hb32)
    have HY32:=Hp (HY31.out.below hb32)
    have HQ32:=Hp (aF hb32 HQ31.out)
    have HH32:=Hp (HH31.out.below hb32)
    have HG32:=Hp (aF hb32 HG31.out)
    have HZ32:=Hp (HZ31.out.below hb32)
    have HS32:=Hp (aF hb32 HS31.out)
    have HT32:=Hp (HT31.out.below hb32)
    have HJ32:=Hp (aF hb32 HJ31.out)
    clear hb32 f8
    have f9:=SameFlash_any gi g w32 HM32.out.io HM32.out.fo
    rw[decide_eq_true (HM32.out.ie.trans HM32.out.fe.symm)]at f9
    have F9:=Hp f9
    have d0:=J4 HM32.out.ib
    have d1:=J4 HM32.out.fb
    clear f9
    go_wp2_with fail
    refine(F9.out).mono ?_;rintro e w33 ⟨rfl,hb33⟩
    have HM33:=Hp (HM32.out.below hb33)
    have HB33:=Hp (HB32.out.trans (hb33.mono HB32.out.size))
    have HX33:=Hp (HX32.out.below hb33)
    have HW33:=Hp (HW32.out.below hb33)
    have HP33:=Hp (aF hb33 HP32.out)
    have HV33:=Hp (HV32.out.below hb33)
    have HY33:=Hp (HY32.out.below hb33)
    have HQ33:=Hp (aF hb33 HQ32.out)
    have HH33:=Hp (HH32.out.below hb33)
    have HG33:=Hp (aF hb33 HG32.out)
    have HZ33:=Hp (HZ32.out.below hb33)
    have HS33:=Hp (aF hb33 HS32.out)
    have HT33:=Hp (HT32.out.below hb33)
    have HJ33:=Hp (aF hb33 HJ32.out)
    clear hb33 F9 d0 d1
    have f10:=Hp (mE oA k.eA oC k.eC k.ex w33 HM33.out.own HM33.out.krn.1.1 HKX.out.2)
    obtain⟨_,_,r2⟩:=qL HM33.out.kr
    go_wp2_with fail
    refine(f10.out).mono ?_;rintro e w34 ⟨rfl,hb34⟩
    have HM34:=Hp (HM33.out.below hb34)
    have HB34:=Hp (HB33.out.trans (hb34.mono HB33.out.size))
    have HX34:=Hp (HX33.out.below hb34)
    have HW34:=Hp (HW33.out.below hb34)
    have HP34:=Hp (aF hb34 HP33.out)
    have HV34:=Hp (HV33.out.below hb34)
    have HY34:=Hp (HY33.out.below hb34)
    have HQ34:=Hp (aF hb34 HQ33.out)
    have HH34:=Hp (HH33.out.below hb34)
    have HG34:=Hp (aF hb34 HG33.out)
    have HZ34:=Hp (HZ33.out.below hb34)
    have HS34:=Hp (aF hb34 HS33.out)
    have HT34:=Hp (HT33.out.below hb34)
    have HJ34:=Hp (aF hb34 HJ33.out)
    clear hb34 f10 r2
    have d0:=J4 HP34.out
    have d1:=J4 HQ34.out
    have d2:=J4 HS34.out
    have d3:=J4 HJ34.out
    obtain⟨w35,hw35⟩:=Nm (w34.alloc (.cells #[.slice x.a x.bl.length x.c,.slice y.a y.bl.length y.c,.slice z.a z.bl.length z.c,.slice t.a t.bl.length t.c] 29))
    have hb35:Below w34.heap.size w34 w35:=hw35▸(Below.refl _ _).alloc (Nat.le_refl _) _
    have hnePA:=Hp (Nat.ne_of_lt (Array.getElem?_eq_some_iff.1 HP34.out).1)
    have hneQA:=Hp (Nat.ne_of_lt (Array.getElem?_eq_some_iff.1 HQ34.out).1)
    have hneGA:=Hp (Nat.ne_of_lt (Array.getElem?_eq_some_iff.1 HG34.out).1)
    have hneSA:=Hp (Nat.ne_of_lt (Array.getElem?_eq_some_iff.1 HS34.out).1)
    have hneJA:=Hp (Nat.ne_of_lt (Array.getElem?_eq_some_iff.1 HJ34.out).1)
    have HM35:=Hp (HM34.out.below hb35)
    have HB35:=Hp (HB34.out.trans (hb35.mono HB34.out.size))
    have HX35:=Hp (HX34.out.below hb35)
    have HW35:=Hp (HW34.out.below hb35)
    have HP35:=Hp (aF hb35 HP34.out)
    have HV35:=Hp (HV34.out.below hb35)
    have HY35:=Hp (HY34.out.below hb35)
    have HQ35:=Hp (aF hb35 HQ34.out)
    have HH35:=Hp (HH34.out.below hb35)
    have HG35:=Hp (aF hb35 HG34.out)
    have HZ35:=Hp (HZ34.out.below hb35)
    have HS35:=Hp (aF hb35 HS34.out)
    have HT35:=Hp (HT34.out.below hb35)
    have HJ35:=Hp (aF hb35 HJ34.out)
    have HA35:=Hp (show w35.heap[w34.heap.size]? =some (.cells #[.slice x.a x.bl.length x.c,.slice y.a y.bl.length y.c,.slice z.a z.bl.length z.c,.slice t.a t.bl.length t.c] 29 (0,0)) by rw[hw35];exact heap_alloc_new w34 _)
    have HSZ35:=Hp (show w35.heap.size=w34.heap.size+1 by rw[hw35];simp)
    have hw35':=hw35.symm
    clear hw35 hb35
    have HS0:=Hp (SpX.refl (W:=w35) (Sp.refl w20.heap.size w35))
    have HF:=Hp (show∀q,q<4->∃f:Fl,w35.cell? ⟨w34.heap.size,q,none⟩=some (.slice f.a f.bl.length f.c)/\StrAt w35 w20.heap.size f.a f.bl.length 1 0/\f.bl.length<=32 from fun q hq=>by
     match q,hq with
     |0,_=>exact⟨x,heap_cell HA35.out 0,HX35.out,HXL.out⟩
     |1,_=>exact⟨y,heap_cell HA35.out 1,HY35.out,HYL.out⟩
     |2,_=>exact⟨z,heap_cell HA35.out 2,HZ35.out,HZL.out⟩
     |3,_=>exact⟨t,heap_cell HA35.out 3,HT35.out,HTL.out⟩)
    go_wp2_with fail
    clear d0 d1 d2 d3
    go_loopw [30] (fun i w2=>∃q:Nat,q<=4/\i=.int .i64 q/\SpX w20.heap.size w35 w35 w2) (fun i _=>4 -(intOf i).toNat)
    case atStart=>exact⟨0,by omega,rfl,HS0.out⟩
    case round=>
     obtain⟨q,hq,rfl,hS⟩:=hrel
     have HS:=Hp hS
     by_cases hlt:q<4
     ·have hlt':(q:Int)<4:=by omega
      obtain⟨f,hc,hstr,hfl⟩:=HF.out q hlt
      have HC:=Hp hc
      have HSTR:=Hp hstr
      have HFL:=Hp hfl
      have HQ4:=Hp hlt
      clear hS hc hstr hfl hlt
      go_wp2_with fail
      go_loopw [31] (fun i w2=>∃p:Nat,p<=f.bl.length/\i=.int .i64 p/\SpX w20.heap.size w35 w35 w2) (fun i _=>f.bl.length -(intOf i).toNat)
      case atStart=>exact⟨0,by omega,rfl,HS.out⟩
      case round=>
       obtain⟨p,hp,rfl,hT⟩:=hrel
       have HT:=Hp hT
       have x0:=hT.sp.slc HC.out
       have hfl:=HFL.out
       by_cases hlt2:p<f.bl.length
       ·have hlt2':(p:Int)<f.bl.length:=by omega
        obtain⟨g1,s1,hA,c0,f0,hb,hg⟩:=HSTR.out.now hT.sp hlt2
        rw[hA]at x0
        simp only[Nat.mul_one,Nat.add_zero]at c0 f0
        have HN:=Hp (hT.store c0 (Alk.str s1 ⟨#[63]⟩) hb hg)
        clear hT hA hb hg
        go_wp2_with fail
        go_roundw
        case rel=>exact⟨p+1,hlt2,by go_num,HN.out⟩
        case measure=>(simp[intOf];try omega)
       ·clear hT
        go_wp2_with fail
        go_roundw
        case rel=>exact⟨q+1,HQ4.out,by go_num,HT.out⟩
        case measure=>(simp[intOf];try omega)
     ·clear hS
      go_wp2_with fail
      go_loopw [32] (fun i w2=>∃p:Nat,p<=Rs.length/\i=.int .i64 p/\SpX w20.heap.size w35 w35 w2) (fun i _=>Rs.length -(intOf i).toNat)
      case atStart=>exact⟨0,by omega,rfl,HS.out⟩
      case round=>
       obtain⟨p,hp,rfl,hT⟩:=hrel
       have HS:=Hp hT
       have hdl:=HRS.out
       by_cases hlt:p<Rs.length
       ·have hlt':(p:Int)<Rs.length:=by omega
        obtain⟨g1,s1,hA,c0,f0,hb,hg⟩:=HV35.out.now hT.sp hlt
        subst hA
        simp only[Nat.mul_one,Nat.add_zero]at c0 f0
        have HN:=Hp (hT.store c0 (Alk.str s1 ⟨#[63]⟩) hb hg)
        clear hT hb hg
        go_wp2_with fail
        go_roundw
        case rel=>exact⟨p+1,hlt,by go_num,HN.out⟩
        case measure=>(simp[intOf];try omega)
       ·clear hT hdl
        go_wp2_with fail
        go_loopw [33] (fun i w2=>∃p:Nat,p<=D.length/\i=.int .i64 p/\SpX w20.heap.size w35 w35 w2) (fun i _=>D.length -(intOf i).toNat)
        case atStart=>exact⟨0,by omega,rfl,HS.out⟩
        case round=>
         obtain⟨p,hp,rfl,hT⟩:=hrel
         have HT:=Hp hT
         have hdl:=HDL.out
         by_cases hlt:p<D.length
         ·have hlt':(p:Int)<D.length:=by omega
          obtain⟨g1,s1,hA,c0,f0,hb,hg⟩:=HW35.out.now hT.sp hlt
          subst hA
          rw[Nat.add_zero]at c0 f0
          have HN:=Hp (hT.store c0 (Alk.int .i64 s1 (-7)) hb hg)
          clear hT hb hg
          go_wp2_with fail
          go_roundw
          case rel=>exact⟨p+1,hlt,by go_num,HN.out⟩
          case measure=>(simp[intOf];try omega)
         ·obtain⟨a,d,g0,g1,g2,g3⟩:=rg_spoilt hT.sp HG35.out
          have cS:=Hp (show Calls Tryz.prog 34 #[.agg #[.int .i64 a,.int .i64 d,.slice k1.eA k1.ex.length k1.eC,.slice A1 l1.length c1]] wr fun e w'=>(∃u,e=.returned u)/\SpX w20.heap.size w35 wr w' from
           spoilRegistry_any ⟨a,d,k1.ex,k1.eA,k1.eC⟩ A1 l1 c1 w35 w20.heap.size ⟨HH35.out.ex,HH35.out.mods⟩ wr hT.sp HB35.out.size HTH.out.1 HTH.out.2.1 HTH.out.2.2)
          clear hT hdl
          go_wp2_with fail
          refine(cS.out).mono ?_;rintro e wE ⟨⟨u,rfl⟩,hS2⟩
          have HEND:=Hp (HM20.out.below (HB35.out.trans hS2.sp.bel))
          clear hS2
          go_wp2_with fail
          go_roundw
          case rel=>exact⟨j+1,HLT.out,by go_num,HEND.out⟩
          case measure=>(simp[intOf];try omega)
   ·have HMB:=Hp hM.bel
    clear hM hj
    go_wp2_with fail
    go_ret
    exact⟨rfl,HMB.out⟩
 ·have f1:=Hp (yQ n rA rl rc w4 t)
  clear t
  refine(f1.out).mono ?_;rintro e w5 ⟨rfl,hb5⟩
  have HB5:=Hp (HB4.out.trans (hb5.mono HB4.out.size))
  clear hb5
  go_wp2_with fail
  go_ret
  exact⟨by simp,HB5.out.alloc HB5.out.size _⟩
theorem restFlashes_closed :joinedFacts Tryz.prog 4 Tryz.f4 Rows.restFlashesSpec Rows.restFlashesRow=true:=by
 unfold joinedFacts
 simp only[Bool.and_eq_true]
 and_intros
 ·as_aux_lemma=>kernel_rfl
 ·exact Tryz.laidOut
 ·exact Tryz.Sa
 ·as_aux_lemma=>kernel_rfl
 ·as_aux_lemma=>kernel_rfl
 ·as_aux_lemma=>kernel_rfl
 ·exact Tryz.UF
 ·as_aux_lemma=>kernel_rfl
 ·exact Tryz.SS
 ·as_aux_lemma=>kernel_rfl
 ·as_aux_lemma=>kernel_rfl
 ·as_aux_lemma=>kernel_rfl
 ·as_aux_lemma=>kernel_rfl
 ·as_aux_lemma=>kernel_rfl
 ·as_aux_lemma=>kernel_rfl
 ·as_aux_lemma=>kernel_rfl
 ·as_aux_lemma=>kernel_rfl
 ·as_aux_lemma=>kernel_rfl
 ·as_aux_lemma=>kernel_rfl
 ·as_aux_lemma=>kernel_rfl
 ·as_aux_lemma=>kernel_rfl
 ·as_aux_lemma=>kernel_rfl
 ·exact Tryz.Sc
 ·as_aux_lemma=>kernel_rfl
 ·exact Tryz.jD
 ·exact Tryz.kY
 ·exact Tryz.rW
 ·exact Tryz.xI
 ·as_aux_lemma=>kernel_rfl
 ·as_aux_lemma=>kernel_rfl
 ·as_aux_lemma=>kernel_rfl
 ·as_aux_lemma=>kernel_rfl
theorem restFlashes_lifted (os:Os) (started:os.Started) (H:Type) (enc:TypeId×Value->H):
  ReturnsInHanded {} Tryz.checked os 4 .any (Rows.restFlashesSpec.pre6 enc Tryz.prog Tryz.f4 Rows.restFlashesRow.domain false) (Rows.restFlashesSpec.post enc Tryz.prog Tryz.f4 false true false false):=by
 refine returnsInHanded_of_change_sized (C:=Tryz.checked) Tryz.own started (by kernel_rfl) Tryz.func4
  (ChangeSpec.witness6 (enc:=enc) (C:=Tryz.checked) false ⟨#[],#[.agg #[.int .i64 0,.int .i64 0,.slice none 0 0],.int .i64 0,.slice none 0 0,.slice none 0 0],[]⟩ 8 (by kernel_rfl) (by kernel_rfl) (by kernel_rfl) (by kernel_rfl)) ?_
 intro W base args ds gs before hval0 hW hcnd hsz0 _
 have hval:∀(j:Nat) t v,Tryz.f4.params[j]? =some t->args[j]? =some v->Value.okWide Tryz.prog W .any base t v:=hval0
 have hsz:(DataW.weightsEach Tryz.prog (Tryz.f4.params.toList++Rows.restFlashesSpec.plain.varTypes Tryz.prog) (ds++gs)).all (· <=reachBytes)=true:=hsz0
 have hW':=hW
 obtain⟨p,q,hA0,hV,rfl,hfz,hnd⟩:=hW
 have hA:DataW.TrodAll enc Tryz.prog W 0 (fun _=>true) true Tryz.f4.params.toList args.toList ds p:=hA0
 rw[Tryz.params4]at hA hval hsz
 obtain⟨v0,vs0,d0,ds0,p0,q0,hargs,rfl,rfl,h0,r0⟩:=trodAll_cons hA
 obtain⟨v1,vs1,d1,ds1,p1,q1,rfl,rfl,rfl,h1,r1⟩:=trodAll_cons r0
 obtain⟨v2,vs2,d2,ds2,p2,q2,rfl,rfl,rfl,h2,r2⟩:=trodAll_cons r1
 obtain⟨v3,vs3,d3,ds3,p3,q3,rfl,rfl,rfl,h3,r3⟩:=trodAll_cons r2
 obtain⟨rfl,rfl,rfl⟩:=trodAll_nil r3
 obtain rfl:args=#[v0,v1,v2,v3]:=by cases args;simp_all
 obtain⟨rfl,rfl⟩:=trodVars_none hV
 have ft0:=fF hsz (j:=0) rfl rfl
 obtain⟨k,rfl,ok0⟩:=nO (hval 0 24 v0 rfl rfl) h0 ft0
 obtain⟨n,rfl,rfl,rfl,w1⟩:=open_int Tryz.underlying3 (hval 1 3 v1 rfl rfl) h1
 have ft2:=fF hsz (j:=2) rfl rfl
 obtain⟨rA,r,rc,rfl,ok2⟩:=Ab (hval 2 27 v2 rfl rfl) h2 ft2
 have ft3:=fF hsz (j:=3) rfl rfl
 obtain⟨lA,l,lc,rfl,ok3⟩:=UD (hval 3 25 v3 rfl rfl) h3 ft3
 refine(RestFlashes_any k n rA r rc lA l lc W ok0 (kernel_fit h0 ft0) ok2 ok3).mono fun e W' ⟨he,hb⟩=>?_
 subst he
 exact⟨_,rfl,nZ Tryz.laidOut hW' rfl (by decide+kernel) rfl Tryz.underlying4 rfl rfl rfl hb⟩
theorem restFlashes_holds :Rows.RestFlashesSaid:=
 OpenClaim.holds_of_wide 4 Tryz.f4 rfl rfl rfl rfl rfl rfl rfl ⟨rfl,rfl,rfl,rfl,rfl⟩ rfl rfl rfl rfl rfl (by kernel_rfl) Tryz.func4 restFlashes_closed
  (of_decide_eq_true (by kernel_rfl)) (by unfold Func.isWrapper;first|(rw[if_pos (by decide+kernel)];kernel_rfl)|(rw[if_neg (by decide+kernel)];exact⟨rfl,rfl⟩))
  (fun os started H enc _=>restFlashes_lifted os started H enc)
#print axioms restFlashes_holds
end Go.Proofs.YtjiedaialianmaaGreat
