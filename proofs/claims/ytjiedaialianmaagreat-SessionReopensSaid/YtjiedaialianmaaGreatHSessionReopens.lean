import Derived.Test.YtjiedaialianmaaGreatA25
import Derived.Test.YtjiedaialianmaaGreatBLaPaPlRe01
import Derived.Test.YtjiedaialianmaaGreatBPlRe01
import Derived.Test.YtjiedaialianmaaGreatBPlRe02
import Derived.Test.YtjiedaialianmaaGreatBReRu01
/- SessionReopens: Reopen answers just what the document says of what is written on the flash, errors too. No condition. -/
open Go
set_option maxRecDepth 100000
set_option maxHeartbeats 8000000
namespace Go.Proofs.YtjiedaialianmaaGreat
open Go.ChangeShapes Go.WideShapes Go.ChangeAt Go.RowKit Go.WideMaps Go.WideElems
open Go.ChangeMaps (setBlock shut_map_nil open_string shut_string keptBut_setBlock frozen?_setBlock heap_setBlock_same)
theorem uH (k:Krn)(n:Int)(rA:Option Addr)(rl:List ByteArray)(rc:Nat)(w:World)(hk:k.ok w)(h:jK w rA rl/\rl.length<=rc):
  Calls Tryz.prog 10 #[k.v,.int .i64 n,.slice rA rl.length rc] w fun e w'=>e=.returned (.bool true)/\Below w.heap.size w w':=by
 show Calls Tryz.prog 10 #[.agg #[.int .i64 k.major,.int .i64 k.minor,.slice k.eA k.ex.length k.eC],.int .i64 n,.slice rA rl.length rc] w _
 have HBw:=Hp (GZ4 w.heap.size w)
 obtain⟨w0,e0⟩:=Nm w
 have HB0:=Hp (show Below w.heap.size w w0 from e0▸GZ4 _ _)
 have HK0:=Hp (show k.ok w0 from e0▸hk)
 have HT0:=Hp (show jK w0 rA rl from e0▸h.1)
 subst e0
 obtain⟨w1,hw1⟩:=Nm (w0.alloc (.cells #[.int .i64 k.major,.int .i64 k.minor,.slice k.eA k.ex.length k.eC] 24))
 have hb1:Below w0.heap.size w0 w1:=hw1▸ZB
 have HB1:=Hp (HB0.trans (hb1.mono HB0.size))
 have HK1:=Hp (HK0.below hb1)
 have HT1:=Hp (HT0.below hb1)
 have HR1:=Hp (show w1.heap[w0.heap.size]? =some (.cells #[.int .i64 k.major,.int .i64 k.minor,.slice k.eA k.ex.length k.eC] 24 (0,0)) by rw[hw1];exact heap_alloc_new w0 _)
 have HSZ1:=Hp (show w1.heap.size=w0.heap.size+1 by rw[hw1];simp)
 have hw1':=hw1.symm
 clear hw1 hb1
 have hl63:=h.1.len
 unfold big at hl63
 clear hk h
 go_enter Tryz.func10,Tryz.ntmps10
 go_wp2_with fail
 refine(dG _).mono ?_;rintro e w2 ⟨rfl,hb2⟩
 have HB2:=Hp (HB1.trans (hb2.mono HB1.size))
 have HK2:=Hp (HK1.below hb2)
 have HT2:=Hp (HT1.below hb2)
 have HR2:=Hp (aF hb2 HR1)
 clear hb2
 go_wp2_with fail
 refine(jF _).mono ?_;rintro e w3 ⟨rfl,hb3⟩
 have HB3:=Hp (HB2.trans (hb3.mono HB2.size))
 have HK3:=Hp (HK2.below hb3)
 have HT3:=Hp (HT2.below hb3)
 have HR3:=Hp (aF hb3 HR2)
 clear hb3
 go_wp2_with fail
 by_cases t:lD n=0
 ·have f1:=Hp (Ux n rA rl rc w3 HT3.out t)
  clear t
  refine(f1.out).mono ?_;rintro e w4 ⟨⟨g,F,Rs,Ds,k0,j0,v6,rfl,hJ,hF,hV,_⟩,hb4⟩
  have HB4:=Hp (HB3.trans (hb4.mono HB3.size))
  have HK4:=Hp (HK3.below hb4)
  have HT4:=Hp (HT3.below hb4)
  have HR4:=Hp (aF hb4 HR3)
  obtain⟨A6,c6,rfl,hrow6,_⟩:=hV.form
  obtain⟨o1,o2⟩:=hJ.open_
  have hgok:=hF.ok (.inr hJ.ok)
  have hre:S9 k g.bl=bJ k:=by
   unfold S9
   rw[hF.is,o1]
   by_cases q:bJ k=0
   ·rw[if_neg (by omega),q]
   ·rw[if_pos q]
  have hrs:=kW F
  rw[o2]at hrs
  have HG4:=Hp hgok
  have HV4:=Hp (show jK w4 A6 Rs from⟨hrow6,by unfold big;omega,fun s hs=>GY1 (hrs.1 s hs) (by unfold big;omega)⟩)
  have HRE:=Hp hre
  have HO:=Hp (show bQ g.bl=Rs by rw[hF.is,o2])
  clear hJ hF hV hrow6 o1 o2 hgok hre hrs hb4 f1
  obtain⟨w5,hw5⟩:=Nm (w4.alloc (.cells #[.slice g.a g.bl.length g.c] 29))
  have hb5:Below w4.heap.size w4 w5:=hw5▸ZB
  have hneRD:=Hp (Nat.ne_of_lt (ZL HR4.out))
  have HB5:=Hp (HB4.trans (hb5.mono HB4.size))
  have HK5:=Hp (HK4.below hb5)
  have HT5:=Hp (HT4.below hb5)
  have HR5:=Hp (aF hb5 HR4)
  have HG5:=Hp (HG4.below hb5)
  have HV5:=Hp (HV4.below hb5)
  have HD5:=Hp (show w5.heap[w4.heap.size]? =some (.cells #[.slice g.a g.bl.length g.c] 29 (0,0)) by rw[hw5];exact heap_alloc_new w4 _)
  have HSZ5:=Hp (show w5.heap.size=w4.heap.size+1 by rw[hw5];simp)
  have hw5':=hw5.symm
  clear hw5 hb5
  have f2:=Hp (rG k g w5 HK5.out HG5.out)
  rw[HRE.out,HO.out]at f2
  obtain⟨E,hE⟩:=Nm (bJ k)
  have HE:=Hp hE
  rw[<-hE]at f2
  obtain⟨r0,r1,r2⟩:=qL HR5.out
  have d0:=J4 HD5.out
  clear hE
  go_wp2_with fail
  refine(f2.out).mono ?_;rintro e w6 hpost
  obtain⟨⟨k1,A1,l1,c1,rfl,ht,h1,h2⟩,hb6⟩:=Sv hpost (fun e=>oO (HE.symm.trans e) _)
  have HB6:=Hp (HB5.trans (hb6.mono HB5.size))
  have HK6:=Hp (HK5.below hb6)
  have HT6:=Hp (HT5.below hb6)
  have HR6:=Hp (aF hb6 HR5)
  have HG6:=Hp (HG5.below hb6)
  have HV6:=Hp (HV5.below hb6)
  have HD6:=Hp (aF hb6 HD5)
  have HP6:=Hp ht
  have HS1:=Hp h1
  have HS2:=Hp h2
  clear hpost ht h1 h2 hb6 f2 r0 r1 r2 d0
  obtain⟨w7,hw7⟩:=Nm (w6.alloc (.cells #[.int .i64 k1.major,.int .i64 k1.minor,.slice k1.eA k1.ex.length k1.eC,.slice A1 l1.length c1] 39))
  have hb7:Below w6.heap.size w6 w7:=hw7▸ZB
  have hneRQ:=Hp (Nat.ne_of_lt (ZL HR6.out))
  have hneDQ:=Hp (Nat.ne_of_lt (ZL HD6.out))
  have HB7:=Hp (HB6.trans (hb7.mono HB6.size))
  have HK7:=Hp (HK6.below hb7)
  have HT7:=Hp (HT6.below hb7)
  have HR7:=Hp (aF hb7 HR6)
  have HG7:=Hp (HG6.below hb7)
  have HV7:=Hp (HV6.below hb7)
  have HD7:=Hp (aF hb7 HD6)
  have HP7:=Hp (HP6.below hb7)
  have HQ7:=Hp (show w7.heap[w6.heap.size]? =some (.cells #[.int .i64 k1.major,.int .i64 k1.minor,.slice k1.eA k1.ex.length k1.eC,.slice A1 l1.length c1] 39 (0,0)) by rw[hw7];exact heap_alloc_new w6 _)
  have HSZ7:=Hp (show w7.heap.size=w6.heap.size+1 by rw[hw7];simp)
  have hw7':=hw7.symm
  clear hw7 hb7
  have f3:=Hp (iT k w7 HK7.out)
  rw[<-HE.out]at f3
  obtain⟨r0,r1,r2⟩:=qL HR7.out
  go_wp2_with fail
  refine(f3.out).mono ?_;rintro e w8 ⟨rfl,hb8⟩
  have HB8:=Hp (HB7.trans (hb8.mono HB7.size))
  have HK8:=Hp (HK7.below hb8)
  have HT8:=Hp (HT7.below hb8)
  have HR8:=Hp (aF hb8 HR7)
  have HG8:=Hp (HG7.below hb8)
  have HV8:=Hp (HV7.below hb8)
  have HD8:=Hp (aF hb8 HD7)
  have HP8:=Hp (HP7.below hb8)
  have HQ8:=Hp (aF hb8 HQ7)
  clear hb8 f3 r0 r1 r2
  obtain⟨w9,hw9⟩:=Nm (w8.alloc (.cells #[.int .i64 0,.int .i64 0,.slice none 0 0,.slice none 0 0] 39))
  have hb9:Below w8.heap.size w8 w9:=hw9▸ZB
  have hneRX:=Hp (Nat.ne_of_lt (ZL HR8.out))
  have hneDX:=Hp (Nat.ne_of_lt (ZL HD8.out))
  have hneQX:=Hp (Nat.ne_of_lt (ZL HQ8.out))
  have HB9:=Hp (HB8.trans (hb9.mono HB8.size))
  have HK9:=Hp (HK8.below hb9)
  have HT9:=Hp (HT8.below hb9)
  have HR9:=Hp (aF hb9 HR8)
  have HG9:=Hp (HG8.below hb9)
  have HV9:=Hp (HV8.below hb9)
  have HD9:=Hp (aF hb9 HD8)
  have HP9:=Hp (HP8.below hb9)
  have HQ9:=Hp (aF hb9 HQ8)
  have HX9:=Hp (show w9.heap[w8.heap.size]? =some (.cells #[.int .i64 0,.int .i64 0,.slice none 0 0,.slice none 0 0] 39 (0,0)) by rw[hw9];exact heap_alloc_new w8 _)
  have HSZ9:=Hp (show w9.heap.size=w8.heap.size+1 by rw[hw9];simp)
  have hw9':=hw9.symm
  clear hw9 hb9
  have HLEX:=Hp HB8.size
  by_cases t:E=0
  ·have f4:=Hp (wU k A6 Rs c6 w9 HK9.out HV9.out (HE.symm.trans t))
   subst t
   obtain⟨r0,r1,r2⟩:=qL HR9.out
   go_wp2_with fail
   refine(f4.out).mono ?_;rintro e w10 ⟨⟨k2,A2,l2,c2,rfl,ht,hk2,hl2⟩,hb10⟩
   have HB10:=Hp (HB9.trans (hb10.mono HB9.size))
   have HK10:=Hp (HK9.below hb10)
   have HT10:=Hp (HT9.below hb10)
   have HR10:=Hp (aF hb10 HR9)
   have HG10:=Hp (HG9.below hb10)
   have HV10:=Hp (HV9.below hb10)
   have HD10:=Hp (aF hb10 HD9)
   have HP10:=Hp (HP9.below hb10)
   have HQ10:=Hp (aF hb10 HQ9)
   have HX10:=Hp (aF hb10 HX9)
   have HH10:=Hp ht
   have HK2:=Hp (And.intro hk2 hl2)
   clear ht hk2 hl2 hb10 f4 r0 r1 r2
   obtain⟨_,x0,x1,x2,x3,xf0,xf1,xf2,xf3⟩:=aB HX10.out
   obtain⟨_,r0,r1,r2,r3,rf0,rf1,rf2,rf3⟩:=aB HQ10.out
   have hq1:=hneQX.out
   have hq2:=hneQX.symm
   go_wp2_with fail
   obtain⟨hg11,ho11⟩:=gY HX10.out (.int .i64 k2.major) (.int .i64 k2.minor) (.slice k2.eA k2.ex.length k2.eC) (.slice A2 l2.length c2)
   obtain⟨w11,hw11⟩:∃W,W=(((w10.setCell ⟨w8.heap.size,0,none⟩ (.int .i64 k2.major)).setCell ⟨w8.heap.size,1,none⟩ (.int .i64 k2.minor)).setCell ⟨w8.heap.size,2,none⟩ (.slice k2.eA k2.ex.length k2.eC)).setCell ⟨w8.heap.size,3,none⟩ (.slice A2 l2.length c2):=⟨_,rfl⟩
   rw[<-hw11]at hg11 ho11
   rw[<-hw11]
   clear hw11
   have HB11:=Hp (HB10.trans ((ho11.below (GY2 (ZL HX10))).mono HLEX))
   have HR11:=Hp ((ho11.block _ (ZL HR10) (hneRX.out)).trans HR10)
   have HD11:=Hp ((ho11.block _ (ZL HD10) (hneDX.out)).trans HD10)
   have HP11:=Hp (HP10.other ⟨_,_,_,_,_,_,_,_,HX10.out⟩ ho11)
   have HQ11:=Hp ((ho11.block _ (ZL HQ10) (hneQX.out)).trans HQ10)
   have HX11:=Hp (hg11)
   have HH11:=Hp (HH10.other ⟨_,_,_,_,_,_,_,_,HX10.out⟩ ho11)
   clear hg11 ho11
   clear x0 x1 x2 x3 xf0 xf1 xf2 xf3;clear r0 r1 r2 r3 rf0 rf1 rf2 rf3
   clear hq1 hq2
   have q1:=Hp (SE 0 k1 k2 A1 A2 c1 c2 l1 l2 w11 HP11.out.1 HP11.out.2 HH11.out.1 HH11.out.2 (fun _=>⟨(HS1.out (by simp)).1.trans HK2.out.1.symm,(HS1.out (by simp)).2.trans HK2.out.2.symm⟩) (fun e=>absurd rfl e))
   refine(q1.out).mono ?_;rintro e w12 ⟨rfl,hb12⟩
   have HB12:=Hp (HB11.trans (hb12.mono HB11.size))
   have HR12:=Hp (aF hb12 HR11)
   have HD12:=Hp (aF hb12 HD11)
   have HP12:=Hp (HP11.below hb12)
   have HQ12:=Hp (aF hb12 HQ11)
   have HX12:=Hp (aF hb12 HX11)
   have HH12:=Hp (HH11.below hb12)
   go_wp2_with fail
   go_ret
   exact⟨by simp,HB12.out⟩
  ·have t':(E==0)=false:=by simp[t]
   have TF:=Hp t
   clear t
   have q1:=Hp (show Calls Tryz.prog 43 #[rgV k1 A1 l1 c1,.int .i64 E,.int .i64 E,.agg #[.int .i64 0,.int .i64 0,.slice none 0 0,.slice none 0 0]] w9 fun e w'=>e=.returned (.bool true)/\Below w9.heap.size w9 w' from
    SE E k1 Rk A1 none c1 0 l1 [] w9 HP9.out.1 HP9.out.2 (Sg _) ⟨Row.nil,Nat.zero_le _,by simp⟩ (fun e=>absurd e TF.out) (fun e=>HS2.out e))
   obtain⟨_,x0,x1,x2,x3,xf0,xf1,xf2,xf3⟩:=aB HQ9.out
   obtain⟨_,y0,y1,y2,y3,yf0,yf1,yf2,yf3⟩:=aB HX9.out
   go_wp2_with fail
   refine(q1.out).mono ?_;rintro e w12 ⟨rfl,hb12⟩
   have HB12:=Hp (HB9.trans (hb12.mono HB9.size))
   go_wp2_with fail
   go_ret
   exact⟨by simp,HB12.out⟩
 ·have f1:=Hp (yQ n rA rl rc w3 t)
  clear t
  refine(f1.out).mono ?_;rintro e w4 ⟨rfl,hb4⟩
  have HB4:=Hp (HB3.trans (hb4.mono HB3.size))
  clear hb4
  go_wp2_with fail
  go_ret
  exact⟨by simp,HB4.alloc HB4.size _⟩
theorem Ti :joinedFacts Tryz.prog 10 Tryz.f10 Rows.sessionReopensSpec Rows.sessionReopensRow=true:=by
 unfold joinedFacts
 simp only[Bool.and_eq_true]
 and_intros
 ·as_aux_lemma=>kernel_rfl
 ·exact Tryz.laidOut
 ·exact Tryz.Sa
 ·as_aux_lemma=>kernel_rfl
 ·as_aux_lemma=>kernel_rfl
 ·as_aux_lemma=>kernel_rfl
 ·exact Tryz.UF
 ·as_aux_lemma=>kernel_rfl
 ·exact Tryz.SS
 ·as_aux_lemma=>kernel_rfl
 ·as_aux_lemma=>kernel_rfl
 ·as_aux_lemma=>kernel_rfl
 ·as_aux_lemma=>kernel_rfl
 ·as_aux_lemma=>kernel_rfl
 ·as_aux_lemma=>kernel_rfl
 ·as_aux_lemma=>kernel_rfl
 ·as_aux_lemma=>kernel_rfl
 ·as_aux_lemma=>kernel_rfl
 ·as_aux_lemma=>kernel_rfl
 ·as_aux_lemma=>kernel_rfl
 ·as_aux_lemma=>kernel_rfl
 ·as_aux_lemma=>kernel_rfl
 ·exact Tryz.Sc
 ·as_aux_lemma=>kernel_rfl
 ·exact Tryz.jD
 ·exact Tryz.kY
 ·exact Tryz.rW
 ·exact Tryz.xI
 ·as_aux_lemma=>kernel_rfl
 ·as_aux_lemma=>kernel_rfl
 ·as_aux_lemma=>kernel_rfl
 ·as_aux_lemma=>kernel_rfl
theorem Tg (os:Os)(started:os.Started)(H:Type)(enc:TypeId×Value->H):
  ReturnsInHanded {} Tryz.checked os 10 .any (Rows.sessionReopensSpec.pre6 enc Tryz.prog Tryz.f10 Rows.sessionReopensRow.domain false) (Rows.sessionReopensSpec.post enc Tryz.prog Tryz.f10 false true false false):=by
 refine returnsInHanded_of_change_sized (C:=Tryz.checked) Tryz.own started (by kernel_rfl) Tryz.func10
  (ChangeSpec.witness6 (enc:=enc) (C:=Tryz.checked) false ⟨#[],#[.agg #[.int .i64 0,.int .i64 0,.slice none 0 0],.int .i64 0,.slice none 0 0],[]⟩ 8 (by kernel_rfl) (by kernel_rfl) (by kernel_rfl) (by kernel_rfl)) ?_
 intro W base args ds gs before hval0 hW hcnd hsz0 _
 have hval:∀(j:Nat)t v,Tryz.f10.params[j]? =some t->args[j]? =some v->Value.okWide Tryz.prog W .any base t v:=hval0
 have hsz:(DataW.weightsEach Tryz.prog (Tryz.f10.params.toList++Rows.sessionReopensSpec.plain.varTypes Tryz.prog) (ds++gs)).all (· <=reachBytes)=true:=hsz0
 have hW':=hW
 obtain⟨p,q,hA0,hV,rfl,hfz,hnd⟩:=hW
 have hA:DataW.TrodAll enc Tryz.prog W 0 (fun _=>true) true Tryz.f10.params.toList args.toList ds p:=hA0
 rw[Tryz.params10]at hA hval hsz
 obtain⟨v0,vs0,d0,ds0,p0,q0,hargs,rfl,rfl,h0,r0⟩:=trodAll_cons hA
 obtain⟨v1,vs1,d1,ds1,p1,q1,rfl,rfl,rfl,h1,r1⟩:=trodAll_cons r0
 obtain⟨v2,vs2,d2,ds2,p2,q2,rfl,rfl,rfl,h2,r2⟩:=trodAll_cons r1
 obtain⟨rfl,rfl,rfl⟩:=trodAll_nil r2
 obtain rfl:args=#[v0,v1,v2]:=by cases args;simp_all
 obtain⟨rfl,rfl⟩:=trodVars_none hV
 have ft0:=fF hsz (j:=0) rfl rfl
 obtain⟨k,rfl,ok0⟩:=nO (hval 0 24 v0 rfl rfl) h0 ft0
 obtain⟨n,rfl,rfl,rfl,w1⟩:=open_int Tryz.underlying3 (hval 1 3 v1 rfl rfl) h1
 have ft2:=fF hsz (j:=2) rfl rfl
 obtain⟨rA,r,rc,rfl,ok2⟩:=Ab (hval 2 27 v2 rfl rfl) h2 ft2
 refine(uH k n rA r rc W ok0 ok2).mono fun e W' ⟨he,hb⟩=>?_
 subst he
 exact⟨_,rfl,nZ Tryz.laidOut hW' rfl (by decide+kernel) rfl Tryz.underlying4 rfl rfl rfl hb⟩
theorem sessionReopens_holds :Rows.SessionReopensSaid:=
 OpenClaim.holds_of_wide 10 Tryz.f10 rfl rfl rfl rfl rfl rfl rfl ⟨rfl,rfl,rfl,rfl,rfl⟩ rfl rfl rfl rfl rfl (by kernel_rfl) Tryz.func10 Ti
  (of_decide_eq_true (by kernel_rfl)) (by unfold Func.isWrapper;first|(rw[if_pos (by decide+kernel)];kernel_rfl)|(rw[if_neg (by decide+kernel)];exact⟨rfl,rfl⟩))
  (fun os started H enc _=>Tg os started H enc)
#print axioms sessionReopens_holds
end Go.Proofs.YtjiedaialianmaaGreat
