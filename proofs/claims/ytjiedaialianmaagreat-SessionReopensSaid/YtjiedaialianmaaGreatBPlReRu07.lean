import Derived.Test.YtjiedaialianmaaGreatBPlReRu06
set_option maxRecDepth 100000
set_option maxHeartbeats 8000000
namespace Go.Proofs.YtjiedaialianmaaGreat
open Go.RowKit Go.Lib
theorem Ov {l:List Plc}{m:Mod}{j:Nat}(he:aL m=0)(hr:bW 0 l)(h:idxOf (named m.name) l=j):
  (RI (Rc l m.name)).any (jU (dH l m.name) (aH m))=(decide (dH l m.name+aH m<=16)&&!(Rc l m.name).any (fT (dH l m.name) (aH m))):=by
 rw[free_at (gK he).1 hr h]
 unfold Rc
 rw[h,Int.toNat_natCast]
theorem FU {α:Type}{p:α->Bool}{l:List α}{q:Nat}(h:q<l.length):(l.take (q+1)).any p=((l.take q).any p || p l[q]):=by
 rw[List.take_succ_eq_append_getElem h,List.any_append]
 simp
theorem CY (k:Krn)(A:Option Addr)(c:Nat)(l:List Plc)(m:Mod)(w:World)(hk:k.ok w)(h:aU w A l)(hm:m.ok w)(hrg:aZ k l=0):
  Calls Tryz.prog 41 #[rgV k A l c,m.v] w (Ez w (kP k ⟨3,m,⟨#[]⟩⟩ l) k (qF l m)):=by
 obtain⟨w0,hw0⟩:=Nm (w.alloc (.cells #[.int .i64 k.major,.int .i64 k.minor,.slice k.eA k.ex.length k.eC,.slice A l.length c] 39))
 have hb0:Below w.heap.size w w0:=hw0▸ZB
 have hz0:w0.heap.size=w.heap.size+1:=by rw[hw0];simp
 have hG0:w0.heap[w.heap.size]? =some (.cells #[.int .i64 k.major,.int .i64 k.minor,.slice k.eA k.ex.length k.eC,.slice A l.length c] 39 (0,0)):=by rw[hw0];exact heap_alloc_new w _
 obtain⟨x0,hx0⟩:=Nm (w0.alloc (.cells #[.string m.name,.int .i64 m.major,.int .i64 m.minor,.string m.text,.slice m.eA m.ex.length m.eC,.slice m.iA m.im.length m.iC,.slice m.pA m.pa.length m.pC] 70))
 obtain⟨y0,hy0⟩:=Nm (x0.alloc (.cells #[.int .i64 0,.int .i64 0,.slice none 0 0,.slice none 0 0] 39))
 have hbx:Below w0.heap.size w0 x0:=hx0▸ZB
 have hby:Below x0.heap.size x0 y0:=hy0▸ZB
 have hzx:x0.heap.size=w.heap.size+2:=by rw[hx0];simp;omega
 have hM0:x0.heap[w.heap.size+1]? =some (.cells #[.string m.name,.int .i64 m.major,.int .i64 m.minor,.string m.text,.slice m.eA m.ex.length m.eC,.slice m.iA m.im.length m.iC,.slice m.pA m.pa.length m.pC] 70 (0,0)):=by rw[hx0,<-hz0];exact heap_alloc_new w0 _
 have HG0:=Hp ((hby.block w.heap.size (by omega)).trans ((hbx.block w.heap.size (by omega)).trans hG0))
 have HM0:=Hp ((hby.block (w.heap.size+1) (by omega)).trans hM0)
 have HR0:=Hp (show y0.heap[w.heap.size+2]? =some (.cells #[.int .i64 0,.int .i64 0,.slice none 0 0,.slice none 0 0] 39 (0,0)) by rw[hy0,<-hzx];exact heap_alloc_new x0 _)
 have HB0:=Hp ((hb0.trans (hbx.mono hb0.size)).trans (hby.mono (GY1 hb0.size hbx.size)))
 obtain⟨n0,n1,n2,n3,n4,n5,n6⟩:=RF HM0.out
 obtain⟨_,k0,k1,k2,k3,_⟩:=aB HG0.out
 have hreg:=Et hrg
 have hrow:=cZ hreg
 have h8:=hrow.1
 have HP:=Hp h
 have HK:=Hp hk
 have hrr:RY (Rc l m.name)=0:=by unfold Rc;exact vV hreg _
 have hr8:(Rc l m.name).length<=8:=(cZ hrr).1
 have HR8L:=Hp hr8
 have c1:=Hp (iV m y0 (hm.below HB0.out))
 have c2:=Hp (fun W(hb:Below w.heap.size w W)=>lX A c l m.name W (h.below hb).row h.len)
 have c3:=Hp (fun W=>lH m W hm.text)
 have cW:=Hp (fun W(hb:Below w.heap.size w W)(j:Nat)=>VC A c l j W (h.below hb) (by omega))
 have c4:=Hp (fun(A':Option Addr)(c':Nat)W(hp:aU W A' (Rc l m.name))=>DI A' c' (Rc l m.name) (aH m) W hp hrr)
 have c5:=Hp (fun(A':Option Addr)(c':Nat)W(hp:aU W A' (Rc l m.name))(p:Int)=>FV A' c' (Rc l m.name) m p W hp (by omega))
 have HAT:=Hp (fun W(hb:Below w.heap.size w W)(j:Nat)(hj:j<l.length)=>RS h.row hb j hj)
 have HRL:=Hp (fun(j:Nat)(hj:idxOf (named m.name) l=j)=>show Rc l m.name=l.eraseIdx j by unfold Rc;rw[hj,Int.toNat_natCast])
 have HRO:=Hp (show∀x∈Rc l m.name,x.m.ok w from fun x hx=>h.each x (List.mem_of_mem_eraseIdx hx))
 have HRN:=Hp (show∀x∈Rc l m.name,0<=x.first/\x.first<=16 from fun x hx=>by
  have h1:=rU (cZ hrr).2.2 x hx
  have h2:=(gK ((cZ hrr).2.1 x hx).1).1
  have e6:aR x=x.first+aH x.m:=rfl
  omega)
 have HUD:=Hp (fun(j:Nat)(he:aL m=0)(hj:idxOf (named m.name) l=j)=>Ov he hrow.2.2 hj)
 have HFI:=Hp (fun(j:Nat)(hj:idxOf (named m.name) l=j)=>show∃hjl:j<l.length,dH l m.name=l[j].first/\0<=l[j].first/\l[j].first<=16 from by
  obtain⟨hjl,e⟩:=nK hj
  have h1:=rU hrow.2.2 _ (GZ9 hjl)
  have h2:=(gK (hrow.2.1 _ (GZ9 hjl)).1).1
  have h3:aR l[j]=l[j].first+aH l[j].m:=rfl
  exact⟨hjl,e,by omega,by omega⟩)
 have HMN:=Hp (fun(he:aL m=0)=>gK he)
 obtain⟨F,hF⟩:=Nm (kP k ⟨3,m,⟨#[]⟩⟩ l)
 have hce:F=if kD l m≠0 then kD l m else aZ k (qF l m):=hF
 obtain⟨L,hL⟩:=Nm (qF l m)
 have HLO:=Hp (show∀x∈L,x.m.ok w from fun x hx=>by
  rw[hL]at hx
  unfold qF at hx
  rcases mU.1 hx with rfl|hx
  ·exact hm
  ·exact h.each x (List.mem_of_mem_eraseIdx hx))
 have HLL:=Hp (show L.length<=big by rw[hL];unfold qF;rw[TY];unfold big;omega)
 rw[<-hF]
 have cases:=DY l m
 rw[<-hL]at hce cases⊢
 obtain⟨E,hE⟩:=Nm (kD l m)
 rw[<-hE]at cases hce
 obtain⟨fa,hfa⟩:=Nm (dH l m.name)
 rw[<-hfa]at cases HFI HUD
 obtain⟨mm,hmm⟩:=Nm (aH m)
 rw[<-hmm]at cases c3 c4 HMN HUD
 obtain⟨R,hR⟩:=Nm (Rc l m.name)
 rw[<-hR]at cases c4 c5 HRL HRO HUD HR8L HRN
 obtain⟨fi,hfi⟩:=Nm (fM mm (RI R))
 rw[<-hfi]at cases c4
 obtain⟨fr,hfr⟩:∃fr,fr=(RI R).any (jU fa mm):=⟨_,rfl⟩
 rw[<-hfr]at cases HUD
 obtain⟨M,hM⟩:=Nm (aL m)
 rw[<-hM]at c1 cases HMN HUD
 obtain⟨ix,hix⟩:=Nm (idxOf (named m.name) l)
 rw[<-hix]at c2 cases HFI HRL HUD
 have hw0':=hw0.symm
 have hx0':=hx0.symm
 have hy0':=hy0.symm
 clear hw0 hx0 hy0 hb0 hbx hby hG0 hM0 hk h hm hF hL hE hM hix hmm hfi hrg hreg h8 hrow hrr hr8 hfa hR hfr
 have HCE:=Hp hce
 clear hce
 rcases cases with⟨t1,rfl⟩|⟨rfl,t2,rfl⟩|⟨j,rfl,rfl,t3,t4,hL5⟩|⟨j,rfl,rfl,t3,t4,hL5⟩
 ·have hFE:F=E:=by rw[HCE.out,if_pos t1]
  subst hFE
  have t1':(F != 0)=true:=by simp[t1]
  have T:=Hp t1
  clear t1
  go_enter Tryz.func41,Tryz.ntmps41
  go_wp2_with fail
  refine(c1.out).mono ?_;rintro e w1 ⟨rfl,hb1⟩
  have HR1:=Hp (aF hb1 HR0)
  have HB1:=Hp (HB0.trans (hb1.mono HB0.size))
  clear hb1
  obtain⟨_,zr0,zr1,zr2,zr3,zf0,zf1,zf2,zf3⟩:=aB HR1.out
  go_wp2_with fail
  obtain⟨hg,ho⟩:=gY HR1.out (.int .i64 0) (.int .i64 0) (.slice none 0 0) (.slice none 0 0)
  refine bodyPost_ret (results_cell_tmp rfl _ _ (w.heap.size+2) 39 _ (0,0) _ rfl hg Tryz.underlying39 rfl Tryz.RP) rfl ?_
  exact Rx T.out (HB1.trans ((ho.below (GY2 (ZL HR1.out))).mono (by omega)))
 ·have hFE:F=5:=by rw[HCE.out,if_pos (by decide)]
  subst hFE
  have t':decide (ix<0)=true:=decide_eq_true t2
  have T:=Hp (show(5:Int)≠0 by decide)
  clear t2
  go_enter Tryz.func41,Tryz.ntmps41
  go_wp2_with fail
  refine(c1.out).mono ?_;rintro e w1 ⟨rfl,hb1⟩
  have HR1:=Hp (aF hb1 HR0)
  have HG1:=Hp (aF hb1 HG0)
  have HM1:=Hp (aF hb1 HM0)
  have HB1:=Hp (HB0.trans (hb1.mono HB0.size))
  obtain⟨_,a0,a1,a2,a3,_⟩:=aB HG1.out
  obtain⟨b0,b1,b2,b3,b4,b5,b6⟩:=RF HM1.out
  clear hb1 n0 n1 n2 n3 n4 n5 n6 k0 k1 k2 k3
  go_wp2_with fail
  refine(c2.out _ HB1.out).mono ?_;rintro e w2 ⟨rfl,hb2⟩
  have HR2:=Hp (aF hb2 HR1)
  have HG2:=Hp (aF hb2 HG1)
  have HM2:=Hp (aF hb2 HM1)
  have HB2:=Hp (HB1.trans (hb2.mono HB1.size))
  obtain⟨_,a0,a1,a2,a3,_⟩:=aB HG2.out
  obtain⟨b0,b1,b2,b3,b4,b5,b6⟩:=RF HM2.out
  clear hb2
  obtain⟨_,zr0,zr1,zr2,zr3,zf0,zf1,zf2,zf3⟩:=aB HR2.out
  go_wp2_with fail
  obtain⟨hg,ho⟩:=gY HR2.out (.int .i64 0) (.int .i64 0) (.slice none 0 0) (.slice none 0 0)
  refine bodyPost_ret (results_cell_tmp rfl _ _ (w.heap.size+2) 39 _ (0,0) _ rfl hg Tryz.underlying39 rfl Tryz.RP) rfl ?_
  exact Rx T.out (HB2.trans ((ho.below (GY2 (ZL HR2.out))).mono (by omega)))
 ·have f0:=HFI.out j rfl
  have hE0:E=0:=t4 (by obtain⟨_,e,h0,_⟩:=f0;omega)
  subst hE0
  have hFE:F=aZ k L:=by rw[HCE.out,if_neg (by decide)]
  have HF:=Hp hFE
  clear hFE f0 t4
  obtain⟨hjl,hfj,hf0,hf16⟩:=HFI.out j rfl
  have hmn:=HMN.out (by first|trivial|rfl)
  have hud:=HUD.out j (by first|trivial|rfl) rfl
  rw[t3]at hud
  have HUQ:=Hp hud
  have HFJ:=Hp hfj
  have HL5:=Hp hL5
  have t':decide ((j:Int)<0)=false:=GY7 (by omega)
  have hjl':(j:Int)<l.length:=by omega
  clear hud hL5
  go_enter Tryz.func41,Tryz.ntmps41
  go_wp2_with fail
  refine(c1.out).mono ?_;rintro e w1 ⟨rfl,hb1⟩
  have HR1:=Hp (aF hb1 HR0)
  have HG1:=Hp (aF hb1 HG0)
  have HM1:=Hp (aF hb1 HM0)
  have HB1:=Hp (HB0.trans (hb1.mono HB0.size))
  obtain⟨_,a0,a1,a2,a3,_⟩:=aB HG1.out
  obtain⟨b0,b1,b2,b3,b4,b5,b6⟩:=RF HM1.out
  clear hb1 n0 n1 n2 n3 n4 n5 n6 k0 k1 k2 k3
  go_wp2_with fail
  refine(c2.out _ HB1.out).mono ?_;rintro e w2 ⟨rfl,hb2⟩
  have HR2:=Hp (aF hb2 HR1)
  have HG2:=Hp (aF hb2 HG1)
  have HM2:=Hp (aF hb2 HM1)
  have HB2:=Hp (HB1.trans (hb2.mono HB1.size))
  obtain⟨_,a0,a1,a2,a3,_⟩:=aB HG2.out
  obtain⟨b0,b1,b2,b3,b4,b5,b6⟩:=RF HM2.out
  clear hb2
  obtain⟨ad,rfl,hab,_,_,_,_,_,_,_,m7⟩:=HAT.out w2 HB2.out j hjl
  rw[<-hfj]at m7 hf0 hf16
  have cW2:=Hp (cW.out w2 HB2.out j)
  rw[<-HRL.out j rfl]at cW2
  clear hfj
  go_wp2_with fail
  refine(cW2.out).mono ?_;rintro e w3 ⟨⟨A3,c3',rfl,ho3⟩,hb3⟩
  have HR3:=Hp (aF hb3 HR2)
  have HG3:=Hp (aF hb3 HG2)
  have HM3:=Hp (aF hb3 HM2)
  have HB3:=Hp (HB2.trans (hb3.mono HB2.size))
  have HP3:=Hp (show aU w3 A3 R from⟨Reads.of_own ho3,by have:=HR8L.out;unfold big;omega,fun x hx=>(HRO.out x hx).below HB3.out⟩)
  obtain⟨p0,p1,p2,p3,p4,p5,p6⟩:=RF HM3.out
  have hw1:wrap64 (fa+mm)=fa+mm:=IntWalk.wrap64_in _ (by omega)
  have hw2:IntKind.i64.wrap (fa+mm)=fa+mm:=IntWalk.i64_in _ (by omega)
  obtain⟨bq,hbq⟩:=Nm (decide (fa+mm<=16))
  have HBQ:=Hp hbq
  have hbq':=hbq.symm
  clear ho3 hb3 cW2 m7 a0 a1 a2 a3 b0 b1 b2 b3 b4 b5 b6 hab hbq
  go_wp2_with fail
  refine(c3.out _).mono ?_;rintro e w4 ⟨rfl,hb4⟩
  have HR4:=Hp (aF hb4 HR3)
  have HG4:=Hp (aF hb4 HG3)
  have HM4:=Hp (aF hb4 HM3)
  have HB4:=Hp (HB3.trans (hb4.mono HB3.size))
  have HP4:=Hp (HP3.below hb4)
  clear hb4 p0 p1 p2 p3 p4 p5 p6
  have hr8:R.length<=8:=HR8L.out
  go_wp2_with fail
  go_loopw [10,11] (fun ft i wr=>∃q:Nat,q<=R.length/\i=.int .i64 q/\ft=.bool (bq&&!(R.take q).any (fT fa mm))/\Below w4.heap.size w4 wr) (fun _ i _=>R.length -(intOf i).toNat)
  case atStart=>exact⟨0,by omega,rfl,by simp,GZ4 _ _⟩
  case round=>
   obtain⟨q,hq,rfl,rfl,hb⟩:=hrel
   have HBR:=Hp (HB4.trans (hb.mono HB4.size))
   have HB:=Hp hb
   have HGR:=Hp (aF hb HG4)
   have HRR:=Hp (aF hb HR4)
   have HMR:=Hp (aF hb HM4)
   have HPR:=Hp (HP4.below hb)
   obtain⟨p0,p1,p2,p3,p4,p5,p6⟩:=RF HMR.out
   by_cases hlt:q<R.length
   ·have hlt':(q:Int)<R.length:=by omega
    have hat:=FU (p:=fT fa mm) hlt
    obtain⟨ad2,rfl,hab2,f0,f1,f2,f3,f4,f5,f6,f7⟩:=RS HP4.row hb q hlt
    have hyr:=HRN.out R[q] (GZ9 _)
    obtain⟨y,hy⟩:=Nm (R[q]'hlt)
    simp only[<-hy]at hat f7 hyr
    have habr:(ad2.add (q*8)).block<wr.heap.size:=by rw[aA];have:=hb.size;omega
    obtain⟨an,han⟩:∃an,an=(R.take q).any (fT fa mm):=⟨_,rfl⟩
    rw[<-han]at hat ⊢
    have HAT2:=Hp hat
    have hbm:=(ZL HMR.out)
    clear hb hat hy han f0 f1 f2 f3 f4 f5 f6
    by_cases s1:fa<y.first
    ·have s1':decide (fa<y.first)=true:=decide_eq_true s1
     go_wp2_with fail
     go_region_law (first|(go_simp;go_at_call 107;(with_reducible refine(c3.out _).mono ?_);rintro e w6 ⟨rfl,hb6⟩;have f76:=(hb6.cell (p:=⟨(ad2.add (q*8)).block,(ad2.add (q*8)).off+7,none⟩) habr).trans f7;have HB6:=Hp (HB.out.trans ((GZ4 _ wr).drew.trans hb6 |>.mono HB.out.size));clear hb6))
     all_goals(
      by_cases s2:y.first<fa+mm
      ·have s2':decide (y.first<fa+mm)=true:=decide_eq_true s2
       have hin:fT fa mm y=true:=by simp[fT,s1,s2]
       have HIN:=Hp hin
       clear hin
       go_wp2_with fail
       go_roundw
       case rel=>exact⟨q+1,by omega,by go_num,by rw[HAT2.out,HIN.out];simp,HB6.out⟩
       case measure=>(simp[intOf];try omega)
      ·have s2':decide (y.first<fa+mm)=false:=GY7 s2
       have hin:fT fa mm y=false:=by simp[fT,s2]
       have HIN:=Hp hin
       clear hin
       go_wp2_with fail
       go_roundw
       case rel=>exact⟨q+1,by omega,by go_num,by rw[HAT2.out,HIN.out];simp,HB6.out⟩
       case measure=>(simp[intOf];try omega))
    ·have s1':decide (fa<y.first)=false:=GY7 s1
     have hin:fT fa mm y=false:=by simp[fT,s1]
     have HIN:=Hp hin
     clear hin
     go_wp2_with fail
     go_quiet (fail)
     have HB6:=Hp (below_drewN HB nq)
     go_wp2_with fail
     go_roundw
     case rel=>exact⟨q+1,by omega,by go_num,by rw[HAT2.out,HIN.out];simp,HB6.out⟩
     case measure=>(simp[intOf];try omega)
   ·obtain rfl:q=R.length:=by omega
    have hft:(bq&&!R.any (fT fa mm))=true:=by rw[HBQ.out];exact HUQ.symm
    rw[List.take_length,hft]
    have hmn2:=hmn
    clear hb hft hlt
    have cV:=Hp (c5.out A3 c3' wr HPR.out fa)
    rw[<-HL5.out]at cV
    go_wp2_with fail
    refine(cV.out).mono ?_;rintro e w5 ⟨⟨A5,c5',rfl,ho5⟩,hb5⟩
    have HO5:=Hp (show aP w5 w.heap.size _ _ from RH ho5 HBR.size)
    have HR5:=Hp (aF hb5 HRR)
    have HG5:=Hp (aF hb5 HGR)
    have HB5:=Hp (HBR.trans (hb5.mono HBR.size))
    clear ho5 hb5 p0 p1 p2 p3 p4 p5 p6 cV
    obtain⟨_,g0,g1,g2,g3,gf0,gf1,gf2,gf3⟩:=aB HG5.out
    go_wp2_with fail
    obtain⟨w8,e8,HG8,HR8,HB8,HT8,HO8⟩:=rO (nR:=2) HB5.out HG5.out HR5.out (by omega) HO5.out HLO.out HLL.out HK.out
    rw[<-e8]
    clear e8 g0 g1 g2 g3 gf0 gf1 gf2 gf3
    obtain⟨_,g0,g1,g2,g3,_⟩:=aB HG8.out
    have cC:=Hp (gH k A5 c5' L w8 HT8.out.1 HT8.out.2)
    rw[<-HF.out]at cC
    try go_wp2_with fail
    refine(cC.out).mono ?_;rintro e w9 ⟨rfl,hb9⟩
    have HR9:=Hp (aF hb9 HR8)
    have HG9:=Hp (aF hb9 HG8)
    have HB9:=Hp (HB8.trans (hb9.mono HB8.size))
    have HT9:=Hp (HT8.below hb9)
    have HO9:=Hp (aO HO8 hb9)
    clear hb9 cC g0 g1 g2 g3
    by_cases t:F=0
    ·subst t
     obtain⟨_,g0,g1,g2,g3,_⟩:=aB HG9.out
     obtain⟨_,zr0,zr1,zr2,zr3,zf0,zf1,zf2,zf3⟩:=aB HR9.out
     go_wp2_with fail
     obtain⟨hg,ho⟩:=gY HR9.out (.int .i64 k.major) (.int .i64 k.minor) (.slice k.eA k.ex.length k.eC) (.slice A5 L.length c5')
     refine bodyPost_ret (results_cell_tmp rfl _ _ (w.heap.size+2) 39 _ (0,0) _ rfl hg Tryz.underlying39 rfl Tryz.RP) rfl ?_
     exact⟨⟨k,A5,L,c5',rfl,HT9.other ⟨_,_,_,_,_,_,_,_,HR9.out⟩ ho,rfl,rfl,rfl,rfl,own_kp HO9.out (ho.kp HR9.out (ts:=[39]) (by simp)) (by decide)⟩,HB9.trans ((ho.below (GY2 (ZL HR9.out))).mono (by omega))⟩
    ·have t':(F != 0)=true:=by simp[t]
     have T:=Hp t
     clear t
     obtain⟨_,zr0,zr1,zr2,zr3,zf0,zf1,zf2,zf3⟩:=aB HR9.out
     go_wp2_with fail
     obtain⟨hg,ho⟩:=gY HR9.out (.int .i64 0) (.int .i64 0) (.slice none 0 0) (.slice none 0 0)
     refine bodyPost_ret (results_cell_tmp rfl _ _ (w.heap.size+2) 39 _ (0,0) _ rfl hg Tryz.underlying39 rfl Tryz.RP) rfl ?_
     exact Rx T.out (HB9.trans ((ho.below (GY2 (ZL HR9.out))).mono (by omega)))
 ·have HE4:=Hp t4
  clear t4
  obtain⟨hjl,hfj,hf0,hf16⟩:=HFI.out j rfl
  have hmn:=HMN.out (by first|trivial|rfl)
  have hud:=HUD.out j (by first|trivial|rfl) rfl
  rw[t3]at hud
  have HUQ:=Hp hud
  have HFJ:=Hp hfj
  have HL5:=Hp hL5
  have t':decide ((j:Int)<0)=false:=GY7 (by omega)
  have hjl':(j:Int)<l.length:=by omega
  clear hud hL5
  go_enter Tryz.func41,Tryz.ntmps41
  go_wp2_with fail
  refine(c1.out).mono ?_;rintro e w1 ⟨rfl,hb1⟩
  have HR1:=Hp (aF hb1 HR0)
  have HG1:=Hp (aF hb1 HG0)
  have HM1:=Hp (aF hb1 HM0)
  have HB1:=Hp (HB0.trans (hb1.mono HB0.size))
  obtain⟨_,a0,a1,a2,a3,_⟩:=aB HG1.out
  obtain⟨b0,b1,b2,b3,b4,b5,b6⟩:=RF HM1.out
  clear hb1 n0 n1 n2 n3 n4 n5 n6 k0 k1 k2 k3
  go_wp2_with fail
  refine(c2.out _ HB1.out).mono ?_;rintro e w2 ⟨rfl,hb2⟩
  have HR2:=Hp (aF hb2 HR1)
  have HG2:=Hp (aF hb2 HG1)
  have HM2:=Hp (aF hb2 HM1)
  have HB2:=Hp (HB1.trans (hb2.mono HB1.size))
  obtain⟨_,a0,a1,a2,a3,_⟩:=aB HG2.out
  obtain⟨b0,b1,b2,b3,b4,b5,b6⟩:=RF HM2.out
  clear hb2
  obtain⟨ad,rfl,hab,_,_,_,_,_,_,_,m7⟩:=HAT.out w2 HB2.out j hjl
  rw[<-hfj]at m7 hf0 hf16
  have cW2:=Hp (cW.out w2 HB2.out j)
  rw[<-HRL.out j rfl]at cW2
  clear hfj
  go_wp2_with fail
  refine(cW2.out).mono ?_;rintro e w3 ⟨⟨A3,c3',rfl,ho3⟩,hb3⟩
  have HR3:=Hp (aF hb3 HR2)
  have HG3:=Hp (aF hb3 HG2)
  have HM3:=Hp (aF hb3 HM2)
  have HB3:=Hp (HB2.trans (hb3.mono HB2.size))
  have HP3:=Hp (show aU w3 A3 R from⟨Reads.of_own ho3,by have:=HR8L.out;unfold big;omega,fun x hx=>(HRO.out x hx).below HB3.out⟩)
  obtain⟨p0,p1,p2,p3,p4,p5,p6⟩:=RF HM3.out
  have hw1:wrap64 (fa+mm)=fa+mm:=IntWalk.wrap64_in _ (by omega)
  have hw2:IntKind.i64.wrap (fa+mm)=fa+mm:=IntWalk.i64_in _ (by omega)
  obtain⟨bq,hbq⟩:=Nm (decide (fa+mm<=16))
  have HBQ:=Hp hbq
  have hbq':=hbq.symm
  clear ho3 hb3 cW2 m7 a0 a1 a2 a3 b0 b1 b2 b3 b4 b5 b6 hab hbq
  go_wp2_with fail
  refine(c3.out _).mono ?_;rintro e w4 ⟨rfl,hb4⟩
  have HR4:=Hp (aF hb4 HR3)
  have HG4:=Hp (aF hb4 HG3)
  have HM4:=Hp (aF hb4 HM3)
  have HB4:=Hp (HB3.trans (hb4.mono HB3.size))
  have HP4:=Hp (HP3.below hb4)
  clear hb4 p0 p1 p2 p3 p4 p5 p6
  have hr8:R.length<=8:=HR8L.out
  go_wp2_with fail
  go_loopw [10,11] (fun ft i wr=>∃q:Nat,q<=R.length/\i=.int .i64 q/\ft=.bool (bq&&!(R.take q).any (fT fa mm))/\Below w4.heap.size w4 wr) (fun _ i _=>R.length -(intOf i).toNat)
  case atStart=>exact⟨0,by omega,rfl,by simp,GZ4 _ _⟩
  case round=>
   obtain⟨q,hq,rfl,rfl,hb⟩:=hrel
   have HBR:=Hp (HB4.trans (hb.mono HB4.size))
   have HB:=Hp hb
   have HGR:=Hp (aF hb HG4)
   have HRR:=Hp (aF hb HR4)
   have HMR:=Hp (aF hb HM4)
   have HPR:=Hp (HP4.below hb)
   obtain⟨p0,p1,p2,p3,p4,p5,p6⟩:=RF HMR.out
   by_cases hlt:q<R.length
   ·have hlt':(q:Int)<R.length:=by omega
    have hat:=FU (p:=fT fa mm) hlt
    obtain⟨ad2,rfl,hab2,f0,f1,f2,f3,f4,f5,f6,f7⟩:=RS HP4.row hb q hlt
    have hyr:=HRN.out R[q] (GZ9 _)
    obtain⟨y,hy⟩:=Nm (R[q]'hlt)
    simp only[<-hy]at hat f7 hyr
    have habr:(ad2.add (q*8)).block<wr.heap.size:=by rw[aA];have:=hb.size;omega
    obtain⟨an,han⟩:∃an,an=(R.take q).any (fT fa mm):=⟨_,rfl⟩
    rw[<-han]at hat ⊢
    have HAT2:=Hp hat
    have hbm:=(ZL HMR.out)
    clear hb hat hy han f0 f1 f2 f3 f4 f5 f6
    by_cases s1:fa<y.first
    ·have s1':decide (fa<y.first)=true:=decide_eq_true s1
     go_wp2_with fail
     go_region_law (first|(go_simp;go_at_call 107;(with_reducible refine(c3.out _).mono ?_);rintro e w6 ⟨rfl,hb6⟩;have f76:=(hb6.cell (p:=⟨(ad2.add (q*8)).block,(ad2.add (q*8)).off+7,none⟩) habr).trans f7;have HB6:=Hp (HB.out.trans ((GZ4 _ wr).drew.trans hb6 |>.mono HB.out.size));clear hb6))
     all_goals(
      by_cases s2:y.first<fa+mm
      ·have s2':decide (y.first<fa+mm)=true:=decide_eq_true s2
       have hin:fT fa mm y=true:=by simp[fT,s1,s2]
       have HIN:=Hp hin
       clear hin
       go_wp2_with fail
       go_roundw
       case rel=>exact⟨q+1,by omega,by go_num,by rw[HAT2.out,HIN.out];simp,HB6.out⟩
       case measure=>(simp[intOf];try omega)
      ·have s2':decide (y.first<fa+mm)=false:=GY7 s2
       have hin:fT fa mm y=false:=by simp[fT,s2]
       have HIN:=Hp hin
       clear hin
       go_wp2_with fail
       go_roundw
       case rel=>exact⟨q+1,by omega,by go_num,by rw[HAT2.out,HIN.out];simp,HB6.out⟩
       case measure=>(simp[intOf];try omega))
    ·have s1':decide (fa<y.first)=false:=GY7 s1
     have hin:fT fa mm y=false:=by simp[fT,s1]
     have HIN:=Hp hin
     clear hin
     go_wp2_with fail
     go_quiet (fail)
     have HB6:=Hp (below_drewN HB nq)
     go_wp2_with fail
     go_roundw
     case rel=>exact⟨q+1,by omega,by go_num,by rw[HAT2.out,HIN.out];simp,HB6.out⟩
     case measure=>(simp[intOf];try omega)
   ·obtain rfl:q=R.length:=by omega
    have hft:(bq&&!R.any (fT fa mm))=false:=by rw[HBQ.out];exact HUQ.symm
    rw[List.take_length,hft]
    have hmn2:=hmn
    clear hb hft hlt
    have cF:=Hp (fun W hp=>c4.out A3 c3' W hp)
    have cV:=Hp (fun W hp=>c5.out A3 c3' W hp fi)
    rw[<-HL5.out]at cV
    go_wp2_with fail
    refine(c3.out _).mono ?_;rintro e w5 ⟨rfl,hb5⟩
    have HR5:=Hp (aF hb5 HRR)
    have HG5:=Hp (aF hb5 HGR)
    have HM5:=Hp (aF hb5 HMR)
    have HP5:=Hp (HPR.below hb5)
    have HB5:=Hp (HBR.trans (hb5.mono HBR.size))
    clear hb5 p0 p1 p2 p3 p4 p5 p6
    go_wp2_with fail
    refine(cF.out _ HP5.out).mono ?_;rintro e w6 ⟨rfl,hb6⟩
    have HR6:=Hp (aF hb6 HR5)
    have HG6:=Hp (aF hb6 HG5)
    have HP6:=Hp (HP5.below hb6)
    have HB6:=Hp (HB5.trans (hb6.mono HB5.size))
    obtain⟨p0,p1,p2,p3,p4,p5,p6⟩:=RF (aF hb6 HM5.out)
    clear hb6
    by_cases t:fi<0
    ·have hFE:F=8:=by rw[HCE.out,HE4.out,if_pos t,if_pos (by decide)]
     subst hFE
     have t5:decide (fi<0)=true:=decide_eq_true t
     have T:=Hp (show(8:Int)≠0 by decide)
     clear t
     obtain⟨_,zr0,zr1,zr2,zr3,zf0,zf1,zf2,zf3⟩:=aB HR6.out
     go_wp2_with fail
     obtain⟨hg,ho⟩:=gY HR6.out (.int .i64 0) (.int .i64 0) (.slice none 0 0) (.slice none 0 0)
     refine bodyPost_ret (results_cell_tmp rfl _ _ (w.heap.size+2) 39 _ (0,0) _ rfl hg Tryz.underlying39 rfl Tryz.RP) rfl ?_
     exact Rx T.out (HB6.trans ((ho.below (GY2 (ZL HR6.out))).mono (by omega)))
    ·have hFE:F=aZ k L:=by rw[HCE.out,HE4.out,if_neg t,if_neg (by decide)]
     have HF:=Hp hFE
     have t5:decide (fi<0)=false:=GY7 t
     have cV':=Hp (cV.out w6 HP6.out)
     clear t hFE cV
     go_wp2_with fail
     refine(cV'.out).mono ?_;rintro e w7 ⟨⟨A7,c7',rfl,ho7⟩,hb7⟩
     have HO7:=Hp (show aP w7 w.heap.size _ _ from RH ho7 HB6.size)
     have HR7:=Hp (aF hb7 HR6)
     have HG7:=Hp (aF hb7 HG6)
     have HB7:=Hp (HB6.trans (hb7.mono HB6.size))
     clear ho7 hb7 p0 p1 p2 p3 p4 p5 p6 cV'
     obtain⟨_,g0,g1,g2,g3,gf0,gf1,gf2,gf3⟩:=aB HG7.out
     go_wp2_with fail
     obtain⟨w8,e8,HG8,HR8,HB8,HT8,HO8⟩:=rO (nR:=2) HB7.out HG7.out HR7.out (by omega) HO7.out HLO.out HLL.out HK.out
     rw[<-e8]
     clear e8 g0 g1 g2 g3 gf0 gf1 gf2 gf3
     obtain⟨_,g0,g1,g2,g3,_⟩:=aB HG8.out
     have cC:=Hp (gH k A7 c7' L w8 HT8.out.1 HT8.out.2)
     rw[<-HF.out]at cC
     try go_wp2_with fail
     refine(cC.out).mono ?_;rintro e w9 ⟨rfl,hb9⟩
     have HR9:=Hp (aF hb9 HR8)
     have HG9:=Hp (aF hb9 HG8)
     have HB9:=Hp (HB8.trans (hb9.mono HB8.size))
     have HT9:=Hp (HT8.below hb9)
     have HO9:=Hp (aO HO8 hb9)
     clear hb9 cC g0 g1 g2 g3
     by_cases t:F=0
     ·subst t
      obtain⟨_,g0,g1,g2,g3,_⟩:=aB HG9.out
      obtain⟨_,zr0,zr1,zr2,zr3,zf0,zf1,zf2,zf3⟩:=aB HR9.out
      go_wp2_with fail
      obtain⟨hg,ho⟩:=gY HR9.out (.int .i64 k.major) (.int .i64 k.minor) (.slice k.eA k.ex.length k.eC) (.slice A7 L.length c7')
      refine bodyPost_ret (results_cell_tmp rfl _ _ (w.heap.size+2) 39 _ (0,0) _ rfl hg Tryz.underlying39 rfl Tryz.RP) rfl ?_
      exact⟨⟨k,A7,L,c7',rfl,HT9.other ⟨_,_,_,_,_,_,_,_,HR9.out⟩ ho,rfl,rfl,rfl,rfl,own_kp HO9.out (ho.kp HR9.out (ts:=[39]) (by simp)) (by decide)⟩,HB9.trans ((ho.below (GY2 (ZL HR9.out))).mono (by omega))⟩
     ·have t':(F != 0)=true:=by simp[t]
      have T:=Hp t
      clear t
      obtain⟨_,zr0,zr1,zr2,zr3,zf0,zf1,zf2,zf3⟩:=aB HR9.out
      go_wp2_with fail
      obtain⟨hg,ho⟩:=gY HR9.out (.int .i64 0) (.int .i64 0) (.slice none 0 0) (.slice none 0 0)
      refine bodyPost_ret (results_cell_tmp rfl _ _ (w.heap.size+2) 39 _ (0,0) _ rfl hg Tryz.underlying39 rfl Tryz.RP) rfl ?_
      exact Rx T.out (HB9.trans ((ho.below (GY2 (ZL HR9.out))).mono (by omega)))
end Go.Proofs.YtjiedaialianmaaGreat
