import Derived.Test.YtjiedaialianmaaGreatA25
import Derived.Test.YtjiedaialianmaaGreatBPlRu01
import Derived.Test.YtjiedaialianmaaGreatBReRu01
import Derived.Test.YtjiedaialianmaaGreatCRuns01
import Derived.Test.YtjiedaialianmaaGreatKTiny
/- SessionRuns: Run answers just what the document says, errors too, whatever it is handed. No condition. -/
open Go
set_option maxRecDepth 100000
set_option maxHeartbeats 8000000
namespace Go.Proofs.YtjiedaialianmaaGreat
open Go.ChangeShapes Go.WideShapes Go.ChangeAt Go.RowKit Go.WideMaps Go.WideElems
open Go.ChangeMaps (setBlock shut_map_nil open_string shut_string keptBut_setBlock frozen?_setBlock heap_setBlock_same)
theorem zG (k:Krn) (A:Option Addr) (l:List Plc) (c:Nat) (cA:Option Addr) (cs:List Cm) (cc:Nat) (w:World) (hk:k.ok w) (h:aU w A l) (hc:nE w cA cs):
  Calls Tryz.prog 9 #[.agg #[.int .i64 k.major,.int .i64 k.minor,.slice k.eA k.ex.length k.eC,.slice A l.length c],.slice cA cs.length cc] w fun e w'=>e=.returned (.bool true)/\Below w.heap.size w w':=by
 have HBw:=Hp (Below.refl w.heap.size w)
 obtain⟨w0,e0⟩:=Nm w
 have HB0:=Hp (show Below w.heap.size w w0 from e0▸Below.refl _ _)
 have HT0:=Hp (show dL w0 k A l from e0▸⟨hk,h⟩)
 have HC0:=Hp (show nE w0 cA cs from e0▸hc)
 subst e0
 obtain⟨w1,hw1⟩:=Nm (w0.alloc (.cells #[.int .i64 k.major,.int .i64 k.minor,.slice k.eA k.ex.length k.eC,.slice A l.length c] 39))
 have hb1:Below w0.heap.size w0 w1:=hw1▸(Below.refl _ _).alloc (Nat.le_refl _) _
 have HB1:=Hp (HB0.out.trans (hb1.mono HB0.out.size))
 have HT1:=Hp (HT0.out.below hb1)
 have HC1:=Hp (HC0.out.below hb1)
 have HR1:=Hp (show w1.heap[w0.heap.size]? =some (.cells #[.int .i64 k.major,.int .i64 k.minor,.slice k.eA k.ex.length k.eC,.slice A l.length c] 39 (0,0)) by rw[hw1];exact heap_alloc_new w0 _)
 have HSZ1:=Hp (show w1.heap.size=w0.heap.size+1 by rw[hw1];simp)
 have hw1':=hw1.symm
 clear hw1 hb1
 obtain⟨R,hR⟩:=Nm (aZ k l)
 have HRE:=Hp hR
 obtain⟨F,hF⟩:=Nm (gV k l cs.length)
 have HFE:=Hp hF
 obtain⟨es,hes⟩:=Nm (lZ k l cs)
 have HES:=Hp hes
 have HL:=Hp (show es.length<=big from by
  have:=hc.len
  rw[hes];unfold lZ;split
  ·exact Nat.zero_le _
  ·rw[lY];exact this)
 have f1:=Hp (Fj k A c l cA cs cc w1 HT1.out.1 HT1.out.2 HC1.out)
 rw[<-hF,<-hes]at f1
 have hl40:=hc.len
 unfold big at hl40
 clear hk h hc hR hF hes
 obtain⟨_,r0,r1,r2,r3,rf0,rf1,rf2,rf3⟩:=aB HR1.out
 go_enter Tryz.func9,Tryz.ntmps9
 go_wp2_with fail
 refine(f1.out).mono ?_;rintro e w2 ⟨⟨k1,A1,l1,c1,eA,ec,rfl,ht,h1,h2,her⟩,hb2⟩
 have HB2:=Hp (HB1.out.trans (hb2.mono HB1.out.size))
 have HT2:=Hp (HT1.out.below hb2)
 have HC2:=Hp (HC1.out.below hb2)
 have HR2:=Hp (aF hb2 HR1.out)
 clear r0 r1 r2 r3 rf0 rf1 rf2 rf3
 have HP2:=Hp ht
 have HS1:=Hp h1
 have HS2:=Hp h2
 have HE2:=Hp her
 clear ht h1 h2 her hb2 f1
 obtain⟨w3,hw3⟩:=Nm (w2.alloc (.cells #[.int .i64 k1.major,.int .i64 k1.minor,.slice k1.eA k1.ex.length k1.eC,.slice A1 l1.length c1] 39))
 have hb3:Below w2.heap.size w2 w3:=hw3▸(Below.refl _ _).alloc (Nat.le_refl _) _
 have hneRD:=Hp (Nat.ne_of_lt (Array.getElem?_eq_some_iff.1 HR2.out).1)
 have HB3:=Hp (HB2.out.trans (hb3.mono HB2.out.size))
 have HT3:=Hp (HT2.out.below hb3)
 have HC3:=Hp (HC2.out.below hb3)
 have HR3:=Hp (aF hb3 HR2.out)
 have HP3:=Hp (HP2.out.below hb3)
 have HE3:=Hp (aO HE2.out hb3)
 have HD3:=Hp (show w3.heap[w2.heap.size]? =some (.cells #[.int .i64 k1.major,.int .i64 k1.minor,.slice k1.eA k1.ex.length k1.eC,.slice A1 l1.length c1] 39 (0,0)) by rw[hw3];exact heap_alloc_new w2 _)
 have HSZ3:=Hp (show w3.heap.size=w2.heap.size+1 by rw[hw3];simp)
 have hw3':=hw3.symm
 clear hw3 hb3
 have f2:=Hp (gH k A c l w3 HT3.out.1 HT3.out.2)
 rw[<-HRE.out]at f2
 obtain⟨_,r0,r1,r2,r3,rf0,rf1,rf2,rf3⟩:=aB HR3.out
 go_wp2_with fail
 refine(f2.out).mono ?_;rintro e w4 ⟨rfl,hb4⟩
 have HB4:=Hp (HB3.out.trans (hb4.mono HB3.out.size))
 have HT4:=Hp (HT3.out.below hb4)
 have HC4:=Hp (HC3.out.below hb4)
 have HR4:=Hp (aF hb4 HR3.out)
 have HP4:=Hp (HP3.out.below hb4)
 have HE4:=Hp (aO HE3.out hb4)
 have HD4:=Hp (aF hb4 HD3.out)
 clear r0 r1 r2 r3 rf0 rf1 rf2 rf3
 clear hb4 f2
 obtain⟨w5,hw5⟩:=Nm (w4.alloc (.cells #[.int .i64 0,.int .i64 0,.slice none 0 0,.slice none 0 0] 39))
 have hb5:Below w4.heap.size w4 w5:=hw5▸(Below.refl _ _).alloc (Nat.le_refl _) _
 have hneRX:=Hp (Nat.ne_of_lt (Array.getElem?_eq_some_iff.1 HR4.out).1)
 have hneDX:=Hp (Nat.ne_of_lt (Array.getElem?_eq_some_iff.1 HD4.out).1)
 have HB5:=Hp (HB4.out.trans (hb5.mono HB4.out.size))
 have HT5:=Hp (HT4.out.below hb5)
 have HC5:=Hp (HC4.out.below hb5)
 have HR5:=Hp (aF hb5 HR4.out)
 have HP5:=Hp (HP4.out.below hb5)
 have HE5:=Hp (aO HE4.out hb5)
 have HD5:=Hp (aF hb5 HD4.out)
 have HX5:=Hp (show w5.heap[w4.heap.size]? =some (.cells #[.int .i64 0,.int .i64 0,.slice none 0 0,.slice none 0 0] 39 (0,0)) by rw[hw5];exact heap_alloc_new w4 _)
 have HSZ5:=Hp (show w5.heap.size=w4.heap.size+1 by rw[hw5];simp)
 have hw5':=hw5.symm
 clear hw5 hb5
 have HLEX:=Hp HB4.out.size
 by_cases t:R=0
 ·by_cases t1:cs.length<=40
  ·have hF0:F=0:=by rw[HFE.out];unfold gV;rw[if_neg (by rw[<-HRE.out];omega),if_neg (by omega)]
   have hes:es=eD k l cs:=by rw[HES.out];unfold lZ;rw[if_neg (by rw[<-HFE.out];omega)]
   have HRG:=Hp (HRE.out.symm.trans t)
   have f3:=Hp (D8 k A c l cA cs cc w5 HT5.out.1 HT5.out.2 HC5.out (by omega) HRG.out)
   rw[<-hes]at f3
   have t1':(cs.length:Int)<=40:=by omega
   subst t hF0
   clear hes t1
   obtain⟨_,r0,r1,r2,r3,rf0,rf1,rf2,rf3⟩:=aB HR5.out
   go_wp2_with fail
   refine(f3.out).mono ?_;rintro e w6 ⟨⟨k2,A2,l2,c2,eA2,ec2,rfl,hfrom,hk2,hl2,her⟩,hb6⟩
   have HB6:=Hp (HB5.out.trans (hb6.mono HB5.out.size))
   have HT6:=Hp (HT5.out.below hb6)
   have HC6:=Hp (HC5.out.below hb6)
   have HR6:=Hp (aF hb6 HR5.out)
   have HP6:=Hp (HP5.out.below hb6)
   have HE6:=Hp (aO HE5.out hb6)
   have HD6:=Hp (aF hb6 HD5.out)
   have HX6:=Hp (aF hb6 HX5.out)
   clear r0 r1 r2 r3 rf0 rf1 rf2 rf3
   have HG6:=Hp hfrom.there
   have HK2:=Hp (And.intro hk2 hl2)
   have HW6:=Hp her
   clear hfrom hk2 hl2 her hb6 f3
   obtain⟨_,x0,x1,x2,x3,xf0,xf1,xf2,xf3⟩:=aB HX6.out
   go_wp2_with fail
   obtain⟨hg7,ho7⟩:=gY HX6.out (.int .i64 k2.major) (.int .i64 k2.minor) (.slice k2.eA k2.ex.length k2.eC) (.slice A2 l2.length c2)
   obtain⟨w7,hw7⟩:∃W,W=(((w6.setCell ⟨w4.heap.size,0,none⟩ (.int .i64 k2.major)).setCell ⟨w4.heap.size,1,none⟩ (.int .i64 k2.minor)).setCell ⟨w4.heap.size,2,none⟩ (.slice k2.eA k2.ex.length k2.eC)).setCell ⟨w4.heap.size,3,none⟩ (.slice A2 l2.length c2):=⟨_,rfl⟩
   rw[<-hw7]at hg7 ho7
   rw[<-hw7]
   clear hw7
   have HB7:=Hp (HB6.out.trans ((ho7.below (Nat.le_of_lt (Array.getElem?_eq_some_iff.1 HX6.out).1)).mono HLEX.out))
   have HR7:=Hp ((ho7.block _ (Array.getElem?_eq_some_iff.1 HR6.out).1 (hneRX.out)).trans HR6.out)
   have HP7:=Hp (HP6.out.other ⟨_,_,_,_,_,_,_,_,HX6.out⟩ ho7)
   have HE7:=Hp (own_kp HE6.out (ho7.kp HX6.out (ts:=[39]) (by simp)) (by decide))
   have HD7:=Hp ((ho7.block _ (Array.getElem?_eq_some_iff.1 HD6.out).1 (hneDX.out)).trans HD6.out)
   have HX7:=Hp (hg7)
   have HG7:=Hp (HG6.out.other ⟨_,_,_,_,_,_,_,_,HX6.out⟩ ho7)
   have HW7:=Hp (own_kp HW6.out (ho7.kp HX6.out (ts:=[39]) (by simp)) (by decide))
   clear hg7 ho7
   clear x0 x1 x2 x3 xf0 xf1 xf2 xf3
   refine(dG _).mono ?_;rintro e w8 ⟨rfl,hb8⟩
   have HB8:=Hp (HB7.out.trans (hb8.mono HB7.out.size))
   have HR8:=Hp (aF hb8 HR7.out)
   have HP8:=Hp (HP7.out.below hb8)
   have HE8:=Hp (aO HE7.out hb8)
   have HD8:=Hp (aF hb8 HD7.out)
   have HX8:=Hp (aF hb8 HX7.out)
   have HG8:=Hp (HG7.out.below hb8)
   have HW8:=Hp (aO HW7.out hb8)
   clear hb8
   have q1:=Hp (SE 0 k1 k2 A1 A2 c1 c2 l1 l2 w8 HP8.out.1 HP8.out.2 HG8.out.1 HG8.out.2 (fun _=>⟨(HS1.out (by simp)).1.trans HK2.out.1.symm,(HS1.out (by simp)).2.trans HK2.out.2.symm⟩) (fun e=>absurd rfl e))
   obtain⟨_,x0,x1,x2,x3,xf0,xf1,xf2,xf3⟩:=aB HD8.out
   obtain⟨_,y0,y1,y2,y3,yf0,yf1,yf2,yf3⟩:=aB HX8.out
   go_wp2_with fail
   refine(q1.out).mono ?_;rintro e w9 ⟨rfl,hb9⟩
   have HB9:=Hp (HB8.out.trans (hb9.mono HB8.out.size))
   have HR9:=Hp (aF hb9 HR8.out)
   have HP9:=Hp (HP8.out.below hb9)
   have HE9:=Hp (aO HE8.out hb9)
   have HD9:=Hp (aF hb9 HD8.out)
   have HX9:=Hp (aF hb9 HX8.out)
   have HG9:=Hp (HG8.out.below hb9)
   have HW9:=Hp (aO HW8.out hb9)
   clear x0 x1 x2 x3 xf0 xf1 xf2 xf3;clear y0 y1 y2 y3 yf0 yf1 yf2 yf3
   clear hb9 q1
   have q2:=Hp (fO eA eA2 ec ec2 es w9 (AO HE9.out) (AO HW9.out) HL.out)
   go_wp2_with fail
   refine(q2.out).mono ?_;rintro e w10 ⟨rfl,hb10⟩
   have HB10:=Hp (HB9.out.trans (hb10.mono HB9.out.size))
   have HR10:=Hp (aF hb10 HR9.out)
   have HP10:=Hp (HP9.out.below hb10)
   have HE10:=Hp (aO HE9.out hb10)
   have HD10:=Hp (aF hb10 HD9.out)
   have HX10:=Hp (aF hb10 HX9.out)
   have HG10:=Hp (HG9.out.below hb10)
   have HW10:=Hp (aO HW9.out hb10)
   go_wp2_with fail
   go_ret
   exact⟨by simp,HB10.out⟩
  ·have hF2:F=2:=by rw[HFE.out];unfold gV;rw[if_neg (by rw[<-HRE.out];omega),if_pos (by omega)]
   have hes:es=[]:=by rw[HES.out];unfold lZ;rw[if_pos (by rw[<-HFE.out];omega)]
   have TF:=Hp (show(2:Int)≠0 by omega)
   have t1':(40:Int)<cs.length:=by omega
   subst t hF2 hes
   clear t1
   go_wp2_with fail
   refine(dG _).mono ?_;rintro e w8 ⟨rfl,hb8⟩
   have HB8:=Hp (HB5.out.trans (hb8.mono HB5.out.size))
   have HT8:=Hp (HT5.out.below hb8)
   have HC8:=Hp (HC5.out.below hb8)
   have HR8:=Hp (aF hb8 HR5.out)
   have HP8:=Hp (HP5.out.below hb8)
   have HE8:=Hp (aO HE5.out hb8)
   have HD8:=Hp (aF hb8 HD5.out)
   have HX8:=Hp (aF hb8 HX5.out)
   clear hb8
   have q1:=Hp (show Calls Tryz.prog 43 #[rgV k1 A1 l1 c1,.int .i64 2,.int .i64 2,.agg #[.int .i64 0,.int .i64 0,.slice none 0 0,.slice none 0 0]] w8 fun e w'=>e=.returned (.bool true)/\Below w8.heap.size w8 w' from
    SE 2 k1 Rk A1 none c1 0 l1 [] w8 HP8.out.1 HP8.out.2 (Sg _) ⟨Row.nil,Nat.zero_le _,by simp⟩ (fun e=>absurd e TF.out) (fun e=>HS2.out e))
   obtain⟨_,x0,x1,x2,x3,xf0,xf1,xf2,xf3⟩:=aB HD8.out
   obtain⟨_,y0,y1,y2,y3,yf0,yf1,yf2,yf3⟩:=aB HX8.out
   go_wp2_with fail
   refine(q1.out).mono ?_;rintro e w9 ⟨rfl,hb9⟩
   have HB9:=Hp (HB8.out.trans (hb9.mono HB8.out.size))
   have HT9:=Hp (HT8.out.below hb9)
   have HC9:=Hp (HC8.out.below hb9)
   have HR9:=Hp (aF hb9 HR8.out)
   have HP9:=Hp (HP8.out.below hb9)
   have HE9:=Hp (aO HE8.out hb9)
   have HD9:=Hp (aF hb9 HD8.out)
   have HX9:=Hp (aF hb9 HX8.out)
   clear x0 x1 x2 x3 xf0 xf1 xf2 xf3;clear y0 y1 y2 y3 yf0 yf1 yf2 yf3
   clear hb9 q1
   have q2:=Hp (fO eA none ec 0 [] w9 (AO HE9.out) Row.nil (Nat.zero_le _))
   go_wp2_with fail
   refine(q2.out).mono ?_;rintro e w10 ⟨rfl,hb10⟩
   have HB10:=Hp (HB9.out.trans (hb10.mono HB9.out.size))
   have HT10:=Hp (HT9.out.below hb10)
   have HC10:=Hp (HC9.out.below hb10)
   have HR10:=Hp (aF hb10 HR9.out)
   have HP10:=Hp (HP9.out.below hb10)
   have HE10:=Hp (aO HE9.out hb10)
   have HD10:=Hp (aF hb10 HD9.out)
   have HX10:=Hp (aF hb10 HX9.out)
   go_wp2_with fail
   go_ret
   exact⟨by simp,HB10.out⟩
 ·have hFR:R=F:=by rw[HFE.out,HRE.out];unfold gV;rw[if_pos (by rw[<-HRE.out];exact t)]
  have hes:es=[]:=by rw[HES.out];unfold lZ;rw[if_pos (by rw[<-HFE.out,<-hFR];exact t)]
  subst hFR hes
  have t':(R==0)=false:=by simp[t]
  have TF:=Hp t
  clear t
  go_wp2_with fail
  refine(dG _).mono ?_;rintro e w8 ⟨rfl,hb8⟩
  have HB8:=Hp (HB5.out.trans (hb8.mono HB5.out.size))
  have HT8:=Hp (HT5.out.below hb8)
  have HC8:=Hp (HC5.out.below hb8)
  have HR8:=Hp (aF hb8 HR5.out)
  have HP8:=Hp (HP5.out.below hb8)
  have HE8:=Hp (aO HE5.out hb8)
  have HD8:=Hp (aF hb8 HD5.out)
  have HX8:=Hp (aF hb8 HX5.out)
  clear hb8
  have q1:=Hp (show Calls Tryz.prog 43 #[rgV k1 A1 l1 c1,.int .i64 R,.int .i64 R,.agg #[.int .i64 0,.int .i64 0,.slice none 0 0,.slice none 0 0]] w8 fun e w'=>e=.returned (.bool true)/\Below w8.heap.size w8 w' from
   SE R k1 Rk A1 none c1 0 l1 [] w8 HP8.out.1 HP8.out.2 (Sg _) ⟨Row.nil,Nat.zero_le _,by simp⟩ (fun e=>absurd e TF.out) (fun e=>HS2.out e))
  obtain⟨_,x0,x1,x2,x3,xf0,xf1,xf2,xf3⟩:=aB HD8.out
  obtain⟨_,y0,y1,y2,y3,yf0,yf1,yf2,yf3⟩:=aB HX8.out
  go_wp2_with fail
  refine(q1.out).mono ?_;rintro e w9 ⟨rfl,hb9⟩
  have HB9:=Hp (HB8.out.trans (hb9.mono HB8.out.size))
  have HT9:=Hp (HT8.out.below hb9)
  have HC9:=Hp (HC8.out.below hb9)
  have HR9:=Hp (aF hb9 HR8.out)
  have HP9:=Hp (HP8.out.below hb9)
  have HE9:=Hp (aO HE8.out hb9)
  have HD9:=Hp (aF hb9 HD8.out)
  have HX9:=Hp (aF hb9 HX8.out)
  clear x0 x1 x2 x3 xf0 xf1 xf2 xf3;clear y0 y1 y2 y3 yf0 yf1 yf2 yf3
  clear hb9 q1
  have q2:=Hp (fO eA none ec 0 [] w9 (AO HE9.out) Row.nil (Nat.zero_le _))
  go_wp2_with fail
  refine(q2.out).mono ?_;rintro e w10 ⟨rfl,hb10⟩
  have HB10:=Hp (HB9.out.trans (hb10.mono HB9.out.size))
  have HT10:=Hp (HT9.out.below hb10)
  have HC10:=Hp (HC9.out.below hb10)
  have HR10:=Hp (aF hb10 HR9.out)
  have HP10:=Hp (HP9.out.below hb10)
  have HE10:=Hp (aO HE9.out hb10)
  have HD10:=Hp (aF hb10 HD9.out)
  have HX10:=Hp (aF hb10 HX9.out)
  go_wp2_with fail
  go_ret
  exact⟨by simp,HB10.out⟩
theorem uP :joinedFacts Tryz.prog 9 Tryz.f9 Rows.sessionRunsSpec Rows.sessionRunsRow=true:=by
 unfold joinedFacts
 simp only[Bool.and_eq_true]
 and_intros
 ·as_aux_lemma=>kernel_rfl
 ·exact Tryz.laidOut
 ·exact Tryz.Sa
 ·as_aux_lemma=>kernel_rfl
 ·as_aux_lemma=>kernel_rfl
 ·as_aux_lemma=>kernel_rfl
 ·exact Tryz.UF
 ·as_aux_lemma=>kernel_rfl
 ·exact Tryz.SS
 ·as_aux_lemma=>kernel_rfl
 ·as_aux_lemma=>kernel_rfl
 ·as_aux_lemma=>kernel_rfl
 ·as_aux_lemma=>kernel_rfl
 ·as_aux_lemma=>kernel_rfl
 ·as_aux_lemma=>kernel_rfl
 ·as_aux_lemma=>kernel_rfl
 ·as_aux_lemma=>kernel_rfl
 ·as_aux_lemma=>kernel_rfl
 ·as_aux_lemma=>kernel_rfl
 ·as_aux_lemma=>kernel_rfl
 ·as_aux_lemma=>kernel_rfl
 ·as_aux_lemma=>kernel_rfl
 ·exact Tryz.Sc
 ·as_aux_lemma=>kernel_rfl
 ·exact Tryz.jD
 ·exact Tryz.kY
 ·exact Tryz.rW
 ·exact Tryz.xI
 ·as_aux_lemma=>kernel_rfl
 ·as_aux_lemma=>kernel_rfl
 ·as_aux_lemma=>kernel_rfl
 ·as_aux_lemma=>kernel_rfl
theorem uY (os:Os) (started:os.Started) (H:Type) (enc:TypeId×Value->H):
  ReturnsInHanded {} Tryz.checked os 9 .any (Rows.sessionRunsSpec.pre6 enc Tryz.prog Tryz.f9 Rows.sessionRunsRow.domain false) (Rows.sessionRunsSpec.post enc Tryz.prog Tryz.f9 false true false false):=by
 refine returnsInHanded_of_change_sized (C:=Tryz.checked) Tryz.own started (by kernel_rfl) Tryz.func9
  (ChangeSpec.witness6 (enc:=enc) (C:=Tryz.checked) false ⟨#[],#[.agg #[.int .i64 0,.int .i64 0,.slice none 0 0,.slice none 0 0],.slice none 0 0],[]⟩ 8 (by kernel_rfl) (by kernel_rfl) (by kernel_rfl) (by kernel_rfl)) ?_
 intro W base args ds gs before hval0 hW hcnd hsz0 _
 have hval:∀(j:Nat) t v,Tryz.f9.params[j]? =some t->args[j]? =some v->Value.okWide Tryz.prog W .any base t v:=hval0
 have hsz:(DataW.weightsEach Tryz.prog (Tryz.f9.params.toList++Rows.sessionRunsSpec.plain.varTypes Tryz.prog) (ds++gs)).all (· <=reachBytes)=true:=hsz0
 have hW':=hW
 obtain⟨p,q,hA0,hV,rfl,hfz,hnd⟩:=hW
 have hA:DataW.TrodAll enc Tryz.prog W 0 (fun _=>true) true Tryz.f9.params.toList args.toList ds p:=hA0
 rw[Tryz.params9]at hA hval hsz
 obtain⟨v0,vs0,d0,ds0,p0,q0,hargs,rfl,rfl,h0,r0⟩:=trodAll_cons hA
 obtain⟨v1,vs1,d1,ds1,p1,q1,rfl,rfl,rfl,h1,r1⟩:=trodAll_cons r0
 obtain⟨rfl,rfl,rfl⟩:=trodAll_nil r1
 obtain rfl:args=#[v0,v1]:=by cases args;simp_all
 obtain⟨rfl,rfl⟩:=trodVars_none hV
 have ft0:=fF hsz (j:=0) rfl rfl
 obtain⟨rK,rA,rL,rC,rfl,okk0,okl0⟩:=C9 (hval 0 39 v0 rfl rfl) h0 ft0
 have ft1:=fF hsz (j:=1) rfl rfl
 obtain⟨lA,l,lc,rfl,ok1⟩:=UD (hval 1 25 v1 rfl rfl) h1 ft1
 refine(zG rK rA rL rC lA l lc W okk0 okl0 ok1).mono fun e W' ⟨he,hb⟩=>?_
 subst he
 exact⟨_,rfl,nZ Tryz.laidOut hW' rfl (by decide+kernel) rfl Tryz.underlying4 rfl rfl rfl hb⟩
theorem sessionRuns_holds :Rows.SessionRunsSaid:=
 OpenClaim.holds_of_wide 9 Tryz.f9 rfl rfl rfl rfl rfl rfl rfl ⟨rfl,rfl,rfl,rfl,rfl⟩ rfl rfl rfl rfl rfl (by kernel_rfl) Tryz.func9 uP
  (of_decide_eq_true (by kernel_rfl)) (by unfold Func.isWrapper;first|(rw[if_pos (by decide+kernel)];kernel_rfl)|(rw[if_neg (by decide+kernel)];exact⟨rfl,rfl⟩))
  (fun os started H enc _=>uY os started H enc)
#print axioms sessionRuns_holds
end Go.Proofs.YtjiedaialianmaaGreat
