import Derived.Test.YtjiedaialianmaaGreatA16
import Derived.Test.YtjiedaialianmaaGreatBLaPaPlReRu01
set_option maxRecDepth 100000
set_option maxHeartbeats 4000000
namespace Go.Proofs.YtjiedaialianmaaGreat
section
open Go.ChangeShapes Go.WideShapes Go.ChangeAt Go.RowKit Go.Deep
section
variable {H:Type} {enc:TypeId×Value->H} {w:World} {base:Nat} {spare:Nat->Bool} {held:Bool} {n:Nat} {c:Value} {cs:List Value} {y:DataW H×List MemPlace}
theorem Qo {l:List Value}(h:l.length=3):∃a b c,l=[a,b,c]:=by
 match l,h with| [a,b,c],_=>exact⟨a,b,c,rfl⟩
end
section
variable {H:Type} {enc:TypeId×Value->H} {w:World} {base:Nat} {spare:Nat->Bool} {held:Bool} {r:Reach} {b0:Nat} {v:Value} {d:DataW H} {p:List MemPlace}
theorem nO (hv:Value.okWide Tryz.prog w r b0 24 v)(h:DataW.Trod enc Tryz.prog w base spare held 24 v d p)(hF:Fits Tryz.prog 24 d):∃x:Krn,v=x.v/\x.ok w:=by
 obtain⟨cs,rfl,hsz⟩:=okWide_struct Tryz.underlying24 hv
 obtain⟨fuel,hf⟩:=h
 obtain⟨l⟩:=cs
 obtain⟨a,b,c,rfl⟩:=Qo (l:=l) (by have:=hsz.trans Tryz.yK;simpa using this)
 have hf':=SV Tryz.underlying24 (by kernel_rfl) rfl hf
 obtain⟨_,_,h0,f0⟩:=hf' 0 _ _ rfl rfl
 obtain⟨_,_,h1,f1⟩:=hf' 1 _ _ rfl rfl
 obtain⟨_,_,h2,f2⟩:=hf' 2 _ _ rfl rfl
 obtain⟨z,rfl⟩:=SI h0
 obtain⟨u,rfl⟩:=SI h1
 obtain⟨eA,ex,eC,rfl,he⟩:=Ud h2 (f2 hF)
 exact⟨⟨z,u,ex,eA,eC⟩,rfl,⟨he⟩⟩
end
end
section
open Go.RowKit
theorem pX (A B:Option Addr)(c d:Nat)(l r:List ByteArray)(w:World)(h:Row strCells 1 w A l)(h':Row strCells 1 w B r)(hl:l.length<=big)(hr:r.length<=big):
  Calls Tryz.prog 31 #[.slice A l.length c,.slice B r.length d] w fun e w'=>e=.returned (.bool (decide (l=r)))/\Below w.heap.size w w':=by
 unfold big at hl hr
 have HL:=Hp h
 have HR:=Hp h'
 clear h h'
 obtain⟨R,hR⟩:=Nm (decide (l=r))
 rw[<-hR]
 have HD:=Hp hR
 clear hR
 by_cases hlen:l.length=r.length
 ·have hlen':((l.length:Int) != r.length)=false:=by simp;omega
  have HLN:=Hp hlen
  clear hlen
  go_enter Tryz.func31,Tryz.ntmps31
  go_wp2_with fail
  go_loopw [5] (fun i wr=>∃j:Nat,j<=l.length/\i=.int .i64 j/\(∀k(hk:k<l.length)(hk':k<r.length),k<j->l[k]=r[k])/\Below w.heap.size w wr) (fun i _=>l.length -(intOf i).toNat)
  case atStart=>exact⟨0,by omega,rfl,by omega,GZ4 _ _⟩
  case round=>
   obtain⟨j,hj,rfl,hN,hb⟩:=hrel
   have HN:=Hp hN
   have HB:=Hp hb
   clear hN
   have hln:=HLN.out
   by_cases hlt:j<l.length
   ·have hltr:j<r.length:=by omega
    have hlt':(j:Int)<l.length:=by omega
    have hlt'':(j:Int)<r.length:=by omega
    obtain⟨ad,rfl,hab,h0⟩:=nT HL.out hb j hlt
    obtain⟨bd,rfl,hbb,h1⟩:=nT HR.out hb j hltr
    clear hb hln
    by_cases he:l[j]=r[j]
    ·have he':=str_eq he
     have HE:=Hp he
     clear he
     go_wp2_with fail
     go_quiet (fail)
     go_wp2_with fail
     go_roundw
     case rel=>exact⟨j+1,by omega,by go_num,fun k hk hk' hkj=>by rcases Nat.lt_succ_iff_lt_or_eq.1 hkj with h|rfl;exact HN.out k hk hk' h;exact HE.out,below_drewN HB.out _⟩
     case measure=>(simp[intOf];try omega)
    ·have he':=mY he
     have hne:=Hp (show R=false by rw[HD.out];simp only[decide_eq_false_iff_not];rintro rfl;exact he rfl)
     clear he
     go_wp2_with fail
     go_quiet (fail)
     go_wp2_with fail
     go_ret
     exact⟨aV hne.symm,below_drewN HB.out _⟩
   ·have heq:=Hp (show R=true by rw[HD.out];simp only[decide_eq_true_eq];exact List.ext_getElem hln (fun k hk hk'=>HN.out k hk hk' (by omega)))
    clear hb hln
    go_wp2_with fail
    go_ret
    exact⟨aV heq.symm,HB.out⟩
 ·have hlen':((l.length:Int) != r.length)=true:=by simp;omega
  have hne:=Hp (show R=false by rw[HD.out];simp only[decide_eq_false_iff_not];rintro rfl;exact hlen rfl)
  clear hlen
  go_enter Tryz.func31,Tryz.ntmps31
  go_wp2_with fail
  go_ret
  exact⟨aV hne.symm,GZ4 _ _⟩
end
section
open Go.RowKit
def Ut :ByteArray:=⟨#[115,111,109,101,32,114,101,99,111,114,100]⟩
def jf0 :List ByteArray:=List.replicate 3 blank
def jf1 :List ByteArray:=bT jf0 (aW jf0 (bytesOf Ut))
theorem Qg :lD 3=0:=by kernel_rfl
theorem Ar :bP jf0=0:=by kernel_rfl
theorem Er :dF jf0 (bytesOf Ut).length=0:=by
 have hl:(flat jf0).length=384:=fG Ar
 have h1:TG (flat jf0) 11=0:=by
  unfold TG
  rw[show Re (flat jf0)=some (0,[],0) from kR 3]
  simp only
  rw[hl,if_neg (by decide)]
 have h2:(bytesOf Ut).length=11:=rfl
 rw[h2]
 unfold dF
 rw[if_pos Ar,if_neg (by decide),if_neg (by decide)]
 exact h1
theorem Bv :gZ jf0=0/\bQ jf0=[]:=by
 unfold gZ bQ
 rw[if_pos Ar,if_pos Ar,show Re (flat jf0)=some (0,[],0) from kR 3]
 exact⟨rfl,rfl⟩
theorem vR :bP jf1=0/\gZ jf1=0/\bQ jf1=[Ut]/\0<(aW jf0 (bytesOf Ut)).length:=by
 obtain⟨h1,_,h3,h4,h5⟩:=TT Er
 refine⟨h1,h3,?_,h5⟩
 unfold jf1
 rw[h4,Bv.2,wR];rfl
theorem jF (w:World):Calls Tryz.prog 13 #[] w fun e w'=>e=.returned (.bool true)/\Below w.heap.size w w':=by
 have cN:=SL 3 w
 rw[Qg,SK rfl,show List.replicate (3:Int).toNat blank=jf0 from rfl]at cN
 have CN:=Hp cN
 clear cN
 obtain⟨R0,hR0⟩:=Nm Ut
 have HR0:=Hp hR0
 clear hR0
 go_enter Tryz.func13,Tryz.ntmps13
 go_upto_region 5 with(first
  |(go_at_call 16;refine(CN.out).mono ?_;rintro e w1 ⟨hb1,f1,rfl,hr1⟩
    obtain⟨w2,hw2⟩:=Nm (w1.alloc (.cells #[.slice f1.a f1.bl.length f1.c] 29))
    obtain⟨y2,_,hz2,hb2⟩:=jG hw2
    have hw2':=hw2.symm
    have hO2:=(hr1.ok (.inr Ar)).below hb2
    have cA:=uG f1 Ut w2 hO2 (by decide)
    have ha:=Er
    rw[RB]at ha
    rw[hr1.is,ha]at cA
    have CA:=Hp cA
    have HB2:=Hp (hb1.trans (hb2.mono hb1.size))
    have HO2:=Hp hO2
    have HF1:=Hp hr1.is
    clear hw2 hz2 hb1 hb2 hr1 hO2 cA ha)
  |(go_at_call 27;refine(CA.out).mono ?_;rintro e w3 ⟨hb3,f3,A3,c3,D3,rfl,hr3,hO3,hD3⟩
    have hfr:f3.bl=jf1:=by
     rw[hr3.is];unfold xU;rw[Er,SK rfl];rfl
    have hdl:0<D3.length:=by
     rw[hD3];unfold OL;rw[if_pos Er];exact vR.2.2.2
    obtain⟨w4,hw4⟩:=Nm (w3.alloc (.cells #[.slice f3.a f3.bl.length f3.c] 29))
    obtain⟨x4,_,hz4,hb4⟩:=jG hw4
    have hw4':=hw4.symm
    have hb24:=hb3.trans (hb4.mono hb3.size)
    have y4:=(hb24.cell (p:=⟨w1.heap.size,0,none⟩) (oG y2)).trans y2
    have hO4:=(hr3.ok (by rw[<-hr3.is,hfr];exact .inr vR.1)).below hb4
    have cO:=wJ f3 w4 hO4
    rw[hfr,vR.2.1,vR.2.2.1]at cO
    have CO:=Hp cO
    have HB4:=Hp (HB2.trans (hb24.mono HB2.size))
    have HO4:=Hp (HO2.below hb24)
    have HDL:=Hp hdl
    clear hw4 hz4 hb3 hb4 hr3 hO3 hD3 hfr hdl hb24 hO4 cO CA y2)
  |(go_at_call 28;(with_reducible refine(CO.out).mono ?_);rintro e w5 ⟨hb5,A5,c5,R5,rfl,hO5,hR5⟩
    have y5:=(hb5.cell (p:=⟨w1.heap.size,0,none⟩) (oG y4)).trans y4
    have cO:=wJ f1 w5 (HO4.below hb5)
    rw[HF1.out,Bv.1,Bv.2]at cO
    have CP:=Hp cO
    have HO5:=Hp hO5
    have HR5:=Hp hR5
    have HB5:=Hp (HB4.trans (hb5.mono HB4.size))
    clear hb5 hO5 hR5 cO CO y4)
  |(go_at_call 28;(with_reducible refine(CP.out).mono ?_);rintro e w6 ⟨hb6,A6,c6,R6,rfl,hO6,hR6⟩
    have HO6:=Hp (HO5.below hb6 (GZ3 _))
    have HB6:=Hp (HB5.trans (hb6.mono HB5.size))
    have hR60:R6.length=0:=by rw[hR6];rfl
    clear hb6 hO6 hR6))
 obtain⟨W6,hW6⟩:=Nm (w6.alloc (.cells #[.string Ut] 9))
 have hb7:Below w6.heap.size w6 W6:=hW6▸ZB
 have hr7:Row strCells 1 W6 (some ⟨w6.heap.size,0,none⟩) [Ut]:=pF (enc:=strCells) (k:=1) (fun _=>rfl) (hW6▸heap_alloc_new _ _) rfl
 obtain⟨A',c',e',hrow,_⟩:=dA.form (HO6.below hb7 (GZ3 _))
 injection e' with ea eb ec
 subst ea ec
 have cS:=pX A5 (some ⟨w6.heap.size,0,none⟩) c5 1 R5 [Ut] W6 hrow hr7 (by rw[HR5.out];decide) (by decide)
 rw[HR5.out,show decide (([Ut]:List ByteArray)=[Ut])=true from decide_eq_true rfl]at cS
 have hR51:R5.length=1:=by rw[HR5.out];rfl
 have HWB:=Hp (HB6.trans (hb7.mono HB6.size))
 have hW6':=hW6.symm
 change Calls _ _ #[.slice A5 1 c5,.slice _ 1 1] _ _ at cS
 have CS:=Hp cS
 have hdl:=HDL.out
 unfold Ut at hW6'
 clear hW6 hb7 hr7 hrow cS eb
 go_wp2_with (go_at_call 31;go_loud ((with_reducible refine(CS.out).mono ?_);rintro e w7 ⟨rfl,hb7⟩))
 go_ret
 exact⟨by first|rfl|simp,HWB.trans (hb7.mono HWB.size)⟩
end
end Go.Proofs.YtjiedaialianmaaGreat
