import Derived.Test.YtjiedaialianmaaGreatA06
import Derived.Test.YtjiedaialianmaaGreatA12
import Derived.Test.YtjiedaialianmaaGreatBPlReRu01
set_option maxRecDepth 100000
set_option maxHeartbeats 4000000
namespace Go.Proofs.YtjiedaialianmaaGreat
section
open Go.RowKit
theorem VG (k:Krn)(A:Option Addr)(c:Nat)(l:List Plc)(nm tx:ByteArray)(mj mn:Int)(ex:List Exp)(im:List Imp)(pa:List Pat)(eA iA pA:Option Addr)(eC iC pC:Nat)(w:World)(hk:k.ok w)(h:aU w A l)(him:TC w iA im)(hi6:im.length<=6)(hp:iB k l=0):
  Calls Tryz.prog 230 #[k.v,.slice A l.length c,.agg #[.string nm,.int .i64 mj,.int .i64 mn,.string tx,.slice eA ex.length eC,.slice iA im.length iC,.slice pA pa.length pC]] w fun e w'=>
   (∃(A':Option Addr)(c':Nat),e=.returned (.tuple #[.slice A' (aN k l im).1.length c',.int .i64 (aN k l im).2])/\AB w' A' (aN k l im).1)/\Below w.heap.size w w':=by
 obtain⟨wk,hwk⟩:=Nm (w.alloc (.cells #[.int .i64 k.major,.int .i64 k.minor,.slice k.eA k.ex.length k.eC] 24))
 obtain⟨g0,g1,g2,hzk,hbk⟩:=uE hwk
 obtain⟨w0,hw0⟩:=Nm (wk.alloc (.cells #[.string nm,.int .i64 mj,.int .i64 mn,.string tx,.slice eA ex.length eC,.slice iA im.length iC,.slice pA pa.length pC] 70))
 obtain⟨_,_,_,_,_,f5,_,hz0,hb0⟩:=wE hw0
 rw[hzk]at f5 hz0 hb0
 have k0:=(hb0.cell (p:=⟨w.heap.size,0,none⟩) (by simp)).trans g0
 have k1:=(hb0.cell (p:=⟨w.heap.size,1,none⟩) (by simp)).trans g1
 have k2:=(hb0.cell (p:=⟨w.heap.size,2,none⟩) (by simp)).trans g2
 have H0:=Hp (show Below w.heap.size w w0 from hbk.trans (hb0.mono (by omega)))
 have HZ:=Hp hz0
 have hwk':=hwk.symm
 have hw0':=hw0.symm
 have HIM:=Hp him
 obtain⟨R,hR⟩:=Nm (aN k l im)
 rw[<-hR]
 have HR:=Hp hR
 clear hwk hw0 hbk hb0 g0 g1 g2 him hR hz0
 have cA:=Hp (fun W(hb:Below w.heap.size w W)i=>Cg k A c l i W (hk.below hb) (h.below hb) hp)
 clear hk h hp
 go_enter Tryz.func230,Tryz.ntmps230
 go_wp2_with fail
 go_loopw [8,9] (fun v i wr=>∃(j:Nat)(pre:List Int),j<=im.length/\i=.int .i64 j/\pre.length=j/\Ints wr w0.heap.size v pre/\glue pre (aN k l (im.drop j))=R/\Below w0.heap.size w0 wr) (fun _ i _=>im.length -(intOf i).toNat)
 case atStart=>exact⟨0,[],by omega,rfl,rfl,Ints.nil _ _,by rw[HR.out];exact Gb,GZ4 _ _⟩
 case round=>
  obtain⟨j,pre,hj,rfl,hpl,hin,hG,hb⟩:=hrel
  have HG:=Hp hG
  have HB:=Hp hb
  have HI:=Hp hin
  have HPL:=Hp hpl
  clear hG hin hpl
  obtain⟨vA,vc,rfl,hrow⟩:=HI.row
  have hwz:=hb.size
  have hz0:=HZ.out
  have hz1:w.heap.size+1<wr.heap.size:=by omega
  have hz2:w.heap.size<wr.heap.size:=by omega
  have r0:=(hb.cell (p:=⟨w.heap.size,0,none⟩) (by simp;omega)).trans k0
  have r1:=(hb.cell (p:=⟨w.heap.size,1,none⟩) (by simp;omega)).trans k1
  have r2:=(hb.cell (p:=⟨w.heap.size,2,none⟩) (by simp;omega)).trans k2
  have r5:=(hb.cell (p:=⟨w.heap.size+1,5,none⟩) (by simp;omega)).trans f5
  have HX:=Hp (show Below w.heap.size w wr from H0.trans (hb.mono H0.size))
  clear hz0
  by_cases hlt:j<im.length
  ·have hlt':(j:Int)<im.length:=by omega
   obtain⟨ad,rfl,hab,h0,h1,h2,h3⟩:=TA HIM.out.1 HX.out j hlt
   have cJ:=Hp (fun W hb=>cA.out W hb im[j])
   obtain⟨V,hV⟩:=Nm (addrOf k l im[j])
   have e1:=Hp (fun he=>(Fw (k:=k) (l:=l) (pre:=pre) hlt he).symm.trans HG.out)
   have e2:=Hp (fun he=>(Jw (k:=k) (l:=l) (pre:=pre) hlt he).trans HG.out)
   rw[<-hV]at e1 e2
   simp only[<-hV]at cJ
   clear hV hb
   obtain⟨v1,v2⟩:=V
   simp only at e1 e2 cJ
   have hbm:(ad.add (j*4)).block<wr.heap.size:=by rw[aA];omega
   have hC0:(Below wr.heap.size wr wr/\wr.cell? ⟨w.heap.size,0,none⟩=some (.int .i64 k.major)/\wr.cell? ⟨w.heap.size,1,none⟩=some (.int .i64 k.minor)/\wr.cell? ⟨w.heap.size,2,none⟩=some (.slice k.eA k.ex.length k.eC)/\wr.cell? ⟨w.heap.size+1,5,none⟩=some (.slice (some ad) im.length iC)/\wr.cell? (ad.add (j*4))=some (.string im[j].mod)/\wr.cell? ⟨(ad.add (j*4)).block,(ad.add (j*4)).off+1,none⟩=some (.string im[j].name)/\wr.cell? ⟨(ad.add (j*4)).block,(ad.add (j*4)).off+2,none⟩=some (iv im[j].major)/\wr.cell? ⟨(ad.add (j*4)).block,(ad.add (j*4)).off+3,none⟩=some (iv im[j].minor)):=⟨GZ4 _ _,r0,r1,r2,r5,h0,h1,h2,h3⟩
   have hCD:∀W':World,(Below wr.heap.size wr W'/\W'.cell? ⟨w.heap.size,0,none⟩=some (.int .i64 k.major)/\W'.cell? ⟨w.heap.size,1,none⟩=some (.int .i64 k.minor)/\W'.cell? ⟨w.heap.size,2,none⟩=some (.slice k.eA k.ex.length k.eC)/\W'.cell? ⟨w.heap.size+1,5,none⟩=some (.slice (some ad) im.length iC)/\W'.cell? (ad.add (j*4))=some (.string im[j].mod)/\W'.cell? ⟨(ad.add (j*4)).block,(ad.add (j*4)).off+1,none⟩=some (.string im[j].name)/\W'.cell? ⟨(ad.add (j*4)).block,(ad.add (j*4)).off+2,none⟩=some (iv im[j].major)/\W'.cell? ⟨(ad.add (j*4)).block,(ad.add (j*4)).off+3,none⟩=some (iv im[j].minor))->(Below wr.heap.size wr W'.drew/\W'.drew.cell? ⟨w.heap.size,0,none⟩=some (.int .i64 k.major)/\W'.drew.cell? ⟨w.heap.size,1,none⟩=some (.int .i64 k.minor)/\W'.drew.cell? ⟨w.heap.size,2,none⟩=some (.slice k.eA k.ex.length k.eC)/\W'.drew.cell? ⟨w.heap.size+1,5,none⟩=some (.slice (some ad) im.length iC)/\W'.drew.cell? (ad.add (j*4))=some (.string im[j].mod)/\W'.drew.cell? ⟨(ad.add (j*4)).block,(ad.add (j*4)).off+1,none⟩=some (.string im[j].name)/\W'.drew.cell? ⟨(ad.add (j*4)).block,(ad.add (j*4)).off+2,none⟩=some (iv im[j].major)/\W'.drew.cell? ⟨(ad.add (j*4)).block,(ad.add (j*4)).off+3,none⟩=some (iv im[j].minor)):=fun W' ⟨b,a0,a1,a2,a5,i0,i1,i2,i3⟩=>⟨b.drew,a0,a1,a2,a5,i0,i1,i2,i3⟩
   have hCS:∀W' W2:World,(Below wr.heap.size wr W'/\W'.cell? ⟨w.heap.size,0,none⟩=some (.int .i64 k.major)/\W'.cell? ⟨w.heap.size,1,none⟩=some (.int .i64 k.minor)/\W'.cell? ⟨w.heap.size,2,none⟩=some (.slice k.eA k.ex.length k.eC)/\W'.cell? ⟨w.heap.size+1,5,none⟩=some (.slice (some ad) im.length iC)/\W'.cell? (ad.add (j*4))=some (.string im[j].mod)/\W'.cell? ⟨(ad.add (j*4)).block,(ad.add (j*4)).off+1,none⟩=some (.string im[j].name)/\W'.cell? ⟨(ad.add (j*4)).block,(ad.add (j*4)).off+2,none⟩=some (iv im[j].major)/\W'.cell? ⟨(ad.add (j*4)).block,(ad.add (j*4)).off+3,none⟩=some (iv im[j].minor))->Below W'.heap.size W' W2->(Below wr.heap.size wr W2/\W2.cell? ⟨w.heap.size,0,none⟩=some (.int .i64 k.major)/\W2.cell? ⟨w.heap.size,1,none⟩=some (.int .i64 k.minor)/\W2.cell? ⟨w.heap.size,2,none⟩=some (.slice k.eA k.ex.length k.eC)/\W2.cell? ⟨w.heap.size+1,5,none⟩=some (.slice (some ad) im.length iC)/\W2.cell? (ad.add (j*4))=some (.string im[j].mod)/\W2.cell? ⟨(ad.add (j*4)).block,(ad.add (j*4)).off+1,none⟩=some (.string im[j].name)/\W2.cell? ⟨(ad.add (j*4)).block,(ad.add (j*4)).off+2,none⟩=some (iv im[j].major)/\W2.cell? ⟨(ad.add (j*4)).block,(ad.add (j*4)).off+3,none⟩=some (iv im[j].minor)):=fun W' W2 ⟨b,a0,a1,a2,a5,i0,i1,i2,i3⟩hb=>
    have s:=b.size
    ⟨b.trans (hb.mono s),(hb.cell (by simp;omega)).trans a0,(hb.cell (by simp;omega)).trans a1,(hb.cell (by simp;omega)).trans a2,(hb.cell (by simp;omega)).trans a5,(hb.cell (by omega)).trans i0,(hb.cell (by simp;omega)).trans i1,(hb.cell (by simp;omega)).trans i2,(hb.cell (by simp;omega)).trans i3⟩
   have hCB:∀W':World,(Below wr.heap.size wr W'/\W'.cell? ⟨w.heap.size,0,none⟩=some (.int .i64 k.major)/\W'.cell? ⟨w.heap.size,1,none⟩=some (.int .i64 k.minor)/\W'.cell? ⟨w.heap.size,2,none⟩=some (.slice k.eA k.ex.length k.eC)/\W'.cell? ⟨w.heap.size+1,5,none⟩=some (.slice (some ad) im.length iC)/\W'.cell? (ad.add (j*4))=some (.string im[j].mod)/\W'.cell? ⟨(ad.add (j*4)).block,(ad.add (j*4)).off+1,none⟩=some (.string im[j].name)/\W'.cell? ⟨(ad.add (j*4)).block,(ad.add (j*4)).off+2,none⟩=some (iv im[j].major)/\W'.cell? ⟨(ad.add (j*4)).block,(ad.add (j*4)).off+3,none⟩=some (iv im[j].minor))->Below w.heap.size w W':=fun W' hc=>HX.trans (hc.1.mono (by omega))
   have HC0:=Hp hC0
   have HCD:=Hp hCD
   have HCS:=Hp hCS
   have HCB:=Hp hCB
   clear hC0 hCD hCS hCB
   by_cases u:v2=0
   ·obtain rfl:=u
    have e3:=Hp (e2.out rfl)
    go_wp2_with fail
    go_region_held3 (fun W'=>Below wr.heap.size wr W'/\W'.cell? ⟨w.heap.size,0,none⟩=some (.int .i64 k.major)/\W'.cell? ⟨w.heap.size,1,none⟩=some (.int .i64 k.minor)/\W'.cell? ⟨w.heap.size,2,none⟩=some (.slice k.eA k.ex.length k.eC)/\W'.cell? ⟨w.heap.size+1,5,none⟩=some (.slice (some ad) im.length iC)/\W'.cell? (ad.add (j*4))=some (.string im[j].mod)/\W'.cell? ⟨(ad.add (j*4)).block,(ad.add (j*4)).off+1,none⟩=some (.string im[j].name)/\W'.cell? ⟨(ad.add (j*4)).block,(ad.add (j*4)).off+2,none⟩=some (iv im[j].major)/\W'.cell? ⟨(ad.add (j*4)).block,(ad.add (j*4)).off+3,none⟩=some (iv im[j].minor)) (first|exact HC0.out|exact HCD.out _ (by assumption)|exact HCS.out _ _ (by assumption) (by assumption)|assumption) (first|(go_at_call 258;refine(cJ.out _ (HCB.out _ (by assumption))).mono ?_;rintro e w2 ⟨rfl,hb2⟩))
    clear HC0 HCD HCS HCB
    have hB2:Below wr.heap.size wr w2:=And.left (by assumption)
    have hz3:=hB2.size
    go_wp2_with (at_builtin;refine BQ _ rfl _ _ rfl w0.heap.size (.slice vA pre.length vc) pre v1 rfl rfl (own_below HI.out hB2 (GZ3 _)) (by rw[HPL.out];omega) (by omega) ?_;intro v' w4 hin4 hb4)
    go_roundw
    case rel=>exact⟨j+1,pre++[v1],by omega,by go_num,by simp[HPL.out],hin4,e3.out,(HB.trans (hB2.mono (by omega))).trans hb4⟩
    case measure=>(simp[intOf];try omega)
   ·have u':(v2 != 0)=true:=by simp[u]
    have e3:=Hp (e1.out u)
    clear u
    go_wp2_with fail
    go_region_held3 (fun W'=>Below wr.heap.size wr W'/\W'.cell? ⟨w.heap.size,0,none⟩=some (.int .i64 k.major)/\W'.cell? ⟨w.heap.size,1,none⟩=some (.int .i64 k.minor)/\W'.cell? ⟨w.heap.size,2,none⟩=some (.slice k.eA k.ex.length k.eC)/\W'.cell? ⟨w.heap.size+1,5,none⟩=some (.slice (some ad) im.length iC)/\W'.cell? (ad.add (j*4))=some (.string im[j].mod)/\W'.cell? ⟨(ad.add (j*4)).block,(ad.add (j*4)).off+1,none⟩=some (.string im[j].name)/\W'.cell? ⟨(ad.add (j*4)).block,(ad.add (j*4)).off+2,none⟩=some (iv im[j].major)/\W'.cell? ⟨(ad.add (j*4)).block,(ad.add (j*4)).off+3,none⟩=some (iv im[j].minor)) (first|exact HC0.out|exact HCD.out _ (by assumption)|exact HCS.out _ _ (by assumption) (by assumption)|assumption) (first|(go_at_call 258;refine(cJ.out _ (HCB.out _ (by assumption))).mono ?_;rintro e w2 ⟨rfl,hb2⟩))
    clear HC0 HCD HCS HCB
    have hB2:Below wr.heap.size wr w2:=And.left (by assumption)
    have hz3:=hB2.size
    go_wp2_with fail
    go_ret2
    exact⟨⟨none,0,by rw[<-e3.out];rfl,by rw[<-e3.out];exact Row.nil⟩,HX.trans (hB2.mono (by omega))⟩
  ·have e1:=Hp ((Hf (k:=k) (l:=l) (pre:=pre) hlt).symm.trans HG.out)
   go_wp2_with fail
   go_ret2
   exact⟨⟨vA,vc,by rw[<-e1.out];rfl,by rw[<-e1.out];exact hrow⟩,HX.out⟩
end
section
open Go.RowKit Go.Lib Go.Sort
open Gs (Tx)
theorem CE (A:Option Addr)(c:Nat)(l:List Plc)(i k:Nat)(w:World)(h:aU w A l)(hi:i<l.length)(hk:k<l.length):
  Calls Tryz.prog 109 #[.slice A l.length c,.int .i64 i,.int .i64 k] w fun e w'=>e=.returned (.bool (asks l[i].m (tx l[k].m.name)))/\Below w.heap.size w w':=by
 rw[Fs]
 have hm:=h.each l[i] (GZ9 _)
 have hlen:=h.len
 have hml:=hm.im.2.1
 unfold big at hlen hml
 obtain⟨ad,rfl,hab,_⟩:=RS h.row (GZ4 _ _) i hi
 have KI:=Hp (fun W(hbW:Below w.heap.size w W)=>RS h.row hbW i hi)
 have KK:=Hp (fun W(hbW:Below w.heap.size w W)=>RS h.row hbW k hk)
 have HM:=Hp hm.im.1
 have hi':(i:Int)<l.length:=by omega
 have hk':(k:Int)<l.length:=by omega
 obtain⟨x,hx⟩:=Nm (l[i].m)
 obtain⟨y,hy⟩:=Nm (l[k].m)
 rw[<-hx]at HM hml ⊢
 simp only[<-hx]at KI
 simp only[<-hy]at KK
 rw[<-hy]
 obtain⟨R,hR⟩:=Nm (x.im.any (pW y.name))
 rw[<-hR]
 have HR:=Hp hR
 clear hR hm h hx hy
 go_enter Tryz.func109,Tryz.ntmps109
 go_wp2_with fail
 go_loopw [7] (fun n wr=>∃j:Nat,j<=x.im.length/\n=.int .i64 j/\(∀q(hq:q<x.im.length),q<j->pW y.name x.im[q]=false)/\Below w.heap.size w wr) (fun i _=>x.im.length -(intOf i).toNat)
 case atStart=>exact⟨0,by omega,rfl,by omega,GZ4 _ _⟩
 case round=>
  obtain⟨j,hj,rfl,hN,hb⟩:=hrel
  have HN:=Hp hN
  have HB:=Hp hb
  clear hN
  obtain⟨_,ea,_,a0,a1,a2,a3,a4,a5,a6,a7⟩:=KI.out _ hb
  obtain rfl:=GY3 ea
  obtain⟨_,ea,_,b0,b1,b2,b3,b4,b5,b6,b7⟩:=KK.out _ hb
  obtain rfl:=GY3 ea
  by_cases hlt:j<x.im.length
  ·have hlt':(j:Int)<x.im.length:=by omega
   obtain⟨bd,hbd,hbb,h0,h1,h2,h3⟩:=TA HM.out hb j hlt
   rw[hbd]at a5
   clear hb hbd
   by_cases he:x.im[j].mod=y.name
   ·have he':=str_eq he
    have hrr:=Hp (show R=true by rw[HR.out];exact List.any_eq_true.2 ⟨_,GZ9 hlt,by simp[pW,he]⟩)
    clear he
    go_wp2_with fail
    go_quiet (fail)
    go_wp2_with fail
    go_ret
    exact⟨aV hrr.symm,below_drewN HB.out _⟩
   ·have he':=mY he
    have HEE:=Hp (show pW y.name x.im[j]=false by simp[pW,he])
    clear he
    go_wp2_with fail
    go_quiet (fail)
    go_wp2_with fail
    go_roundw
    case rel=>exact⟨j+1,by omega,by go_num,fun k hk hkj=>by rcases Nat.lt_succ_iff_lt_or_eq.1 hkj with h|rfl;exact HN.out k hk h;exact HEE.out,below_drewN HB.out _⟩
    case measure=>(simp[intOf];try omega)
  ·have hrr:=Hp (show R=false by
    rw[HR.out,List.any_eq_false]
    intro z hz
    obtain⟨q,hq,e⟩:=List.getElem_of_mem hz
    rw[<-e,HN.out q hq (by omega)];simp)
   clear hb
   go_wp2_with fail
   go_ret
   exact⟨aV hrr.symm,HB.out⟩
end
end Go.Proofs.YtjiedaialianmaaGreat
