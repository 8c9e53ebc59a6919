import Derived.Test.YtjiedaialianmaaGreatA18
import Derived.Test.YtjiedaialianmaaGreatA19
import Derived.Test.YtjiedaialianmaaGreatBLaPaPlReRu01
import Derived.Test.YtjiedaialianmaaGreatBPlReRu02
import Derived.Test.YtjiedaialianmaaGreatBPlReRu03
set_option maxRecDepth 100000
set_option maxHeartbeats 8000000
namespace Go.Proofs.YtjiedaialianmaaGreat
section
open Go.RowKit
open Gs (Tx)
theorem CK (k:Krn)(A:Option Addr)(c:Nat)(l:List Plc)(w:World)(hk:k.ok w)(h:aU w A l):
  Calls Tryz.prog 101 #[k.v,.slice A l.length c] w fun e w'=>e=.returned (.int .i64 (aX k l))/\Below w.heap.size w w':=by
 obtain⟨w0,hw0⟩:=Nm (w.alloc (.cells #[.int .i64 k.major,.int .i64 k.minor,.slice k.eA k.ex.length k.eC] 24))
 obtain⟨g0,g1,g2,hz,hb0⟩:=uE hw0
 have H0:=Hp hb0
 have hw0':=hw0.symm
 have c1:=Hp (iT k w0 (hk.below hb0))
 have c2:=Hp (fun W(hb:Below w.heap.size w W)=>Uf A c l W (h.below hb))
 have c3:=Hp (fun W(hb:Below w.heap.size w W)=>Fe A c l W (h.row.below hb) h.len)
 obtain⟨E,hE⟩:=Nm (aX k l)
 rw[<-hE]
 unfold aX at hE
 clear hw0 hb0 hk h
 generalize bJ k=ke at*
 generalize RY l=re at*
 generalize dD l=tw at*
 by_cases t1:ke=0
 ·obtain rfl:=t1
  rw[if_neg (by omega)]at hE
  by_cases t2:re=0
  ·obtain rfl:=t2
   rw[if_neg (by omega)]at hE
   cases tw
   ·rw[if_neg (by simp)]at hE
    go_enter Tryz.func101,Tryz.ntmps101
    go_wp2_with (first|(go_at_call 17;(with_reducible refine(c1.out).mono ?_);rintro e w1 ⟨rfl,hb1⟩)|(go_at_call 174;(with_reducible refine(c2.out _ (H0.out.trans (hb1.mono (by omega)))).mono ?_);rintro e w2 ⟨rfl,hb2⟩)|(go_at_call 175;(with_reducible refine(c3.out _ ((H0.out.trans (hb1.mono (by omega))).trans (hb2.mono (by have:=hb1.size;omega)))).mono ?_);rintro e w3 ⟨rfl,hb3⟩))
    go_ret
    exact⟨aC hE.symm,((H0.trans (hb1.mono (by omega))).trans (hb2.mono (by have:=hb1.size;omega))).trans (hb3.mono (by have:=hb1.size;have:=hb2.size;omega))⟩
   ·rw[if_pos rfl]at hE
    go_enter Tryz.func101,Tryz.ntmps101
    go_wp2_with (first|(go_at_call 17;(with_reducible refine(c1.out).mono ?_);rintro e w1 ⟨rfl,hb1⟩)|(go_at_call 174;(with_reducible refine(c2.out _ (H0.out.trans (hb1.mono (by omega)))).mono ?_);rintro e w2 ⟨rfl,hb2⟩)|(go_at_call 175;(with_reducible refine(c3.out _ ((H0.out.trans (hb1.mono (by omega))).trans (hb2.mono (by have:=hb1.size;omega)))).mono ?_);rintro e w3 ⟨rfl,hb3⟩))
    go_ret
    exact⟨aC hE.symm,((H0.trans (hb1.mono (by omega))).trans (hb2.mono (by have:=hb1.size;omega))).trans (hb3.mono (by have:=hb1.size;have:=hb2.size;omega))⟩
  ·rw[if_pos t2]at hE
   have t2':(re==0)=false:=by simp[t2]
   clear t2 c3
   go_enter Tryz.func101,Tryz.ntmps101
   go_wp2_with (first|(go_at_call 17;(with_reducible refine(c1.out).mono ?_);rintro e w1 ⟨rfl,hb1⟩)|(go_at_call 174;(with_reducible refine(c2.out _ (H0.out.trans (hb1.mono (by omega)))).mono ?_);rintro e w2 ⟨rfl,hb2⟩))
   go_ret
   exact⟨aC hE.symm,(H0.trans (hb1.mono (by omega))).trans (hb2.mono (by have:=hb1.size;omega))⟩
 ·rw[if_pos t1]at hE
  have t1':(ke==0)=false:=by simp[t1]
  clear t1 c2 c3
  go_enter Tryz.func101,Tryz.ntmps101
  go_wp2_with (first|(go_at_call 17;(with_reducible refine(c1.out).mono ?_);rintro e w1 ⟨rfl,hb1⟩))
  go_ret
  exact⟨aC hE.symm,H0.trans (hb1.mono (by omega))⟩
def Ko :Value->Nat| .string s=>s.size|_=>0
theorem Ah {n:Nat}{s:Tx}(h:s.length<n):pad n (s++[255])=pad n s:=by
 unfold pad
 rw[List.append_assoc]
 congr 1
 have e:n -s.length=(n -(s++[255]).length)+1:=by simp;omega
 rw[e,List.replicate_succ];rfl
theorem Au {n:Nat}{s:Tx}(h:s.length=n):pad n s=s:=by
 unfold pad;rw[h,Nat.sub_self];simp
theorem FH (t:Tx):bs t++⟨#[255]⟩=bs (t++[255]):=ba_eq (by rw[dY])
theorem Gv (k:Krn)(A:Option Addr)(c:Nat)(l:List Plc)(j:Nat)(w:World)(hj:j<l.length)(hk:k.ok w)(h:aU w A l)(hp:iB k l=0)(hm:aL l[j].m=0)(h0:0<=l[j].first)(h1:l[j].first<=16):
  Calls Tryz.prog 177 #[k.v,.slice A l.length c,.int .i64 j] w fun e w'=>e=.returned (.tuple #[.string (bs (fE k l l[j]).1),.int .i64 (fE k l l[j]).2])/\Below w.heap.size w w':=by
 have hlen:=h.len
 unfold big at hlen
 have hj':(j:Int)<l.length:=by omega
 have KJ:=Hp (fun W(hbW:Below w.heap.size w W)=>RS h.row hbW j hj)
 have hx:=h.each l[j] (GZ9 _)
 obtain⟨wk,hwk⟩:=Nm (w.alloc (.cells #[.int .i64 k.major,.int .i64 k.minor,.slice k.eA k.ex.length k.eC] 24))
 obtain⟨g0,g1,g2,hzk,hbk⟩:=uE hwk
 obtain⟨ad,rfl,hab,p0,p1,p2,p3,p4,p5,p6,p7⟩:=KJ.out wk hbk
 obtain⟨y,hy⟩:=Nm (l[j]'hj)
 rw[<-hy]at hm h0 h1 hx p0 p1 p2 p3 p4 p5 p6 p7 ⊢
 simp only[<-hy]at KJ
 obtain⟨w0,hw0⟩:=Nm (wk.alloc (.cells #[.string y.m.name,.int .i64 y.m.major,.int .i64 y.m.minor,.string y.m.text,.slice y.m.eA y.m.ex.length y.m.eC,.slice y.m.iA y.m.im.length y.m.iC,.slice y.m.pA y.m.pa.length y.m.pC] 70))
 obtain⟨f0,f1,f2,f3,f4,f5,f6,hz0,hb0⟩:=wE hw0
 rw[hzk]at f0 f1 f2 f3 f4 f5 f6 hz0 hb0
 have k0:=(hb0.cell (p:=⟨w.heap.size,0,none⟩) (by simp)).trans g0
 have k1:=(hb0.cell (p:=⟨w.heap.size,1,none⟩) (by simp)).trans g1
 have k2:=(hb0.cell (p:=⟨w.heap.size,2,none⟩) (by simp)).trans g2
 have hbw:=hbk.trans (hb0.mono (by omega))
 have H0:=Hp hbw
 have hwk':=hwk.symm
 have hw0':=hw0.symm
 have hfm:=aY hm
 have HPS:=Hp (show∀p∈y.m.pa,p.sym<y.m.im.length from GY hm)
 obtain⟨mt1,mt2,mt3⟩:=xC y.m
 have hMany:=gK hm
 have ht:y.m.text.size<=256:=hfm.2.2.1
 have hi6:y.m.im.length<=6:=hfm.2.2.2.2.2.2.1
 have hpl:y.m.pa.length<=12:=hfm.2.2.2.2.2.2.2.1
 have cA:=Hp (VG k (some ad) c l y.m.name y.m.text y.m.major y.m.minor y.m.ex y.m.im y.m.pa y.m.eA y.m.iA y.m.pA y.m.eC y.m.iC y.m.pC w0 (hk.below hbw) (h.below hbw) (hx.below hbw).im hi6 hp)
 have HAL:=Hp (Tf (k:=k) (l:=l) (r:=y.m.im))
 have HPA:=Hp (show Row Pat.cells 4 w0 y.m.pA y.m.pa from(hx.below hbw).pa.1)
 have hI:fE k l y=if(aN k l y.m.im).2≠0 then([],(aN k l y.m.im).2)else if(bH (aN k l y.m.im).1 (bV y) y.m.pa y.m.text).2≠0 then([],(bH (aN k l y.m.im).1 (bV y) y.m.pa y.m.text).2)else(pad (64*(aH y.m).toNat) (tx (bH (aN k l y.m.im).1 (bV y) y.m.pa y.m.text).1),0):=rfl
 obtain⟨I,hII⟩:=Nm (fE k l y)
 rw[<-hII]at hI ⊢
 generalize aN k l y.m.im=ads at*
 obtain⟨ns,er⟩:=ads
 simp only at cA HAL hI
 have hb0f:bV y=4096+64*y.first:=rfl
 have q1:IntKind.i64.wrap (64*y.first)=64*y.first:=IntWalk.i64_in _ (by omega)
 have q2:IntKind.i64.wrap (4096+64*y.first)=bV y:=IntWalk.i64_in _ (by omega)
 clear hII hwk hw0 hbk hb0 hbw g0 g1 g2 hk h hx hp hm hfm hy
 have hz1:w.heap.size+1<w0.heap.size:=by omega
 have hz2:w.heap.size<w0.heap.size:=by omega
 clear hz0
 by_cases te:er=0
 ·subst te
  rw[if_neg (by simp)]at hI
  have hnl:=HAL.out rfl
  obtain⟨R,hRR⟩:=Nm (bH ns (bV y) y.m.pa y.m.text)
  rw[<-hRR]at hI
  have HRR:=Hp hRR.symm
  have HI:=Hp hI
  have HNL:=Hp hnl
  have HBA:=Hp (show bV y=bV y from rfl)
  generalize bV y=BA at*
  subst hb0f
  clear hI hRR hnl HAL
  go_enter Tryz.func177,Tryz.ntmps177
  go_wp2_with (go_at_call 230;(with_reducible refine(cA.out).mono ?_);rintro e w2 ⟨⟨sA,sC,rfl,hr2⟩,hb2⟩;have HR2:=Hp hr2;have HB2:=Hp hb2;obtain⟨hc2,hf2⟩:=aJ hb2;have hz3:w.heap.size+1<w2.heap.size:=(by have:=hb2.size;omega);have hz4:w.heap.size<w2.heap.size:=(by omega);have hab2:(ad.add (j*8)).block<w2.heap.size:=(by rw[aA];omega);obtain⟨_,ea,_,m0,m1,m2,m3,m4,m5,m6,m7⟩:=KJ.out _ (H0.out.trans (hb2.mono H0.out.size));obtain rfl:=GY3 ea;clear hr2 hb2)
  have HPA2:=Hp (HPA.below HB2)
  have x6:=(HB2.cell (p:=⟨w.heap.size+1,6,none⟩) hz1).trans f6
  have HX6:=Hp x6
  have HBW:=Hp (H0.trans (HB2.mono H0.size))
  clear hc2 hf2 m0 m1 m2 m3 m4 m5 m6 m7 x6
  go_loopw [10,12,13] (fun cd v i wr=>∃(n:Nat)(s:ByteArray),n<=y.m.pa.length/\cd=.int .i64 0/\v=.string s/\i=.int .i64 n/\s.size=y.m.text.size/\bH ns (4096+64*y.first) (y.m.pa.drop n) s=R/\Below w2.heap.size w2 wr) (fun _ _ i _=>y.m.pa.length -(intOf i).toNat)
  case atStart=>exact⟨0,y.m.text,by omega,rfl,rfl,rfl,rfl,HRR.out,GZ4 _ _⟩
  case round=>
   obtain⟨n,s,hn,rfl,rfl,rfl,hsz,hR,hb⟩:=hrel
   have HSZ:=Hp hsz
   have HR:=Hp hR
   have HB:=Hp hb
   have hsz9:s.size<=256:=by omega
   have m6:=(hb.cell (p:=⟨w.heap.size+1,6,none⟩) hz3).trans HX6.out
   have hz5:w.heap.size+1<wr.heap.size:=by have:=hb.size;omega
   clear hsz hR
   by_cases hlt:n<y.m.pa.length
   ·have hlt':(n:Int)<y.m.pa.length:=by omega
    obtain⟨pd,hpd,hpb,a0,a1,a2,a3⟩:=qE HPA2.out hb n hlt
    rw[hpd]at m6
    have hsy:=HPS.out y.m.pa[n] (GZ9 _)
    have E1:=Hp (fun e=>(U3 (at_:=ns) (base:=(4096+64*y.first)) (s:=s) hlt e).symm.trans HR.out)
    have E2:=Hp (fun e=>(sQ (at_:=ns) (base:=(4096+64*y.first)) (s:=s) hlt e).trans HR.out)
    have E3:=Hp (show RO s.size y.m.pa[n].kind y.m.pa[n].at_ y.m.pa[n].add (iX ns (4096+64*y.first) y.m.pa[n]) (4096+64*y.first)=0->(bS s y.m.pa[n].kind y.m.pa[n].at_ y.m.pa[n].add (iX ns (4096+64*y.first) y.m.pa[n]) (4096+64*y.first)).size=s.size from fun e=>Rz e)
    obtain⟨q,hq⟩:=Nm (y.m.pa[n]'hlt)
    rw[<-hq]at a0 a1 a2 a3 hsy
    simp only[<-hq]at E1 E2 E3
    obtain⟨S,hS⟩:=Nm (iX ns (4096+64*y.first) q)
    simp only[<-hS]at E1 E2 E3
    unfold iX at hS
    have cP:=Hp (fun W=>IQ s q.kind q.at_ q.sym q.add S (4096+64*y.first) W (by omega))
    obtain⟨E,hE⟩:=Nm (RO s.size q.kind q.at_ q.add S (4096+64*y.first))
    obtain⟨T,hT⟩:=Nm (bS s q.kind q.at_ q.add S (4096+64*y.first))
    simp only[<-hE,<-hT]at cP E1 E2 E3
    clear hq hE hT hpd
    by_cases t:q.sym<0
    ·rw[if_pos t]at hS
     subst hS
     have t':decide (0<=q.sym)=false:=by simp;omega
     clear t hsy hb
     by_cases tE:E=0
     ·subst tE
      have e2:=Hp (E2.out rfl)
      have e3:=Hp ((E3.out rfl).trans HSZ.out)
      clear E1 E2 E3
      go_wp2_with (go_at_call 231;(with_reducible refine(cP.out _).mono ?_);rintro e w5 ⟨rfl,hb5⟩)
      go_roundw
      case rel=>exact⟨n+1,T,by omega,by rfl,by rfl,by go_num,e3.out,e2.out,HB.trans (hb5.mono HB.size)⟩
      case measure=>(simp[intOf];try omega)
     ·have e1:=Hp (E1.out tE)
      have tE':(E != 0)=true:=by simp[tE]
      have HTE:=Hp tE
      clear tE E1 E2 E3
      go_wp2_with (go_at_call 231;(with_reducible refine(cP.out _).mono ?_);rintro e w5 ⟨rfl,hb5⟩)
      go_ret2
      refine⟨?_,HBW.trans ((HB.trans (hb5.mono HB.size)).mono HBW.size)⟩
      rw[HI.out,<-e1.out,if_pos HTE.out];rfl
    ·rw[if_neg t]at hS
     obtain⟨m,hm⟩:∃m:Nat,q.sym=m:=⟨q.sym.toNat,by omega⟩
     have hml:m<ns.length:=by have:=HNL.out;omega
     have hml':(m:Int)<ns.length:=by omega
     rw[hm]at hS a2 cP
     rw[Int.toNat_natCast,List.getD_eq_getElem?_getD,GY5 hml,Option.getD_some]at hS
     obtain⟨sa,hsa,hsb,i0⟩:=KR HR2.out hb m hml
     rw[<-hS]at i0
     subst hsa
     clear t hsy hb hS hm
     by_cases tE:E=0
     ·subst tE
      have e2:=Hp (E2.out rfl)
      have e3:=Hp ((E3.out rfl).trans HSZ.out)
      clear E1 E2 E3
      go_wp2_with (go_at_call 231;(with_reducible refine(cP.out _).mono ?_);rintro e w5 ⟨rfl,hb5⟩)
      go_roundw
      case rel=>exact⟨n+1,T,by omega,by rfl,by rfl,by go_num,e3.out,e2.out,HB.trans (hb5.mono HB.size)⟩
      case measure=>(simp[intOf];try omega)
     ·have e1:=Hp (E1.out tE)
      have tE':(E != 0)=true:=by simp[tE]
      have HTE:=Hp tE
      clear tE E1 E2 E3
      go_wp2_with (go_at_call 231;(with_reducible refine(cP.out _).mono ?_);rintro e w5 ⟨rfl,hb5⟩)
      go_ret2
      refine⟨?_,HBW.trans ((HB.trans (hb5.mono HB.size)).mono HBW.size)⟩
      rw[HI.out,<-e1.out,if_pos HTE.out];rfl
   ·have e1:=Hp ((U9 (at_:=ns) (base:=4096+64*y.first) (s:=s) hlt).symm.trans HR.out)
    obtain rfl:n=y.m.pa.length:=by omega
    obtain⟨M,hMM⟩:∃M:Nat,aH y.m=M:=⟨(aH y.m).toNat,by omega⟩
    obtain⟨G,hG⟩:=Nm (pad (64*M) (tx s))
    have HG:=Hp hG.symm
    have HII:=Hp (show I=(G,0) by rw[HI.out,<-e1.out,if_neg (by simp),hMM,hG];rfl)
    rw[hMM]at mt1 mt2 hMany
    have hss:(tx s).length=s.size:=rfl
    have HSS:=Hp (show(bs (tx s))=s from rfl)
    have hsz:=HSZ.out
    clear hlt hG hMM mt3
    go_wp2_with fail
    go_loopw [12] (fun v wz=>∃u:Tx,v=.string (bs u)/\u.length<=64*M/\64*M<u.length+64/\pad (64*M) u=G/\Below wr.heap.size wr wz) (fun v _=>64*M -Ko v)
    case atStart=>exact⟨tx s,rfl,by omega,by omega,HG.out,GZ4 _ _⟩
    case round=>
     obtain⟨u,rfl,hu1,hu2,hpu,hbz⟩:=hrel
     have HPU:=Hp hpu
     have HBZ:=Hp hbz
     have hus:(bs u).size=u.length:=rfl
     clear hpu hbz
     by_cases hl2:u.length<64*M
     ·have hr1:0<(u.length:Int) % 64:=by omega
      have g9:∀W,(Op.stringOp .add (bs u) ⟨#[255]⟩).run Tryz.prog W=.ok (.string (bs u++⟨#[255]⟩)) W:=fun W=>run_string_add_sum _ _ _ (by rw[hus];show _+1<=_;omega)
      rw[FH]at g9
      go_wp2_with fail
      go_roundw
      case rel=>exact⟨u++[255],rfl,by simp;omega,by simp;omega,(Ah hl2).trans HPU.out,HBZ.out⟩
      case measure=>(simp only[Ko];show _ -(u++[255]).length<_ -u.length;simp;omega)
     ·have hr1:(u.length:Int) % 64=0:=by omega
      have HU:=Hp ((Au (show u.length=64*M by omega)).symm.trans HPU.out)
      go_wp2_with fail
      go_ret2
      refine⟨?_,HBW.trans ((HB.trans (HBZ.mono HB.size)).mono HBW.size)⟩
      rw[HII.out,HU.out]
      rfl
 ·rw[if_pos te]at hI
  have te':(er != 0)=true:=by simp[te]
  have HI:=Hp hI
  clear hI te HAL
  go_enter Tryz.func177,Tryz.ntmps177
  go_wp2_with (go_at_call 230;(with_reducible refine(cA.out).mono ?_);rintro e w2 ⟨⟨sA,sC,rfl,hr2⟩,hb2⟩;have HB2:=Hp hb2;clear hr2 hb2)
  go_ret2
  exact⟨by rw[HI.out];rfl,H0.trans (HB2.mono H0.size)⟩
theorem Ij (k:Krn)(A:Option Addr)(c:Nat)(l:List Plc)(w:World)(hk:k.ok w)(h:aU w A l)(hL:aX k l=0):
  Calls Tryz.prog 103 #[k.v,.slice A l.length c] w fun e w'=>e=.returned (.tuple #[.string (bs (TL k l)),.int .i64 (iP k l)])/\Below w.heap.size w w':=by
 have hlen:=h.len
 unfold big at hlen
 have hE:iP k l=(bU k l l 0).2:=by unfold iP;rw[if_neg (by omega)]
 have hT:TL k l=(bU k l l 0).1:=by unfold TL;rw[if_neg (by omega)]
 rw[hE,hT]
 obtain⟨w0,hw0⟩:=Nm (w.alloc (.cells #[.int .i64 k.major,.int .i64 k.minor,.slice k.eA k.ex.length k.eC] 24))
 obtain⟨g0,g1,g2,hz,hb0⟩:=uE hw0
 have hz0:w.heap.size<w0.heap.size:=by omega
 have H0:=Hp hb0
 have hw0':=hw0.symm
 have HP:=Hp h
 have HK:=Hp hk
 have HPL:=Hp (dM hL).2.2.2
 have HRW:=Hp (cZ (dM hL).2.1).2.2
 have HEA:=Hp (Uc hL)
 obtain⟨R,hRR⟩:=Nm (bU k l l 0)
 rw[<-hRR]
 have HRR:=Hp hRR.symm
 have HK0:=Hp g0
 have HK1:=Hp g1
 have HK2:=Hp g2
 clear hw0 hb0 hz hL h hk hE hT hRR g0 g1 g2
 go_enter Tryz.func103,Tryz.ntmps103
 go_wp2_with fail
 go_loopw [6,7] (fun v i wr=>∃(j:Nat)(a:Int)(pre:Tx),j<=l.length/\i=.int .i64 j/\v=.string (bs pre)/\0<=a/\a<=16/\bW a (l.drop j)/\(pre.length:Int)=64*a/\qK pre (bU k l (l.drop j) a)=R/\Below w0.heap.size w0 wr) (fun _ i _=>l.length -(intOf i).toNat)
 case atStart=>exact⟨0,0,[],by omega,rfl,rfl,by omega,by omega,HRW.out,rfl,by rw[Dk];exact HRR.out,GZ4 _ _⟩
 case round=>
  obtain⟨j,a,pre,hj,rfl,rfl,ha0,ha1,hrw,hpl,hR,hb⟩:=hrel
  have HB:=Hp hb
  have HR:=Hp hR
  have HPL2:=Hp hpl
  have HRW2:=Hp hrw
  have hpre:pre.length<=1024:=by omega
  have hps:(bs pre).size=pre.length:=rfl
  clear hR hrw
  by_cases hlt:j<l.length
  ·have hlt':(j:Int)<l.length:=by omega
   obtain⟨r1,r2,r3,r4⟩:=Fp HRW2.out hlt
   obtain⟨q1,q2,q3⟩:=HEA.out l[j] (GZ9 _)
   have hb9:=H0.trans (hb.mono H0.size)
   obtain⟨ad,rfl,hab,f0,f1,f2,f3,f4,f5,f6,f7⟩:=RS HP.row hb9 j hlt
   have KJ:=Hp (fun W(hbW:Below w.heap.size w W)=>RS HP.row hbW j hlt)
   have m0:=(hb.cell (p:=⟨w.heap.size,0,none⟩) hz0).trans HK0.out
   have m1:=(hb.cell (p:=⟨w.heap.size,1,none⟩) hz0).trans HK1.out
   have m2:=(hb.cell (p:=⟨w.heap.size,2,none⟩) hz0).trans HK2.out
   have hwz:=hb.size
   have hz2:w.heap.size<wr.heap.size:=by omega
   have E1:=Hp (fun e=>(IU (k:=k) (pre:=pre) (a:=a) hlt e).symm.trans HR.out)
   have E2:=Hp (fun e=>(Cs (k:=k) (pre:=pre) (a:=a) hlt e).trans HR.out)
   have E3:=Hp (fun(e:(fE k l (l[j]'hlt)).2=0)=>wH (k:=k) (l:=l) (x:=l[j]'hlt) e)
   have cI:=Hp (fun W(hW:Below w.heap.size w W)=>Gv k (some ad) c l j W hlt (HK.below hW) (HP.below hW) HPL.out q1 q2 q3)
   have hEn:aR l[j]=l[j].first+aH l[j].m:=rfl
   have hle:=bW.le r4
   obtain⟨y,hy⟩:=Nm (l[j]'hlt)
   simp only[<-hy]at f0 f1 f2 f3 f4 f5 f6 f7 E1 E2 E3 cI hEn hle r1 r2 r3 r4 q2 q3 KJ
   have R4:=Hp r4
   have HB9:=Hp hb9
   clear hb hb9 hy q1 r4
   obtain⟨⟨G,ge⟩,hG⟩:∃G,G=fE k l y:=⟨_,rfl⟩
   simp only[<-hG]at cI E1 E2 E3
   clear hG
   by_cases tE:ge=0
   ·subst tE
    have e2:=E2.out rfl
    have e3:=E3.out rfl
    have HGL:=Hp e3
    have hgl9:G.length<=256:=by omega
    have hgs:(bs G).size=G.length:=rfl
    obtain⟨N,hN⟩:∃N:Nat,N=(64*y.first).toNat:=⟨_,rfl⟩
    have hN2:(N:Int)=64*y.first:=by omega
    obtain⟨G0,hG0⟩:=Nm (pre++List.replicate (64*(y.first -a)).toNat 255)
    have HG0:=Hp (show pad N pre=G0 by rw[hG0];unfold pad;congr 2;omega)
    have HG1:=Hp (show G0.length=N by rw[hG0,GZ8,List.length_replicate];omega)
    rw[<-List.append_assoc,<-hG0]at e2
    have hl0:pre.length<=N:=by omega
    have E2:=Hp e2
    have q4:IntKind.i64.wrap (64*y.first)=N:=by rw[hN2];exact IntWalk.i64_in _ (by omega)
    have HN:=Hp hN2
    have hN9:N<=1024:=by omega
    have HPS:=Hp hps
    clear e2 e3 E1 E3 f0 f1 f2 f3 f4 f5 f6 f7 hG0 hN hN2 hpl hps
    go_wp2_with (go_at_call 177;(with_reducible refine(cI.out _ HB9.out).mono ?_);rintro e w5 ⟨rfl,hb5⟩;have HB5:=Hp hb5;clear hb5)
    have HB8:=Hp (HB9.trans (HB5.mono HB9.size))
    have hw5:w0.heap.size<=w5.heap.size:=by have:=HB5.size;omega
    have HEN:=Hp hEn
    have HGS:=Hp hgs
    clear hEn hgs
    go_loopw [6] (fun v wz=>∃u:Tx,v=.string (bs u)/\u.length<=N/\pad N u=G0/\Below w5.heap.size w5 wz) (fun v _=>N -Ko v)
    case atStart=>exact⟨pre,rfl,hl0,HG0.out,GZ4 _ _⟩
    case round=>
     obtain⟨u,rfl,hu1,hpu,hbz⟩:=hrel
     have HPU:=Hp hpu
     have HBZ:=Hp hbz
     have hus:(bs u).size=u.length:=rfl
     obtain⟨_,ea,_,f0,f1,f2,f3,f4,f5,f6,f7⟩:=KJ.out _ (HB8.trans (hbz.mono HB8.size))
     obtain rfl:=GY3 ea
     clear hpu hbz
     by_cases hl2:u.length<N
     ·have hl3:(u.length:Int)<N:=by omega
      have g9:∀W,(Op.stringOp .add (bs u) ⟨#[255]⟩).run Tryz.prog W=.ok (.string (bs u++⟨#[255]⟩)) W:=fun W=>run_string_add_sum _ _ _ (by rw[hus];show _+1<=_;omega)
      rw[FH]at g9
      go_wp2_with fail
      go_roundw
      case rel=>exact⟨u++[255],rfl,by simp;omega,(Ah hl2).trans HPU.out,HBZ.out⟩
      case measure=>(simp only[Ko];show _ -(u++[255]).length<_ -u.length;simp;omega)
     ·have hl3:¬(u.length:Int)<N:=by omega
      have hUG:=(Au (show u.length=N by omega)).symm.trans HPU.out
      subst hUG
      have g9:∀W,(Op.stringOp .add (bs u) (bs G)).run Tryz.prog W=.ok (.string (bs u++bs G)) W:=fun W=>run_string_add_sum _ _ _ (by rw[hus,HGS.out];omega)
      rw[show bs u++bs G=bs (u++G) from ba_eq (by rw[dY])]at g9
      go_wp2_with fail
      go_roundw
      case rel=>exact⟨j+1,aR y,u++G,by omega,by go_num,rfl,by have:=HEN.out;omega,hle,R4.out,by rw[GZ8];have:=HEN.out;have:=HGL.out;have:=HN.out;omega,E2.out,HB.trans ((HB5.trans (HBZ.mono HB5.size)).mono HB.size)⟩
      case measure=>(simp[intOf];try omega)
   ·have e1:=Hp (E1.out tE)
    have tE':(ge != 0)=true:=by simp[tE]
    clear E2 E3 tE
    go_wp2_with (go_at_call 177;(with_reducible refine(cI.out _ HB9.out).mono ?_);rintro e w5 ⟨rfl,hb5⟩;have HB5:=Hp hb5;clear hb5)
    go_ret2
    refine⟨?_,HB9.trans (HB5.mono HB9.size)⟩
    rw[<-e1.out]
    rfl
  ·have e1:=Hp ((IW (k:=k) (pre:=pre) (a:=a) hlt).symm.trans HR.out)
   obtain rfl:j=l.length:=by omega
   obtain⟨G,hG⟩:=Nm (pad 1024 pre)
   have HG:=Hp hG.symm
   have HII:=Hp (show R=(G,0) by
    rw[<-e1.out,hG,pad,show(64*(16 -a)).toNat=1024 -pre.length by omega])
   clear hlt hG hps hpl
   go_wp2_with fail
   go_loopw [6] (fun v wz=>∃u:Tx,v=.string (bs u)/\u.length<=1024/\pad 1024 u=G/\Below wr.heap.size wr wz) (fun v _=>1024 -Ko v)
   case atStart=>exact⟨pre,rfl,hpre,HG.out,GZ4 _ _⟩
   case round=>
    obtain⟨u,rfl,hu1,hpu,hbz⟩:=hrel
    have HPU:=Hp hpu
    have HBZ:=Hp hbz
    have hus:(bs u).size=u.length:=rfl
    clear hpu hbz
    by_cases hl2:u.length<1024
    ·have hl3:(u.length:Int)<1024:=by omega
     have g9:∀W,(Op.stringOp .add (bs u) ⟨#[255]⟩).run Tryz.prog W=.ok (.string (bs u++⟨#[255]⟩)) W:=fun W=>run_string_add_sum _ _ _ (by rw[hus];show _+1<=_;omega)
     rw[FH]at g9
     go_wp2_with fail
     go_roundw
     case rel=>exact⟨u++[255],rfl,by simp;omega,(Ah hl2).trans HPU.out,HBZ.out⟩
     case measure=>(simp only[Ko];show _ -(u++[255]).length<_ -u.length;simp;omega)
    ·have hl3:¬(u.length:Int)<1024:=by omega
     have HU:=Hp ((Au (show u.length=1024 by omega)).symm.trans HPU.out)
     go_wp2_with fail
     go_ret2
     refine⟨?_,H0.trans ((HB.trans (HBZ.mono HB.size)).mono H0.size)⟩
     rw[HII.out,HU.out]
     rfl
end
section
open Go
open Gs (Tx)
theorem DT {first many:Int}(hm:1<=many):∀{l:List Plc}{a:Int},bW a l->first<a->(dC a l).any (jU first many)=false
 | [],a,h,hf=>by
  unfold dC Rb
  split
  ·simp[jU];intro h;omega
  ·rfl
 |x::l,a,⟨h1,h2,h3,h4⟩,hf=>by
  have e:aR x=x.first+aH x.m:=rfl
  unfold dC
  rw[List.any_append,DT hm h4 (by omega),Bool.or_false]
  unfold Rb
  split
  ·simp[jU];intro h;omega
  ·rfl
def fT (first many:Int)(x:Plc):Bool:=decide (first<x.first)&&decide (x.first<first+many)
theorem Fb {first many:Int}:∀{l:List Plc}{a:Int},bW a l->first+many<=a->l.any (fT first many)=false
 | [],_,_,_=>rfl
 |x::l,a,⟨h1,h2,h3,h4⟩,h=>by
  have e:aR x=x.first+aH x.m:=rfl
  rw[List.any_cons,Fb h4 (by omega),Bool.or_false]
  simp only[fT,Bool.and_eq_false_iff,decide_eq_false_iff_not]
  right;omega
theorem IV {first many:Int}(hm:1<=many):∀{l:List Plc}{a:Int},bW a l->a<=first->(∀x∈l,aR x<=first\/first<x.first)->
  (dC a l).any (jU first many)=(decide (first+many<=16)&&!l.any (fT first many))
 | [],a,h,ha,_=>by
  have h:a<=16:=h
  unfold dC Rb
  split
  ·simp only[List.any_cons,List.any_nil,Bool.or_false,Bool.not_false,Bool.and_true,jU]
   rw[decide_eq_true ha,Bool.true_and]
   congr 1
   simp only[eq_iff_iff];omega
  ·simp only[List.any_nil,Bool.not_false,Bool.and_true]
   symm
   simp;omega
 |x::l,a,⟨h1,h2,h3,h4⟩,ha,hx=>by
  have e:aR x=x.first+aH x.m:=rfl
  have hle:=h4.le
  unfold dC
  rw[List.any_append,List.any_cons]
  rcases hx x (by simp)with hx0|hx0
  ·rw[IV hm h4 hx0 (fun y hy=>hx y (List.mem_cons_of_mem _ hy))]
   have h5:(Rb a x.first).any (jU first many)=false:=by
    unfold Rb
    split
    ·simp[jU];intro _;omega
    ·rfl
   have h6:fT first many x=false:=by
    simp only[fT,Bool.and_eq_false_iff,decide_eq_false_iff_not]
    left;omega
   rw[h5,h6,Bool.false_or,Bool.false_or]
  ·rw[DT hm h4 (by omega),Bool.or_false]
   unfold Rb
   rw[if_pos (by omega)]
   simp only[List.any_cons,List.any_nil,Bool.or_false,jU]
   rw[decide_eq_true ha,Bool.true_and]
   by_cases h7:first+many<=x.first
   ·rw[Fb h4 (by omega),Bool.or_false]
    have h6:fT first many x=false:=by
     simp only[fT,Bool.and_eq_false_iff,decide_eq_false_iff_not]
     right;omega
    rw[h6,decide_eq_true (show first+many<=16 by omega)]
    simp;omega
   ·have h6:fT first many x=true:=by
     simp only[fT,Bool.and_eq_true,decide_eq_true_eq]
     omega
    rw[h6,Bool.true_or,Bool.not_true,Bool.and_false]
    simp;omega
theorem FB :∀{l:List Plc}{a:Int},bW a l->∀x∈l,a<=x.first
 |y::l,a,⟨g1,g2,g3,g4⟩,x,hx=>by
  rcases List.mem_cons.1 hx with rfl|hx
  ·exact g1
  ·have:=FB g4 x hx
   have e:aR y=y.first+aH y.m:=rfl
   omega
theorem Da :∀{l:List Plc}{a:Int}{j:Nat},bW a l->∀hj:j<l.length,∀x∈l.eraseIdx j,aR x<=l[j].first\/aR l[j]<=x.first
 |y::l,a,0,⟨h1,h2,h3,h4⟩,_,x,hx=>.inr (FB h4 x hx)
 |y::l,a,j+1,⟨h1,h2,h3,h4⟩,hj,x,hx=>by
  have hj':j<l.length:=by simpa using hj
  rw[List.eraseIdx_cons_succ]at hx
  rcases List.mem_cons.1 hx with rfl|hx
  ·left
   have:=FB h4 l[j] (GZ9 _)
   simpa using this
  ·simpa using Da h4 hj' x hx
theorem free_at {l:List Plc}{nm:ByteArray}{many:Int}{j:Nat}(hm:1<=many)(hr:bW 0 l)(h:idxOf (named nm) l=j):
  (RI (Rc l nm)).any (jU (dH l nm) many)=(decide (dH l nm+many<=16)&&!(l.eraseIdx j).any (fT (dH l nm) many)):=by
 obtain⟨hj,e⟩:=nK h
 unfold Rc
 rw[h,Int.toNat_natCast,e]
 refine IV hm (hr.erase j) (rU hr _ (GZ9 hj)).1 (fun x hx=>?_)
 rcases Da hr hj x hx with h1|h1
 ·exact .inl h1
 ·refine .inr (Int.lt_of_lt_of_le ?_ h1)
  have:∀{l:List Plc}{a:Int},bW a l->∀x∈l,1<=aH x.m:=by
   intro l
   induction l with
   |nil=>intro a _ x hx;cases hx
   |cons z l ih=>
    intro a ⟨g1,g2,g3,g4⟩ x hx
    rcases List.mem_cons.1 hx with rfl|hx
    ·exact g2
    ·exact ih g4 x hx
  have:=this hr l[j] (GZ9 hj)
  show l[j].first<l[j].first+aH l[j].m
  omega
end
section
open Go
open Gs (Tx)
theorem NV {k:Krn}{l:List Plc}(h:aZ k l=0):(txs l).Nodup:=xE (dM (Sz h).1).2.2.1
theorem Mm {l:List Plc}{nm:ByteArray}{j:Nat}(hn:(txs l).Nodup)(h:idxOf (named nm) l=j):oN l nm=(List.range l.length).any (fun i=>kV l i j):=by
 obtain⟨hj,he,_⟩:=U5 h
 have hnm:tx nm=nmN l j:=by rw[Sq hj,he]
 rw[Bool.eq_iff_iff]
 unfold oN
 rw[List.any_eq_true,List.any_eq_true]
 constructor
 ·rintro⟨x,hx,hd⟩
  obtain⟨i,hi,rfl⟩:=List.getElem_of_mem hx
  refine⟨i,List.mem_range.2 hi,?_⟩
  rw[<-Sq hi,hnm,Jm hn i j hi hj]at hd
  exact hd
 ·rintro⟨i,hi,hd⟩
  have hi:=List.mem_range.1 hi
  refine⟨l[i],GZ9 hi,?_⟩
  rw[<-Sq hi,hnm,Jm hn i j hi hj]
  exact hd
end
section
open Go.RowKit Go.Lib
theorem Pg {W W0:World}{base:Nat}{A A0:Option Addr}{c:Nat}{l l0:List Plc}(h:aP W base (.slice A l.length c) l)(hm:l.map (·.m)=l0.map (·.m))(h0:aU W0 A0 l0)(hb:Below W0.heap.size W0 W):aU W A l:=
 ⟨Reads.of_own h,by rw[kL hm];exact h0.len,fun x hx=>by
  obtain⟨y,hy,e⟩:=oF hm.symm hx
  rw[<-e];exact(h0.each y hy).below hb⟩
theorem Pn {x1 w3:World}{l:List Plc}{v':Value}(hown:w3.ownsRow x1.heap.size 83 8 v' (0+l.length) ([]++l.flatMap Plc.cells))(hgrow:(x1.alloc (.cells #[] 83)).grownBy w3 (Value.slice (some ⟨x1.heap.size,0,none⟩) 0 0).ownBlock):
  ∃A' c',v'=.slice A' l.length c'/\Hid (aP w3 x1.heap.size (.slice A' l.length c') l)/\Below x1.heap.size x1 w3:=by
 obtain⟨A',c',hv⟩:=bG hown
 rw[Nat.zero_add]at hv
 subst hv
 exact⟨A',c',rfl,Hp (by unfold aP;simpa using hown),((GZ4 _ x1).alloc (GZ3 _) _).grown hgrow (by simp) (iW (World.ownsRow_made x1 #[] 0 (GZ3 _) (Nat.zero_le _) rfl (e:=83) (size:=8)))⟩
theorem Ol {x1 w3:World}{b n:Nat}{v0 v1 v2 v3:Value}{t:TypeId}(hb:Below n x1 w3)(hn:b<n)(h:x1.heap[b]? =some (.cells #[v0,v1,v2,v3] t (0,0))):
  Hid (w3.heap[b]? =some (.cells #[v0,v1,v2,v3] t (0,0)))/\w3.cell? ⟨b,3,none⟩=some v3/\w3.frozen? ⟨b,3,none⟩=false:=by
 have h3:=(hb.block b hn).trans h
 exact⟨Hp h3,heap_cell h3 3,heap_free h3 3⟩
theorem JG (k:Krn)(A:Option Addr)(c:Nat)(l:List Plc)(w:World)(h:aU w A l)(hm:∀x∈l,aL x.m=0)(hr:bW 0 l)(h8:l.length<=8):
  Calls Tryz.prog 243 #[rgV k A l c] w fun e w'=>(∃A' c',e=.returned (.tuple #[rgV k A' ((Rj 0 l).getD l) c',.bool (Rj 0 l).isSome])/\aP w' w.heap.size (.slice A' l.length c') ((Rj 0 l).getD l))/\Below w.heap.size w w':=by
 obtain⟨w0,hw0⟩:=Nm (w.alloc (.cells #[.int .i64 k.major,.int .i64 k.minor,.slice k.eA k.ex.length k.eC,.slice A l.length c] 39))
 obtain⟨g0,g1,g2,g3,hz0,hb0⟩:=oJ hw0
 obtain⟨x0,hx0⟩:=Nm (w0.alloc (.cells #[.int .i64 0,.int .i64 0,.slice none 0 0,.slice none 0 0] 39))
 obtain⟨x1,hx1⟩:=Nm (x0.alloc (.cells #[.int .i64 k.major,.int .i64 k.minor,.slice k.eA k.ex.length k.eC,.slice A l.length c] 39))
 have hbx:Below w0.heap.size w0 x0:=hx0▸ZB
 have hby:Below x0.heap.size x0 x1:=hx1▸ZB
 have hzx:x0.heap.size=w.heap.size+2:=by rw[hx0];simp;omega
 have hzy:x1.heap.size=w.heap.size+3:=by rw[hx1];simp;omega
 have hG0:x0.heap[w.heap.size]? =some (.cells #[.int .i64 k.major,.int .i64 k.minor,.slice k.eA k.ex.length k.eC,.slice A l.length c] 39 (0,0)):=by rw[hx0,heap_alloc_old w0 _ (by omega),hw0];exact heap_alloc_new w _
 have hR0:x0.heap[w.heap.size+1]? =some (.cells #[.int .i64 0,.int .i64 0,.slice none 0 0,.slice none 0 0] 39 (0,0)):=by rw[hx0,<-hz0];exact heap_alloc_new w0 _
 obtain⟨_,k0,k1,k2,k3,_⟩:=aB hG0
 have HR1:=Hp ((hby.block (w.heap.size+1) (by omega)).trans hR0)
 have hG1:=(hby.block w.heap.size (by omega)).trans hG0
 have HT1:=Hp (show x1.heap[w.heap.size+2]? =some (.cells #[.int .i64 k.major,.int .i64 k.minor,.slice k.eA k.ex.length k.eC,.slice A l.length c] 39 (0,0)) by rw[hx1,<-hzx];exact heap_alloc_new x0 _)
 have n3:∀o,(x1.alloc o).cell? ⟨w.heap.size,3,none⟩=some (.slice A l.length c):=fun o=>heap_cell ((heap_alloc_old x1 o (by omega)).trans hG1) 3
 have HB1:=Hp ((hb0.trans (hbx.mono hb0.size)).trans (hby.mono (GY1 hb0.size hbx.size)))
 have HZ1:=Hp hzy
 have HP:=Hp h
 have HM:=Hp hm
 have H16:=Hp hr
 obtain⟨i0,hi,hi0,hi1,hi2⟩:=info_parts Tryz.vH
 have hrow:Reads (x1.alloc (.cells #[] 83)) (x1.heap.size+1) 8 A l.length (l.flatMap Plc.cells):=by
  have:=(h.row.below HB1.out).below ((GZ4 _ _).alloc (GZ3 _) (.cells #[] 83))
  unfold Row at this
  simpa using this
 have HROW:=Hp hrow
 have HLT:=Hp (show w.heap.size+2<x1.heap.size by omega)
 have hw0':=hw0.symm
 have hx0':=hx0.symm
 have hx1':=hx1.symm
 obtain⟨S,hS⟩:=Nm (Rj 0 l)
 have HS:=Hp hS
 rw[<-hS]
 clear hw0 hx0 hx1 hb0 hbx hby h hm hr hrow hG0 hR0 hG1 g0 g1 g2 g3 hzy hS
 go_enter Tryz.func243,Tryz.ntmps243
 go_wp2_with (at_builtin;refine eO (x1.alloc (.cells #[] 83)) rfl _ _ 37 rfl x1.heap.size 83 i0 kN 8 128 Tryz.underlying37 hi hi0 hi1 hi2 rfl (by decide) _ _ _ rfl (World.ownsRow_made x1 #[] 0 (GZ3 _) (Nat.zero_le _) rfl) (x1.heap.size+1) A l.length c (l.flatMap Plc.cells) rfl HROW.out (pG l) (by unfold maxLen;omega) (by omega) (by simp) ?_;intro v' w3 hown hgrow _;obtain⟨A',c',rfl,HO3,hb3⟩:=Pn hown hgrow;obtain⟨HT3,t3,tf⟩:=Ol hb3 HLT.out HT1.out;have HB3:=Hp hb3;clear hown hgrow hb3)
 obtain⟨w4,hw4⟩:=Nm (w3.setCell ⟨w.heap.size+2,3,none⟩ (.slice A' l.length c'))
 rw[<-hw4]
 have ho4:Only (w.heap.size+2) w3 w4:=hw4▸Only.set 3 _
 have h4:w4.heap[w.heap.size+2]? =some (.cells #[.int .i64 k.major,.int .i64 k.minor,.slice k.eA k.ex.length k.eC,.slice A' l.length c'] 39 (0,0)):=hw4▸heap_setCell_same w3 (w.heap.size+2) 3 _ _ (.slice A' l.length c') HT3.out
 have hz1:=HZ1.out
 have hs3:=HB3.size
 have HO4:=Hp (own_kp HO3.out (ho4.kp HT3.out (ts:=[39]) (by simp)) (by decide))
 have HB4:=Hp (show Below w.heap.size w w4 from(HB1.trans (HB3.mono (by omega))).trans ((ho4.below (by omega)).mono (by omega)))
 have HR4:=Hp ((ho4.block (w.heap.size+1) (by omega) (by omega)).trans ((HB3.block (w.heap.size+1) (by omega)).trans HR1.out))
 have HT4:=Hp h4
 have HZ4:=Hp (show w.heap.size+3<=w4.heap.size from GY1 (by omega) ho4.size)
 clear hw4 ho4 h4 hz1 hs3 t3 tf
 go_loopw [5,6] (fun en i wr=>∃(j:Nat)(a:Int),j<=l.length/\i=.int .i64 j/\en=.int .i64 a/\0<=a/\a<=16/\bW a (l.drop j)/\Rj 0 l=(Rj a (l.drop j)).map (l.take j++ ·)/\Below w4.heap.size w4 wr) (fun _ i _=>l.length -(intOf i).toNat)
 case atStart=>exact⟨0,0,by omega,rfl,rfl,by omega,by omega,H16.out,by simp,GZ4 _ _⟩
 case round=>
  obtain⟨j,a,hj,rfl,rfl,ha0,ha16,hr16,hs,hb⟩:=hrel
  have HBR:=Hp hb
  have HSJ:=Hp hs
  have HR16:=Hp hr16
  have hTr:=(hb.block (w.heap.size+2) (ZL HT4.out)).trans HT4.out
  obtain⟨HTR,t0,t1,t2,t3,_⟩:=aB hTr
  have hRr:=(hb.block (w.heap.size+1) (ZL HR4.out)).trans HR4.out
  obtain⟨HRR,r0,r1,r2,r3,f0,f1,f2,f3⟩:=aB hRr
  have HOR:=Hp (aO HO4 hb)
  clear hs hr16 hTr hRr
  by_cases hlt:j<l.length
  ·have hlt':(j:Int)<l.length:=by omega
   obtain⟨g,hA,hg,hgl,_,_,hfr,hset⟩:=aP.at_ HOR.out hlt
   obtain⟨ad,hA2,hab,p0,p1,p2,p3,p4,p5,p6,p7⟩:=RS (Reads.of_own HOR.out) (GZ4 _ _) j hlt
   rw[hA]at hA2
   obtain rfl:=GY3 hA2
   have HSET:=Hp hset
   obtain⟨s1,s2⟩:=KS hlt HSJ.out
   have hd:=HR16.out
   rw[GY4 hlt]at hd
   obtain⟨d1,d2,d3,d4⟩:=hd
   have D4:=Hp d4
   have S1:=Hp s1
   have S2:=Hp s2
   have hmt:=(aY (HM.out l[j] (GZ9 _))).2.2.1
   have hd4:=d4.le
   have hAD:(⟨g,0,none⟩:Addr).add (j*8)=⟨g,j*8,none⟩:=by
    by_cases h0:j=0
    ·subst h0;rfl
    ·rw[add_pos_ _ _ (by omega)];simp
   rw[hAD]at p0 p1 p2 p3 p4 p5 p6 p7
   simp only at p0 p1 p2 p3 p4 p5 p6 p7
   subst hA
   obtain⟨y,hy⟩:=Nm (l[j]'hlt)
   simp only[<-hy]at S1 S2 D4 p0 p1 p2 p3 p4 p5 p6 p7 hmt d1 d2 d3 hd4 HSET
   have cE:=Hp (fun W=>lH y.m W (GY1 hmt (by unfold big;omega)))
   clear hset s1 s2 hAD hy d4
   by_cases hlf:y.first=a
   ·have hnl:¬a<y.first:=by omega
    have hen:aR y=a+aH y.m:=by unfold aR;omega
    have HEN:=Hp hen
    have hnext:=Hp (S2.out hnl)
    have hw:=IntWalk.i64_in (a+aH y.m) (by omega)
    clear S1 S2 hnl hen
    go_wp2_with (go_at_call 107;(with_reducible refine(cE.out _).mono ?_);rintro e w5 ⟨rfl,hb5⟩;have HB5:=Hp (HBR.out.trans (hb5.mono HBR.out.size));clear hb5)
    go_roundw
    case rel=>exact⟨j+1,aR y,by omega,by go_num,by rw[HEN.out],by rw[HEN.out];omega,hd4,D4.out,hnext.out,HB5.out⟩
    case measure=>(simp[intOf];try omega)
   ·have hlt2:a<y.first:=by omega
    have hsome:=S1.out hlt2
    have HSO:=Hp (show S=_ from HS.trans hsome)
    clear hsome S1 S2 hlt2
    go_wp2_with fail
    have hz1:=HZ1.out
    have ho5:Only g wr (wr.setCell ⟨g,j*8+7,none⟩ (.int .i64 a)):=Only.set _ _
    have hR5:=(ho5.block (w.heap.size+1) (ZL HRR.out) (by omega)).trans HRR.out
    obtain⟨hg4,ho⟩:=gY hR5 (.int .i64 k.major) (.int .i64 k.minor) (.slice k.eA k.ex.length k.eC) (.slice (some ⟨g,0,none⟩) l.length c')
    refine bodyPost_ret (results_cell_tmp rfl _ _ (w.heap.size+1) 39 _ (0,0) _ rfl hg4 Tryz.underlying39 rfl Tryz.RP) rfl ?_
    have hown:=own_kp (HSET.out a) (ho.kp hR5 (ts:=[39]) (by simp)) (by decide)
    have hrv:∀(L:List Plc),L.length=l.length->rgV k (some ⟨g,0,none⟩) L c'=rgV k (some ⟨g,0,none⟩) l c':=fun L hL=>by unfold rgV;rw[hL]
    have hbz:=HBR.size
    have hz4:=HZ4.out
    rw[HSO.out]
    refine⟨⟨some ⟨g,0,none⟩,c',by rw[Option.getD_some,hrv _ (List.length_set ..)];rfl,RH hown (by omega)⟩,?_⟩
    exact(HB4.trans (HBR.mono (by omega))).trans (((ho5.below (by omega)).mono (by omega)).trans ((ho.below (GY2 (ZL hR5))).mono (by omega)))
  ·obtain rfl:j=l.length:=by omega
   have hnone:=Hp (show S=none from by rw[HS.out,HSJ.out,List.drop_eq_nil_of_le (GZ3 _)];rfl)
   clear hb
   go_wp2_with fail
   have hz1:=HZ1.out
   have hbz:=HBR.size
   have hz4:=HZ4.out
   obtain⟨hg4,ho⟩:=gY HRR.out (.int .i64 k.major) (.int .i64 k.minor) (.slice k.eA k.ex.length k.eC) (.slice A' l.length c')
   refine bodyPost_ret (results_cell_tmp rfl _ _ (w.heap.size+1) 39 _ (0,0) _ rfl hg4 Tryz.underlying39 rfl Tryz.RP) rfl ?_
   have hown:=own_kp HOR.out (ho.kp HRR.out (ts:=[39]) (by simp)) (by decide)
   rw[hnone.out]
   refine⟨⟨A',c',rfl,RH hown (by omega)⟩,?_⟩
   exact(HB4.trans (HBR.mono (by omega))).trans ((ho.below (GY2 (ZL HRR.out))).mono (by omega))
structure Aw (w:World)(k:Krn)(A:Option Addr)(c:Nat)(l:List Plc)(q:Nat)(A1:Option Addr)(L:List Plc)(c1:Nat)(W:World):Prop where
 heap:W.heap[w.heap.size]? =some (.cells #[.int .i64 k.major,.int .i64 k.minor,.slice k.eA k.ex.length k.eC,.slice A1 L.length c1] 39 (0,0))
 res:W.heap[w.heap.size+1]? =some (.cells #[.int .i64 0,.int .i64 0,.slice none 0 0,.slice none 0 0] 39 (0,0))
 ok:aU W A1 L
 r16:bW 0 L
 same:L.map (·.m)=l.map (·.m)
 pack:bI 0 l=((bI 0 L).1,(bI 0 L).2+q)
 bel:Below w.heap.size w W
 own:(A1=A/\c1=c/\L=l)\/aP W w.heap.size (.slice A1 L.length c1) L
theorem Jf (k:Krn)(A:Option Addr)(c:Nat)(l:List Plc)(w:World)(h:aU w A l)(hm:∀x∈l,aL x.m=0)(hr:bW 0 l)(h8:l.length<=8):
  Calls Tryz.prog 210 #[rgV k A l c] w fun e w'=>(∃A' c',e=.returned (.tuple #[rgV k A' (bI 0 l).1 c',.int .i64 (bI 0 l).2])/\aU w' A' (bI 0 l).1/\((A'=A/\c'=c/\(bI 0 l).1=l)\/aP w' w.heap.size (.slice A' (bI 0 l).1.length c') (bI 0 l).1))/\Below w.heap.size w w':=by
 obtain⟨w0,hw0⟩:=Nm (w.alloc (.cells #[.int .i64 k.major,.int .i64 k.minor,.slice k.eA k.ex.length k.eC,.slice A l.length c] 39))
 obtain⟨g0,g1,g2,g3,hz0,hb0⟩:=oJ hw0
 obtain⟨x0,hx0⟩:=Nm (w0.alloc (.cells #[.int .i64 0,.int .i64 0,.slice none 0 0,.slice none 0 0] 39))
 have hbx:Below w0.heap.size w0 x0:=hx0▸ZB
 have hG0:x0.heap[w.heap.size]? =some (.cells #[.int .i64 k.major,.int .i64 k.minor,.slice k.eA k.ex.length k.eC,.slice A l.length c] 39 (0,0)):=by rw[hx0,heap_alloc_old w0 _ (by omega),hw0];exact heap_alloc_new w _
 have hR0:x0.heap[w.heap.size+1]? =some (.cells #[.int .i64 0,.int .i64 0,.slice none 0 0,.slice none 0 0] 39 (0,0)):=by rw[hx0,<-hz0];exact heap_alloc_new w0 _
 have HB0:=Hp (hb0.trans (hbx.mono hb0.size))
 have HI0:=Hp (show Aw w k A c l 0 A l c x0 from⟨hG0,hR0,h.below HB0.out,hr,rfl,rfl,HB0.out,.inl ⟨rfl,rfl,rfl⟩⟩)
 have HM:=Hp hm
 have HLE:=Hp (FK (l:=l) (a:=0))
 have hw0':=hw0.symm
 have hx0':=hx0.symm
 clear hw0 hx0 hb0 hbx h hm hr hG0 hR0 g0 g1 g2 g3
 go_enter Tryz.func210,Tryz.ntmps210
 go_wp2_with fail
 go_loopw [4] (fun n wr=>∃(q:Nat)(A1:Option Addr)(L:List Plc)(c1:Nat),n=.int .i64 q/\q<=(bI 0 l).2/\Aw w k A c l q A1 L c1 wr) (fun n _=>(bI 0 l).2+1 -(intOf n).toNat)
 case atStart=>exact⟨0,A,l,c,rfl,Nat.zero_le _,HI0.out⟩
 case round=>
  obtain⟨q,A1,L,c1,rfl,hq,hI⟩:=hrel
  have HI:=Hp hI
  have hq8:q<=8:=by have:=HLE.out;omega
  have hlen:=kL hI.same
  have cS:=Hp (JG k A1 c1 L wr hI.ok (fun x hx=>by obtain⟨y,hy,e⟩:=oF hI.same.symm hx;rw[<-e];exact HM.out y hy) hI.r16 (by omega))
  obtain⟨_,p0,p1,p2,p3,pf0,pf1,pf2,pf3⟩:=aB hI.heap
  have hbl:=Hp (ZL hI.heap)
  have HMS:=Hp (Je L 0)
  cases hst:Rj 0 L with
  |none=>
   have HN:=Hp (Uh hI.r16 hst)
   rw[hst]at cS
   simp only[Option.getD_none,Option.isSome_none]at cS
   clear hI hst hq hlen
   go_wp2_with fail
   refine(cS.out).mono ?_;rintro e w5 ⟨⟨A5,c5,rfl,ho5⟩,hb5⟩
   obtain⟨w6,hw6⟩:=Nm (w5.alloc (.cells #[.int .i64 k.major,.int .i64 k.minor,.slice k.eA k.ex.length k.eC,.slice A5 L.length c5] 39))
   have hb6:Below w5.heap.size w5 w6:=hw6▸ZB
   have h6:w6.heap[w5.heap.size]? =some (.cells #[.int .i64 k.major,.int .i64 k.minor,.slice k.eA k.ex.length k.eC,.slice A5 L.length c5] 39 (0,0)):=by rw[hw6];exact heap_alloc_new w5 _
   have hb56:=hb5.trans (hb6.mono hb5.size)
   have HB6:=Hp (HI.bel.trans (hb56.mono HI.bel.size))
   have HBW:=Hp hb56
   have HO6:=Hp (show aP w6 wr.heap.size (.slice A5 L.length c5) L from aO ho5 hb6)
   obtain⟨HP6,a0,a1,a2,a3,b0,b1,b2,b3⟩:=aB ((hb56.block w.heap.size hbl.out).trans HI.heap)
   obtain⟨HR6,r0,r1,r2,r3,f0,f1,f2,f3⟩:=aB ((hb56.block (w.heap.size+1) (ZL HI.res)).trans HI.res)
   obtain⟨HX6,x0',x1',x2',x3',_⟩:=aB h6
   have hw6':=hw6.symm
   clear hw6 hb6 h6 hb5 ho5 hb56 p0 p1 p2 p3 pf0 pf1 pf2 pf3
   go_wp2_with fail
   obtain⟨hg4,ho⟩:=gY HR6.out (.int .i64 k.major) (.int .i64 k.minor) (.slice k.eA k.ex.length k.eC) (.slice A1 L.length c1)
   refine bodyPost_ret (results_cell_tmp rfl _ _ (w.heap.size+1) 39 _ (0,0) _ rfl hg4 Tryz.underlying39 rfl Tryz.RP) rfl ?_
   have hpk:bI 0 l=(L,q):=by rw[HI.pack,HN.out];simp
   rw[hpk]
   have hok:=aU.other ⟨0,0,none,0,0,none,0,0,HR6.out⟩ ho (HI.ok.below HBW.out)
   have hkp:=ho.kp HR6.out (ts:=[39]) (by simp)
   exact⟨⟨A1,c1,rfl,hok,HI.own.imp id fun h=>own_kp (aO h HBW.out) hkp (by decide)⟩,HB6.trans ((ho.below (GY2 (ZL HR6.out))).mono (by omega))⟩
  |some L'=>
   obtain⟨n1,n2⟩:=xS hI.r16 hst
   have hp:=hI.pack
   rw[n2]at hp
   have hle:q+1<=(bI 0 l).2:=by have e:=congrArg Prod.snd hp;simp only at e;omega
   have HPK:=Hp (show bI 0 l=((bI 0 L').1,(bI 0 L').2+(q+1)) by rw[hp];simp;omega)
   have HN1:=Hp n1
   have hLL:=rM hst
   have HLL:=Hp hLL
   have hle2:L.length=L'.length:=by have:=kL HLL.out;omega
   rw[hst]at cS
   simp only[Option.getD_some,Option.isSome_some]at cS
   rw[hle2]at cS
   have HLE2:=Hp hle2
   clear hI hst hq n1 n2 hp hlen hLL hle2
   go_wp2_with fail
   refine(cS.out).mono ?_;rintro e w5 ⟨⟨A5,c5,rfl,ho5⟩,hb5⟩
   obtain⟨w6,hw6⟩:=Nm (w5.alloc (.cells #[.int .i64 k.major,.int .i64 k.minor,.slice k.eA k.ex.length k.eC,.slice A5 L'.length c5] 39))
   have hb6:Below w5.heap.size w5 w6:=hw6▸ZB
   have h6:w6.heap[w5.heap.size]? =some (.cells #[.int .i64 k.major,.int .i64 k.minor,.slice k.eA k.ex.length k.eC,.slice A5 L'.length c5] 39 (0,0)):=by rw[hw6];exact heap_alloc_new w5 _
   have hb56:=hb5.trans (hb6.mono hb5.size)
   have HB6:=Hp (HI.bel.trans (hb56.mono HI.bel.size))
   have HBW:=Hp hb56
   have HO6:=Hp (show aP w6 wr.heap.size (.slice A5 L'.length c5) L' from aO ho5 hb6)
   obtain⟨HP6,a0,a1,a2,a3,b0,b1,b2,b3⟩:=aB ((hb56.block w.heap.size hbl.out).trans HI.heap)
   obtain⟨HR6,r0,r1,r2,r3,f0,f1,f2,f3⟩:=aB ((hb56.block (w.heap.size+1) (ZL HI.res)).trans HI.res)
   obtain⟨HX6,x0',x1',x2',x3',_⟩:=aB h6
   have hw6':=hw6.symm
   clear hw6 hb6 h6 hb5 ho5 hb56 p0 p1 p2 p3 pf0 pf1 pf2 pf3
   go_wp2_with fail
   obtain⟨hg4,ho⟩:=gY HP6.out (.int .i64 k.major) (.int .i64 k.minor) (.slice k.eA k.ex.length k.eC) (.slice A5 L'.length c5)
   have hr7:=(ho.block (w.heap.size+1) (ZL HR6.out) (by omega)).trans HR6.out
   have hkp:=ho.kp HP6.out (ts:=[39]) (by simp)
   have hown:=own_kp HO6.out hkp (by decide)
   have hsame:L'.map (·.m)=L.map (·.m):=HLL.out
   have hok6:aU w6 A5 L':=Pg HO6.out hsame HI.ok HBW.out
   have hok:=aU.other ⟨_,_,_,_,_,_,_,_,HP6.out⟩ ho hok6
   have hbel:=HB6.trans (ho.below (GY2 (ZL HP6.out)))
   have HNEW:=Hp (show Aw w k A c l (q+1) A5 L' c5 _ from⟨hg4,hr7,hok,HN1.out,hsame.trans HI.same,HPK.out,hbel,.inr (RH hown HI.bel.size)⟩)
   clear hg4 ho hr7 hkp hown hok6 hok hbel
   go_roundw
   case rel=>exact⟨q+1,A5,L',c5,by go_num,hle,HNEW.out⟩
   case measure=>(simp[intOf];try omega)
end
end Go.Proofs.YtjiedaialianmaaGreat
