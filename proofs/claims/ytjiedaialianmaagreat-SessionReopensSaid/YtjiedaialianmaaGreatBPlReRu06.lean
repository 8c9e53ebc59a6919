import Derived.Test.YtjiedaialianmaaGreatA20
import Derived.Test.YtjiedaialianmaaGreatBPlReRu04
import Derived.Test.YtjiedaialianmaaGreatBPlReRu05
set_option maxRecDepth 100000
set_option maxHeartbeats 8000000
namespace Go.Proofs.YtjiedaialianmaaGreat
section
open Go.RowKit
open Gs (Tx)
open Gr (Tab)
theorem Mat.get {w:World}{B0 n O:Nat}{R C:Nat->Nat}{t:Tab}(h:Mat w B0 n O R C t){i k:Nat}(hi:i<n)(hk:k<n):
  ∃Ri Ci,w.cell? ⟨O,i,none⟩=some (.slice (some ⟨Ri,0,none⟩) n Ci)/\w.cell? ⟨Ri,k,none⟩=some (.bool (t.at i k)):=⟨R i,C i,h.row i hi,h.cell i k hi hk⟩
theorem Hw (A:Option Addr)(c:Nat)(l:List Plc)(w:World)(h:aU w A l)(h8:l.length<=8):
  Calls Tryz.prog 102 #[.slice A l.length c] w fun e w'=>e=.returned (.bool (eH l))/\Below w.heap.size w w':=by
 have c1:=Hp (Le A c l w h h8)
 have HR:=Hp (show eH l=(List.range l.length).any (fun i=>(yP l).at i i) from rfl)
 generalize eH l=R0 at*
 generalize yP l=t at*
 clear h
 go_enter Tryz.func102,Tryz.ntmps102
 go_wp2_with (go_at_call 176;refine(c1.out).mono ?_;rintro e w2 ⟨⟨v,rfl,A2,c2,rfl,hM⟩,hb2⟩;have HM:=Hp hM;have HB:=Hp hb2;clear hM hb2)
 go_loopw [4] (fun i wr=>∃j:Nat,j<=l.length/\i=.int .i64 j/\(∀k,k<j->t.at k k=false)/\wr=w2) (fun i _=>l.length -(intOf i).toNat)
 case atStart=>exact⟨0,by omega,rfl,by omega,rfl⟩
 case round=>
  obtain⟨j,hj,rfl,hN,rfl⟩:=hrel
  have HN:=Hp hN
  clear hN
  by_cases hlt:j<l.length
  ·have hlt':(j:Int)<l.length:=by omega
   obtain⟨O,R,C,rfl,hm⟩:=HM.out (by omega)
   obtain⟨Ri,Ci,m1,m2⟩:=hm.get hlt hlt
   obtain⟨b,hb⟩:=Nm (t.at j j)
   rw[<-hb]at m2
   have HBB:=Hp hb
   clear hm hb
   cases b
   ·go_wp2_with fail
    go_roundw
    case rel=>exact⟨j+1,by omega,by go_num,fun k hk=>by rcases Nat.lt_succ_iff_lt_or_eq.1 hk with h|rfl;exact HN.out k h;exact HBB.symm,trivial⟩
    case measure=>(simp[intOf];try omega)
   ·have e1:=Hp (show R0=true by rw[HR.out];exact List.any_eq_true.2 ⟨j,List.mem_range.2 hlt,HBB.symm⟩)
    go_wp2_with fail
    go_ret
    exact⟨aV e1.symm,HB.out⟩
  ·have e1:=Hp (show R0=false by
    rw[HR.out,List.any_eq_false]
    intro k hk
    have:=List.mem_range.1 hk
    rw[HN.out k (by omega)];simp)
   go_wp2_with fail
   go_ret
   exact⟨aV e1.symm,HB.out⟩
end
section
open Go.RowKit
open Gs (Tx)
theorem gH (k:Krn)(A:Option Addr)(c:Nat)(l:List Plc)(w:World)(hk:k.ok w)(h:aU w A l):
  Calls Tryz.prog 38 #[rgV k A l c] w fun e w'=>e=.returned (.int .i64 (aZ k l))/\Below w.heap.size w w':=by
 obtain⟨w0,hw0⟩:=Nm (w.alloc (.cells #[.int .i64 k.major,.int .i64 k.minor,.slice k.eA k.ex.length k.eC,.slice A l.length c] 39))
 obtain⟨g0,g1,g2,g3,hz,hb0⟩:=oJ hw0
 have hz0:w.heap.size<w0.heap.size:=by omega
 have H0:=Hp hb0
 have hw0':=hw0.symm
 have c1:=Hp (fun W(hb:Below w.heap.size w W)=>CK k A c l W (hk.below hb) (h.below hb))
 have c2:=Hp (fun(e:aX k l=0)W(hb:Below w.heap.size w W)=>Hw A c l W (h.below hb) (cZ (dM e).2.1).1)
 have c3:=Hp (fun(e:aX k l=0)W(hb:Below w.heap.size w W)=>Ij k A c l W (hk.below hb) (h.below hb) e)
 have hE3:aX k l=0->iP k l=(bU k l l 0).2:=fun e=>by unfold iP;rw[if_neg (by omega)]
 obtain⟨E,hE⟩:=Nm (aZ k l)
 rw[<-hE]
 unfold aZ at hE
 obtain⟨T,hT⟩:=Nm (bs (TL k l))
 simp only[<-hT]at c3
 clear hw0 hb0 hk h hT
 generalize aX k l=le at*
 by_cases t1:le=0
 ·subst t1
  have d2:=Hp (c2.out rfl)
  clear c2
  have d3:=Hp (c3.out rfl)
  clear c3
  have hE3:=hE3 rfl
  rw[if_neg (by omega)]at hE
  rw[hE3]at d3
  clear hE3
  generalize eH l=rd at*
  generalize(bU k l l 0).2=ae at*
  cases rd
  ·rw[if_neg (by simp)]at hE
   go_enter Tryz.func38,Tryz.ntmps38
   go_wp2_with (first
    |(go_at_call 101;(with_reducible refine(c1.out _ H0.out).mono ?_);rintro e w1 ⟨rfl,hb1⟩
      have HB1:=Hp (H0.trans (hb1.mono H0.size))
      have k0:=(hb1.cell (p:=⟨w.heap.size,0,none⟩) hz0).trans g0
      have k1:=(hb1.cell (p:=⟨w.heap.size,1,none⟩) hz0).trans g1
      have k2:=(hb1.cell (p:=⟨w.heap.size,2,none⟩) hz0).trans g2
      have k3:=(hb1.cell (p:=⟨w.heap.size,3,none⟩) hz0).trans g3
      have hz1:w.heap.size<w1.heap.size:=(by have:=hb1.size;omega)
      clear hb1)
    |(go_at_call 102;(with_reducible refine(d2.out _ HB1.out).mono ?_);rintro e w2 ⟨rfl,hb2⟩
      have HB2:=Hp (HB1.trans (hb2.mono HB1.size))
      have m0:=(hb2.cell (p:=⟨w.heap.size,0,none⟩) hz1).trans k0
      have m1:=(hb2.cell (p:=⟨w.heap.size,1,none⟩) hz1).trans k1
      have m2:=(hb2.cell (p:=⟨w.heap.size,2,none⟩) hz1).trans k2
      have m3:=(hb2.cell (p:=⟨w.heap.size,3,none⟩) hz1).trans k3
      clear hb2)
    |(go_at_call 103;(with_reducible refine(d3.out _ HB2.out).mono ?_);rintro e w3 ⟨rfl,hb3⟩))
   go_ret
   exact⟨aC hE.symm,HB2.trans (hb3.mono HB2.size)⟩
  ·rw[if_pos rfl]at hE
   go_enter Tryz.func38,Tryz.ntmps38
   go_wp2_with (first
    |(go_at_call 101;(with_reducible refine(c1.out _ H0.out).mono ?_);rintro e w1 ⟨rfl,hb1⟩
      have HB1:=Hp (H0.trans (hb1.mono H0.size))
      have k0:=(hb1.cell (p:=⟨w.heap.size,0,none⟩) hz0).trans g0
      have k1:=(hb1.cell (p:=⟨w.heap.size,1,none⟩) hz0).trans g1
      have k2:=(hb1.cell (p:=⟨w.heap.size,2,none⟩) hz0).trans g2
      have k3:=(hb1.cell (p:=⟨w.heap.size,3,none⟩) hz0).trans g3
      have hz1:w.heap.size<w1.heap.size:=(by have:=hb1.size;omega)
      clear hb1)
    |(go_at_call 102;(with_reducible refine(d2.out _ HB1.out).mono ?_);rintro e w2 ⟨rfl,hb2⟩))
   go_ret
   exact⟨aC hE.symm,HB1.trans (hb2.mono HB1.size)⟩
 ·rw[if_pos t1]at hE
  have t1':(le==0)=false:=by simp[t1]
  clear t1 c2 c3 hE3
  go_enter Tryz.func38,Tryz.ntmps38
  go_wp2_with (go_at_call 101;(with_reducible refine(c1.out _ H0.out).mono ?_);rintro e w1 ⟨rfl,hb1⟩)
  go_ret
  exact⟨aC hE.symm,H0.trans (hb1.mono H0.size)⟩
end
section
open Go.RowKit
theorem JI {many:Int}{r:Run}{l:List Run}:fM many (r::l)=if many<=r.many then r.first else fM many l:=by
 unfold fM
 by_cases h1:many<=r.many<;>simp[h1]
theorem Jd {many:Int}{l:List Run}{j:Nat}(h:j<l.length):fM many (l.drop j)=if many<=l[j].many then l[j].first else fM many (l.drop (j+1)):=by
 rw[GY4 h,JI]
theorem DI (A:Option Addr)(c:Nat)(l:List Plc)(many:Int)(w:World)(h:aU w A l)(hr:RY l=0):
  Calls Tryz.prog 106 #[.slice A l.length c,.int .i64 many] w fun e w'=>e=.returned (.int .i64 (fM many (RI l)))/\Below w.heap.size w w':=by
 have HS:=Hp (show(RI l).length<=9 by have:=iY l 0;have:=(cZ hr).1;unfold RI;omega)
 have c1:=Hp (I7 A c l w h hr)
 obtain⟨R,hR⟩:=Nm (RI l)
 rw[<-hR]at c1 HS ⊢
 clear h hr hR
 go_enter Tryz.func106,Tryz.ntmps106
 go_wp2_with (go_at_call 180;refine(c1.out).mono ?_;rintro e w2 ⟨⟨A',c',rfl,hrow⟩,hb2⟩;have HR:=Hp hrow;clear hrow)
 go_loopw [6] (fun i wr=>∃(j:Nat),j<=R.length/\i=.int .i64 j/\fM many (R.drop j)=fM many R/\Below w2.heap.size w2 wr) (fun i _=>R.length -(intOf i).toNat)
 case atStart=>exact⟨0,by omega,rfl,rfl,GZ4 _ _⟩
 case round=>
  obtain⟨j,hj,rfl,hE,hb⟩:=hrel
  have HE:=Hp hE
  have HB:=Hp hb
  have hl:=HS.out
  clear hE
  by_cases hlt:j<R.length
  ·have hlt':(j:Int)<R.length:=by omega
   obtain⟨ad,rfl,hab,k0,k1⟩:=JN HR.out hb j hlt
   have hd:=Jd (many:=many) hlt
   obtain⟨f,hf⟩:=Nm (R[j].first)
   obtain⟨m,hm⟩:=Nm (R[j].many)
   rw[<-hf]at k0 hd
   rw[<-hm]at k1 hd
   clear hf hm hb
   by_cases t0:many<=m
   ·rw[if_pos t0]at hd
    have e1:=Hp (hd.symm.trans HE.out)
    clear hd
    go_wp2_with fail
    go_ret
    exact⟨aC e1.out,hb2.trans (HB.mono hb2.size)⟩
   ·rw[if_neg t0]at hd
    have t0':decide (many<=m)=false:=by simp;omega
    have e1:=Hp (hd.symm.trans HE.out)
    clear hd t0
    go_wp2_with fail
    go_roundw
    case rel=>exact⟨j+1,by omega,by go_num,e1.out,HB.out⟩
    case measure=>(simp[intOf];try omega)
  ·have e1:=Hp (show fM many R= -1 by rw[<-HE.out,List.drop_eq_nil_of_le (by omega)];rfl)
   go_wp2_with fail
   go_ret
   exact⟨aC e1.symm,hb2.trans (HB.mono hb2.size)⟩
end
section
open Go.RowKit Go.Lib
def Ez (w:World)(F:Int)(k:Krn)(L:List Plc)(e:Ending)(w':World):Prop:=
 (∃k' A' l' c',e=.returned (.tuple #[rgV k' A' l' c',.int .i64 F])/\dL w' k' A' l'/\k'.bare=(wK F k).bare/\aD l'=aD (wL F L)/\k'=wK F k/\l'=wL F L/\aP w' w.heap.size (.slice A' l'.length c') l')/\Below w.heap.size w w'
theorem Rx {w w':World}{F:Int}{k:Krn}{L:List Plc}(h:F≠0)(hb:Below w.heap.size w w'):Ez w F k L (.returned (.tuple #[.agg #[.int .i64 0,.int .i64 0,.slice none 0 0,.slice none 0 0],.int .i64 F])) w':=
 ⟨⟨Rk,none,[],0,rfl,⟨Sg _,⟨Row.nil,Nat.zero_le _,by simp⟩⟩,by rw[wKE h],by rw[wLE h],(wKE h k).symm,(wLE h L).symm,World.ownsRow_nil _ _ _ _⟩,hb⟩
theorem rO {w w5:World}{k:Krn}{A A5:Option Addr}{l L:List Plc}{c c5 b5 nR:Nat}(hb:Below w.heap.size w w5)(hG:w5.heap[w.heap.size]? =some (.cells #[.int .i64 k.major,.int .i64 k.minor,.slice k.eA k.ex.length k.eC,.slice A l.length c] 39 (0,0)))
  (hR:w5.heap[w.heap.size+nR]? =some (.cells #[.int .i64 0,.int .i64 0,.slice none 0 0,.slice none 0 0] 39 (0,0))) (hn:0<nR) (ho:aP w5 b5 (.slice A5 L.length c5) L) (hL:∀x∈L,x.m.ok w) (hlen:L.length<=big) (hk:k.ok w):
  ∃w6,w6=w5.setCell ⟨w.heap.size,3,none⟩ (.slice A5 L.length c5)/\Hid (w6.heap[w.heap.size]? =some (.cells #[.int .i64 k.major,.int .i64 k.minor,.slice k.eA k.ex.length k.eC,.slice A5 L.length c5] 39 (0,0)))/\
   Hid (w6.heap[w.heap.size+nR]? =some (.cells #[.int .i64 0,.int .i64 0,.slice none 0 0,.slice none 0 0] 39 (0,0)))/\Hid (Below w.heap.size w w6)/\Hid (dL w6 k A5 L)/\Hid (aP w6 b5 (.slice A5 L.length c5) L):=by
 obtain⟨w6,hw6⟩:=Nm (w5.setCell ⟨w.heap.size,3,none⟩ (.slice A5 L.length c5))
 have ho6:Only w.heap.size w5 w6:=hw6▸Only.set 3 _
 have hb6:Below w.heap.size w w6:=hb.trans (ho6.below (GY2 (ZL hG)))
 have hg6:w6.heap[w.heap.size]? =_:=hw6▸heap_setCell_same w5 w.heap.size 3 _ _ (.slice A5 L.length c5) hG
 have hown:=own_kp ho (ho6.kp hG (ts:=[39]) (by simp)) (by decide)
 exact⟨w6,hw6,Hp hg6,Hp ((ho6.block _ (ZL hR) (by omega)).trans hR),Hp hb6,Hp ⟨hk.below hb6,⟨Reads.of_own hown,hlen,fun x hx=>(hL x hx).below hb6⟩⟩,Hp hown⟩
theorem C8 (k:Krn)(A:Option Addr)(c:Nat)(l:List Plc)(m:Mod)(w:World)(hk:k.ok w)(h:aU w A l)(hm:m.ok w)(hrg:aZ k l=0):
  Calls Tryz.prog 39 #[rgV k A l c,m.v] w (Ez w (kP k ⟨1,m,⟨#[]⟩⟩ l) k (oD l m)):=by
 obtain⟨w0,hw0⟩:=Nm (w.alloc (.cells #[.int .i64 k.major,.int .i64 k.minor,.slice k.eA k.ex.length k.eC,.slice A l.length c] 39))
 have hb0:Below w.heap.size w w0:=hw0▸ZB
 have hz0:w0.heap.size=w.heap.size+1:=by rw[hw0];simp
 have hG0:w0.heap[w.heap.size]? =some (.cells #[.int .i64 k.major,.int .i64 k.minor,.slice k.eA k.ex.length k.eC,.slice A l.length c] 39 (0,0)):=by rw[hw0];exact heap_alloc_new w _
 obtain⟨x0,hx0⟩:=Nm (w0.alloc (.cells #[.string m.name,.int .i64 m.major,.int .i64 m.minor,.string m.text,.slice m.eA m.ex.length m.eC,.slice m.iA m.im.length m.iC,.slice m.pA m.pa.length m.pC] 70))
 obtain⟨y0,hy0⟩:=Nm (x0.alloc (.cells #[.int .i64 0,.int .i64 0,.slice none 0 0,.slice none 0 0] 39))
 have hbx:Below w0.heap.size w0 x0:=hx0▸ZB
 have hby:Below x0.heap.size x0 y0:=hy0▸ZB
 have hzx:x0.heap.size=w.heap.size+2:=by rw[hx0];simp;omega
 have hM0:x0.heap[w.heap.size+1]? =some (.cells #[.string m.name,.int .i64 m.major,.int .i64 m.minor,.string m.text,.slice m.eA m.ex.length m.eC,.slice m.iA m.im.length m.iC,.slice m.pA m.pa.length m.pC] 70 (0,0)):=by rw[hx0,<-hz0];exact heap_alloc_new w0 _
 have HG0:=Hp ((hby.block w.heap.size (by omega)).trans ((hbx.block w.heap.size (by omega)).trans hG0))
 have HM0:=Hp ((hby.block (w.heap.size+1) (by omega)).trans hM0)
 have HR0:=Hp (show y0.heap[w.heap.size+2]? =some (.cells #[.int .i64 0,.int .i64 0,.slice none 0 0,.slice none 0 0] 39 (0,0)) by rw[hy0,<-hzx];exact heap_alloc_new x0 _)
 have HB0:=Hp ((hb0.trans (hbx.mono hb0.size)).trans (hby.mono (GY1 hb0.size hbx.size)))
 obtain⟨n0,n1,n2,n3,n4,n5,n6⟩:=RF HM0.out
 obtain⟨_,k0,k1,k2,k3,_⟩:=aB HG0.out
 have hreg:=Et hrg
 have h8:=(cZ hreg).1
 have HP:=Hp h
 have HK:=Hp hk
 have c1:=Hp (iV m y0 (hm.below HB0.out))
 have c2:=Hp (fun W(hb:Below w.heap.size w W)=>lX A c l m.name W (h.below hb).row h.len)
 have c3:=Hp (fun W=>lH m W hm.text)
 have c4:=Hp (fun W(hb:Below w.heap.size w W)=>DI A c l (aH m) W (h.below hb) hreg)
 have c5:=Hp (fun W(hb:Below w.heap.size w W)=>FV A c l m (fM (aH m) (RI l)) W (h.below hb) (by omega))
 have hfl:oD l m=fH l m (fM (aH m) (RI l)):=rfl
 rw[<-hfl]at c5
 obtain⟨F,hF⟩:=Nm (kP k ⟨1,m,⟨#[]⟩⟩ l)
 have hce:F=if SA l m≠0 then SA l m else aZ k (oD l m):=hF
 obtain⟨L,hL⟩:=Nm (oD l m)
 have HLO:=Hp (show∀x∈L,x.m.ok w from fun x hx=>by
  rw[hL,hfl]at hx
  rcases mU.1 hx with rfl|hx
  ·exact hm
  ·exact h.each x hx)
 have HLL:=Hp (show L.length<=big by rw[hL,hfl,TY];unfold big;omega)
 rw[<-hF]
 rw[<-hL]at c5 hce ⊢
 have cases:=AZ l m
 obtain⟨E,hE⟩:=Nm (SA l m)
 rw[<-hE]at cases hce
 obtain⟨M,hM⟩:=Nm (aL m)
 rw[<-hM]at c1 cases
 obtain⟨ix,hix⟩:=Nm (idxOf (named m.name) l)
 rw[<-hix]at c2 cases
 obtain⟨mm,hmm⟩:=Nm (aH m)
 rw[<-hmm]at c3 c4 c5 cases
 obtain⟨fi,hfi⟩:=Nm (fM mm (RI l))
 rw[<-hfi]at c4 c5 cases
 have hw0':=hw0.symm
 have hx0':=hx0.symm
 have hy0':=hy0.symm
 clear hw0 hx0 hy0 hb0 hbx hby hG0 hM0 hk h hm hF hL hfl hE hM hix hmm hfi hrg hreg h8
 have HCE:=Hp hce
 clear hce
 rcases cases with⟨t1,rfl⟩|⟨rfl,t2,rfl⟩|⟨rfl,t2,t3,rfl⟩|⟨rfl,t2,t3,rfl⟩
 ·have hFE:F=E:=by rw[HCE.out,if_pos t1]
  subst hFE
  have t1':(F != 0)=true:=by simp[t1]
  have T:=Hp t1
  clear t1
  go_enter Tryz.func39,Tryz.ntmps39
  go_wp2_with fail
  refine(c1.out).mono ?_;rintro e w1 ⟨rfl,hb1⟩
  have HR1:=Hp (aF hb1 HR0)
  have HB1:=Hp (HB0.trans (hb1.mono HB0.size))
  clear hb1
  obtain⟨_,zr0,zr1,zr2,zr3,zf0,zf1,zf2,zf3⟩:=aB HR1.out
  go_wp2_with fail
  obtain⟨hg,ho⟩:=gY HR1.out (.int .i64 0) (.int .i64 0) (.slice none 0 0) (.slice none 0 0)
  refine bodyPost_ret (results_cell_tmp rfl _ _ (w.heap.size+2) 39 _ (0,0) _ rfl hg Tryz.underlying39 rfl Tryz.RP) rfl ?_
  exact Rx T.out (HB1.trans ((ho.below (GY2 (ZL HR1.out))).mono (by omega)))
 ·have hFE:F=6:=by rw[HCE.out,if_pos (by decide)]
  subst hFE
  have t':decide (0<=ix)=true:=decide_eq_true t2
  have T:=Hp (show(6:Int)≠0 by decide)
  clear t2
  go_enter Tryz.func39,Tryz.ntmps39
  go_wp2_with fail
  refine(c1.out).mono ?_;rintro e w1 ⟨rfl,hb1⟩
  have HR1:=Hp (aF hb1 HR0)
  have HG1:=Hp (aF hb1 HG0)
  have HM1:=Hp (aF hb1 HM0)
  have HB1:=Hp (HB0.trans (hb1.mono HB0.size))
  obtain⟨_,a0,a1,a2,a3,_⟩:=aB HG1.out
  obtain⟨b0,b1,b2,b3,b4,b5,b6⟩:=RF HM1.out
  clear hb1 n0 n1 n2 n3 n4 n5 n6 k0 k1 k2 k3
  go_wp2_with fail
  refine(c2.out _ HB1.out).mono ?_;rintro e w2 ⟨rfl,hb2⟩
  have HR2:=Hp (aF hb2 HR1)
  have HG2:=Hp (aF hb2 HG1)
  have HM2:=Hp (aF hb2 HM1)
  have HB2:=Hp (HB1.trans (hb2.mono HB1.size))
  obtain⟨_,a0,a1,a2,a3,_⟩:=aB HG2.out
  obtain⟨b0,b1,b2,b3,b4,b5,b6⟩:=RF HM2.out
  clear hb2
  obtain⟨_,zr0,zr1,zr2,zr3,zf0,zf1,zf2,zf3⟩:=aB HR2.out
  go_wp2_with fail
  obtain⟨hg,ho⟩:=gY HR2.out (.int .i64 0) (.int .i64 0) (.slice none 0 0) (.slice none 0 0)
  refine bodyPost_ret (results_cell_tmp rfl _ _ (w.heap.size+2) 39 _ (0,0) _ rfl hg Tryz.underlying39 rfl Tryz.RP) rfl ?_
  exact Rx T.out (HB2.trans ((ho.below (GY2 (ZL HR2.out))).mono (by omega)))
 ·have hFE:F=2:=by rw[HCE.out,if_pos (by decide)]
  subst hFE
  have t':decide (0<=ix)=false:=GY7 t2
  have T:=Hp (show(2:Int)≠0 by decide)
  have t4:((l.length:Int)==8)=true:=by have:=t3.out;simp;omega
  clear t2
  go_enter Tryz.func39,Tryz.ntmps39
  go_wp2_with fail
  refine(c1.out).mono ?_;rintro e w1 ⟨rfl,hb1⟩
  have HR1:=Hp (aF hb1 HR0)
  have HG1:=Hp (aF hb1 HG0)
  have HM1:=Hp (aF hb1 HM0)
  have HB1:=Hp (HB0.trans (hb1.mono HB0.size))
  obtain⟨_,a0,a1,a2,a3,_⟩:=aB HG1.out
  obtain⟨b0,b1,b2,b3,b4,b5,b6⟩:=RF HM1.out
  clear hb1 n0 n1 n2 n3 n4 n5 n6 k0 k1 k2 k3
  go_wp2_with fail
  refine(c2.out _ HB1.out).mono ?_;rintro e w2 ⟨rfl,hb2⟩
  have HR2:=Hp (aF hb2 HR1)
  have HG2:=Hp (aF hb2 HG1)
  have HM2:=Hp (aF hb2 HM1)
  have HB2:=Hp (HB1.trans (hb2.mono HB1.size))
  obtain⟨_,a0,a1,a2,a3,_⟩:=aB HG2.out
  obtain⟨b0,b1,b2,b3,b4,b5,b6⟩:=RF HM2.out
  clear hb2
  obtain⟨_,zr0,zr1,zr2,zr3,zf0,zf1,zf2,zf3⟩:=aB HR2.out
  go_wp2_with fail
  obtain⟨hg,ho⟩:=gY HR2.out (.int .i64 0) (.int .i64 0) (.slice none 0 0) (.slice none 0 0)
  refine bodyPost_ret (results_cell_tmp rfl _ _ (w.heap.size+2) 39 _ (0,0) _ rfl hg Tryz.underlying39 rfl Tryz.RP) rfl ?_
  exact Rx T.out (HB2.trans ((ho.below (GY2 (ZL HR2.out))).mono (by omega)))
 ·have t':decide (0<=ix)=false:=GY7 t2
  have t4:((l.length:Int)==8)=false:=by have:=t3.out;simp;omega
  clear t2
  go_enter Tryz.func39,Tryz.ntmps39
  go_wp2_with fail
  refine(c1.out).mono ?_;rintro e w1 ⟨rfl,hb1⟩
  have HR1:=Hp (aF hb1 HR0)
  have HG1:=Hp (aF hb1 HG0)
  have HM1:=Hp (aF hb1 HM0)
  have HB1:=Hp (HB0.trans (hb1.mono HB0.size))
  obtain⟨_,a0,a1,a2,a3,_⟩:=aB HG1.out
  obtain⟨b0,b1,b2,b3,b4,b5,b6⟩:=RF HM1.out
  clear hb1 n0 n1 n2 n3 n4 n5 n6 k0 k1 k2 k3
  go_wp2_with fail
  refine(c2.out _ HB1.out).mono ?_;rintro e w2 ⟨rfl,hb2⟩
  have HR2:=Hp (aF hb2 HR1)
  have HG2:=Hp (aF hb2 HG1)
  have HM2:=Hp (aF hb2 HM1)
  have HB2:=Hp (HB1.trans (hb2.mono HB1.size))
  obtain⟨_,a0,a1,a2,a3,_⟩:=aB HG2.out
  obtain⟨b0,b1,b2,b3,b4,b5,b6⟩:=RF HM2.out
  clear hb2
  have hl2:=(ZL HG2.out)
  have hm2:=(ZL HM2.out)
  have HCH:=Hp (show fI w2 (fun W'=>Below w2.heap.size w2 W'/\W'.cell? ⟨w.heap.size,3,none⟩=some (.slice A l.length c)/\W'.cell? ⟨(w.heap.size+1),0,none⟩=some (.string m.name)/\W'.cell? ⟨(w.heap.size+1),1,none⟩=some (.int .i64 m.major)/\W'.cell? ⟨(w.heap.size+1),2,none⟩=some (.int .i64 m.minor)/\W'.cell? ⟨(w.heap.size+1),3,none⟩=some (.string m.text)/\W'.cell? ⟨(w.heap.size+1),4,none⟩=some (.slice m.eA m.ex.length m.eC)/\W'.cell? ⟨(w.heap.size+1),5,none⟩=some (.slice m.iA m.im.length m.iC)/\W'.cell? ⟨(w.heap.size+1),6,none⟩=some (.slice m.pA m.pa.length m.pC)) from dE (by repeat' first|(with_reducible exact bC.cell (by first|omega|(simp;omega)|(simp only[aA];omega)))|refine bC.and ?_ ?_))
  have HC0:=Hp (HCH.now ⟨GZ4 _ _,by assumption,by assumption,by assumption,by assumption,by assumption,by assumption,by assumption,by assumption⟩)
  have HCD:=Hp HCH.D
  have HCS:=Hp HCH.S
  have HCA:=Hp HCH.A
  have HCX:=Hp HCH.X
  have HCL:=Hp HCH.L
  go_wp2_with fail
  go_region_held3 (fun W'=>Below w2.heap.size w2 W'/\W'.cell? ⟨w.heap.size,3,none⟩=some (.slice A l.length c)/\W'.cell? ⟨(w.heap.size+1),0,none⟩=some (.string m.name)/\W'.cell? ⟨(w.heap.size+1),1,none⟩=some (.int .i64 m.major)/\W'.cell? ⟨(w.heap.size+1),2,none⟩=some (.int .i64 m.minor)/\W'.cell? ⟨(w.heap.size+1),3,none⟩=some (.string m.text)/\W'.cell? ⟨(w.heap.size+1),4,none⟩=some (.slice m.eA m.ex.length m.eC)/\W'.cell? ⟨(w.heap.size+1),5,none⟩=some (.slice m.iA m.im.length m.iC)/\W'.cell? ⟨(w.heap.size+1),6,none⟩=some (.slice m.pA m.pa.length m.pC)) (first|exact HC0.out|exact HCD.out _ HC0.out|exact HCS.out _ _ (by assumption) (by assumption)|exact HCS.out _ _ HC0.out (by assumption)|exact HCS.out _ _ (HCD.out _ HC0.out) (by assumption)|exact HCS.out _ _ (HCD.out _ (by assumption)) (by assumption)|exact HCD.out _ (by assumption)|exact HCA.out _ _ (by assumption)|exact HCA.out _ _ HC0.out|exact HCA.out _ _ (HCD.out _ HC0.out)|exact HCD.out _ (HCA.out _ _ (by assumption))|exact HCA.out _ _ (HCS.out _ _ HC0.out (by assumption))|exact HCA.out _ _ (HCS.out _ _ (HCD.out _ HC0.out) (by assumption))|exact HCX.out _ _ _ _ (GZ3 _) (by assumption)|exact HCX.out _ _ _ _ (GZ3 _) (HCS.out _ _ (HCA.out _ _ HC0.out) (by assumption))|exact HCX.out _ _ _ _ (GZ3 _) (HCS.out _ _ (HCD.out _ (HCA.out _ _ HC0.out)) (by assumption))|assumption) (first|(go_at_call 107;(with_reducible refine(c3.out _).mono ?_);rintro e w3 ⟨rfl,hb3⟩)|(go_at_call 106;(with_reducible refine(c4.out _ (HB2.out.trans ((HCL.out _ (by first|assumption|exact HCS.out _ _ (by assumption) (by assumption)|exact HCS.out _ _ HC0.out (by assumption)|exact HCS.out _ _ (HCD.out _ HC0.out) (by assumption))).mono HB2.out.size))).mono ?_);rintro e w4 ⟨rfl,hb4⟩))
  have hb24:=HCL.out w4 (by assumption)
  have HR4:=Hp (aF hb24 HR2)
  have HG4:=Hp (aF hb24 HG2)
  have HM4:=Hp (aF hb24 HM2)
  have HB4:=Hp (HB2.trans (hb24.mono HB2.size))
  obtain⟨_,a0,a1,a2,a3,_⟩:=aB HG4.out
  obtain⟨b0,b1,b2,b3,b4,b5,b6⟩:=RF HM4.out
  clear hb24 hb4 HC0 HCD HCS HCA HCX HCL hl2 hm2
  by_cases t:fi<0
  ·have hFE:F=8:=by rw[HCE.out,if_pos t,if_pos (by decide)]
   subst hFE
   have t5:decide (fi<0)=true:=decide_eq_true t
   have T:=Hp (show(8:Int)≠0 by decide)
   clear t
   obtain⟨_,zr0,zr1,zr2,zr3,zf0,zf1,zf2,zf3⟩:=aB HR4.out
   go_wp2_with fail
   obtain⟨hg,ho⟩:=gY HR4.out (.int .i64 0) (.int .i64 0) (.slice none 0 0) (.slice none 0 0)
   refine bodyPost_ret (results_cell_tmp rfl _ _ (w.heap.size+2) 39 _ (0,0) _ rfl hg Tryz.underlying39 rfl Tryz.RP) rfl ?_
   exact Rx T.out (HB4.trans ((ho.below (GY2 (ZL HR4.out))).mono (by omega)))
  ·have hFE:F=aZ k L:=by rw[HCE.out,if_neg t,if_neg (by decide)]
   have HF:=Hp hFE
   have t5:decide (fi<0)=false:=GY7 t
   clear t hFE
   go_wp2_with fail
   refine(c5.out _ HB4.out).mono ?_;rintro e w5 ⟨⟨A5,c5',rfl,ho5⟩,hb5⟩
   have HO5:=Hp (show aP w5 w.heap.size _ _ from RH ho5 HB4.size)
   have HR5:=Hp (aF hb5 HR4)
   have HG5:=Hp (aF hb5 HG4)
   have HB5:=Hp (HB4.trans (hb5.mono HB4.size))
   clear ho5 hb5 a0 a1 a2 a3 b0 b1 b2 b3 b4 b5 b6
   obtain⟨_,g0,g1,g2,g3,gf0,gf1,gf2,gf3⟩:=aB HG5.out
   go_wp2_with fail
   obtain⟨w8,e8,HG8,HR8,HB8,HT8,HO8⟩:=rO (nR:=2) HB5.out HG5.out HR5.out (by omega) HO5.out HLO.out HLL.out HK.out
   rw[<-e8]
   clear e8 g0 g1 g2 g3 gf0 gf1 gf2 gf3
   obtain⟨_,g0,g1,g2,g3,_⟩:=aB HG8.out
   have cC:=Hp (gH k A5 c5' L w8 HT8.out.1 HT8.out.2)
   rw[<-HF.out]at cC
   try go_wp2_with fail
   refine(cC.out).mono ?_;rintro e w9 ⟨rfl,hb9⟩
   have HR9:=Hp (aF hb9 HR8)
   have HG9:=Hp (aF hb9 HG8)
   have HB9:=Hp (HB8.trans (hb9.mono HB8.size))
   have HT9:=Hp (HT8.below hb9)
   have HO9:=Hp (aO HO8 hb9)
   clear hb9 cC g0 g1 g2 g3
   by_cases t:F=0
   ·subst t
    obtain⟨_,g0,g1,g2,g3,_⟩:=aB HG9.out
    obtain⟨_,zr0,zr1,zr2,zr3,zf0,zf1,zf2,zf3⟩:=aB HR9.out
    go_wp2_with fail
    obtain⟨hg,ho⟩:=gY HR9.out (.int .i64 k.major) (.int .i64 k.minor) (.slice k.eA k.ex.length k.eC) (.slice A5 L.length c5')
    refine bodyPost_ret (results_cell_tmp rfl _ _ (w.heap.size+2) 39 _ (0,0) _ rfl hg Tryz.underlying39 rfl Tryz.RP) rfl ?_
    exact⟨⟨k,A5,L,c5',rfl,HT9.other ⟨_,_,_,_,_,_,_,_,HR9.out⟩ ho,rfl,rfl,rfl,rfl,own_kp HO9.out (ho.kp HR9.out (ts:=[39]) (by simp)) (by decide)⟩,HB9.trans ((ho.below (GY2 (ZL HR9.out))).mono (by omega))⟩
   ·have t':(F != 0)=true:=by simp[t]
    have T:=Hp t
    clear t
    obtain⟨_,zr0,zr1,zr2,zr3,zf0,zf1,zf2,zf3⟩:=aB HR9.out
    go_wp2_with fail
    obtain⟨hg,ho⟩:=gY HR9.out (.int .i64 0) (.int .i64 0) (.slice none 0 0) (.slice none 0 0)
    refine bodyPost_ret (results_cell_tmp rfl _ _ (w.heap.size+2) 39 _ (0,0) _ rfl hg Tryz.underlying39 rfl Tryz.RP) rfl ?_
    exact Rx T.out (HB9.trans ((ho.below (GY2 (ZL HR9.out))).mono (by omega)))
theorem Eh (k:Krn)(A:Option Addr)(c:Nat)(l:List Plc)(nm:ByteArray)(w:World)(hk:k.ok w)(h:aU w A l)(hrg:aZ k l=0):
  Calls Tryz.prog 40 #[rgV k A l c,.string nm] w (Ez w (kP k ⟨2,jB,nm⟩ l) k (Rc l nm)):=by
 obtain⟨w0,hw0⟩:=Nm (w.alloc (.cells #[.int .i64 k.major,.int .i64 k.minor,.slice k.eA k.ex.length k.eC,.slice A l.length c] 39))
 have hb0:Below w.heap.size w w0:=hw0▸ZB
 have hz0:w0.heap.size=w.heap.size+1:=by rw[hw0];simp
 have hG0:w0.heap[w.heap.size]? =some (.cells #[.int .i64 k.major,.int .i64 k.minor,.slice k.eA k.ex.length k.eC,.slice A l.length c] 39 (0,0)):=by rw[hw0];exact heap_alloc_new w _
 obtain⟨y0,hy0⟩:=Nm (w0.alloc (.cells #[.int .i64 0,.int .i64 0,.slice none 0 0,.slice none 0 0] 39))
 have hby:Below w0.heap.size w0 y0:=hy0▸ZB
 have HG0:=Hp ((hby.block w.heap.size (by omega)).trans hG0)
 have HR0:=Hp (show y0.heap[w.heap.size+1]? =some (.cells #[.int .i64 0,.int .i64 0,.slice none 0 0,.slice none 0 0] 39 (0,0)) by rw[hy0,<-hz0];exact heap_alloc_new w0 _)
 have HB0:=Hp (hb0.trans (hby.mono hb0.size))
 obtain⟨_,k0,k1,k2,k3,_⟩:=aB HG0.out
 have hreg:=Et hrg
 have h8:=(cZ hreg).1
 have HP:=Hp h
 have HK:=Hp hk
 have H8:=Hp h8
 have c2:=Hp (fun W(hb:Below w.heap.size w W)=>lX A c l nm W (h.below hb).row h.len)
 have c3:=Hp (fun W(hb:Below w.heap.size w W)(i j:Nat)(hi:i<l.length)(hj:j<l.length)=>CE A c l i j W (h.below hb) hi hj)
 have c5:=Hp (fun W(hb:Below w.heap.size w W)(j:Nat)=>VC A c l j W (h.below hb) (by omega))
 have HU:=Hp (fun(j:Nat)(hj:idxOf (named nm) l=j)=>Mm (NV hrg) hj)
 have HFI:=Hp (fun(j:Nat)(hj:idxOf (named nm) l=j)=>U5 hj)
 obtain⟨F,hF⟩:=Nm (kP k ⟨2,jB,nm⟩ l)
 have hce:F=if lF l nm≠0 then lF l nm else aZ k (Rc l nm):=hF
 have HRL:=Hp (fun(j:Nat)(hj:idxOf (named nm) l=j)=>show Rc l nm=l.eraseIdx j by unfold Rc;rw[hj,Int.toNat_natCast])
 obtain⟨L,hL⟩:=Nm (Rc l nm)
 have HLO:=Hp (show∀x∈L,x.m.ok w from fun x hx=>by
  rw[hL]at hx
  exact h.each x (List.mem_of_mem_eraseIdx hx))
 have HLL:=Hp (show L.length<=big by rw[hL];unfold Rc;have:=List.length_eraseIdx_le l (idxOf (named nm) l).toNat;unfold big;omega)
 rw[<-hF]
 rw[<-hL]at hce HRL ⊢
 have cases:=De l nm
 obtain⟨E,hE⟩:=Nm (lF l nm)
 rw[<-hE]at cases hce
 obtain⟨ix,hix⟩:=Nm (idxOf (named nm) l)
 rw[<-hix]at c2 cases HU HFI HRL
 have hw0':=hw0.symm
 have hy0':=hy0.symm
 clear hw0 hy0 hb0 hby hG0 hk h hF hL hE hix hrg hreg h8
 have HCE:=Hp hce
 clear hce
 rcases cases with⟨t1,rfl⟩|⟨j,rfl,hus,rfl⟩|⟨j,rfl,hus,rfl⟩
 ·have hFE:F=5:=by rw[HCE.out,if_pos (by decide)]
  subst hFE
  have t':decide (ix<0)=true:=decide_eq_true t1
  have T:=Hp (show(5:Int)≠0 by decide)
  clear t1
  go_enter Tryz.func40,Tryz.ntmps40
  go_wp2_with fail
  refine(c2.out _ HB0.out).mono ?_;rintro e w2 ⟨rfl,hb2⟩
  have HR2:=Hp (aF hb2 HR0)
  have HB2:=Hp (HB0.trans (hb2.mono HB0.size))
  clear hb2
  obtain⟨_,zr0,zr1,zr2,zr3,zf0,zf1,zf2,zf3⟩:=aB HR2.out
  go_wp2_with fail
  obtain⟨hg,ho⟩:=gY HR2.out (.int .i64 0) (.int .i64 0) (.slice none 0 0) (.slice none 0 0)
  refine bodyPost_ret (results_cell_tmp rfl _ _ (w.heap.size+1) 39 _ (0,0) _ rfl hg Tryz.underlying39 rfl Tryz.RP) rfl ?_
  exact Rx T.out (HB2.trans ((ho.below (GY2 (ZL HR2.out))).mono (by omega)))
 ·have hFE:F=4:=by rw[HCE.out,if_pos (by decide)]
  subst hFE
  have t':decide ((j:Int)<0)=false:=GY7 (by omega)
  have hjl:j<l.length:=by obtain⟨h,_⟩:=HFI.out j rfl;exact h
  have hud:=HU.out j rfl
  rw[hus]at hud
  have HUD:=Hp hud
  have HJL:=Hp hjl
  clear hud hus
  go_enter Tryz.func40,Tryz.ntmps40
  go_wp2_with fail
  refine(c2.out _ HB0.out).mono ?_;rintro e w2 ⟨rfl,hb2⟩
  have HR2:=Hp (aF hb2 HR0)
  have HG2:=Hp (aF hb2 HG0)
  have HB2:=Hp (HB0.trans (hb2.mono HB0.size))
  clear hb2 k0 k1 k2 k3 hjl
  go_wp2_with fail
  go_loopw [7] (fun i wr=>∃q:Nat,q<=l.length/\i=.int .i64 q/\(∀p,p<q->kV l p j=false)/\Below w2.heap.size w2 wr) (fun i _=>l.length -(intOf i).toNat)
  case atStart=>exact⟨0,by omega,rfl,fun p hp=>by omega,GZ4 _ _⟩
  case round=>
   obtain⟨q,hq,rfl,hn,hb⟩:=hrel
   have HN:=Hp hn
   have HBR:=Hp (HB2.trans (hb.mono HB2.size))
   have HB:=Hp hb
   have HGR:=Hp (aF hb HG2)
   have HRR:=Hp (aF hb HR2)
   obtain⟨_,g0,g1,g2,g3,_⟩:=aB HGR.out
   have hl8:l.length<=8:=H8.out
   clear hn hb
   by_cases hlt:q<l.length
   ·have hlt':(q:Int)<l.length:=by omega
    have cD:=Hp (c3.out wr HBR.out q j hlt HJL.out)
    have hdn:kV l q j=asks (l[q]'hlt).m (tx (l[j]'HJL.out).m.name):=by
     unfold kV
     rw[GY5 hlt]
     show asks _ (nmN l j)=_
     rw[Sq HJL.out]
    rw[<-hdn]at cD
    clear hdn
    cases hd:kV l q j
    ·rw[hd]at cD
     have HD:=Hp hd
     clear hd
     go_wp2_with fail
     refine(cD.out).mono ?_;rintro e w4 ⟨rfl,hb4⟩
     have HB4:=Hp (HB.trans (hb4.mono HB.size))
     clear hb4
     go_wp2_with fail
     go_roundw
     case rel=>exact⟨q+1,by omega,by go_num,fun p hp=>by rcases Nat.lt_succ_iff_lt_or_eq.1 hp with h|rfl;exact HN.out p h;exact HD.out,HB4.out⟩
     case measure=>(simp[intOf];try omega)
    ·rw[hd]at cD
     have T:=Hp (show(4:Int)≠0 by decide)
     clear hd
     go_wp2_with fail
     refine(cD.out).mono ?_;rintro e w4 ⟨rfl,hb4⟩
     have HR4:=Hp (aF hb4 HRR)
     have HB4:=Hp (HBR.trans (hb4.mono HBR.size))
     clear hb4
     obtain⟨_,zr0,zr1,zr2,zr3,zf0,zf1,zf2,zf3⟩:=aB HR4.out
     go_wp2_with fail
     obtain⟨hg,ho⟩:=gY HR4.out (.int .i64 0) (.int .i64 0) (.slice none 0 0) (.slice none 0 0)
     refine bodyPost_ret (results_cell_tmp rfl _ _ (w.heap.size+1) 39 _ (0,0) _ rfl hg Tryz.underlying39 rfl Tryz.RP) rfl ?_
     exact Rx T.out (HB4.trans ((ho.below (GY2 (ZL HR4.out))).mono (by omega)))
   ·exfalso
    have h1:=HUD.symm
    rw[List.any_eq_true]at h1
    obtain⟨p,hp,hpd⟩:=h1
    have:=HN.out p (by have:=List.mem_range.1 hp;omega)
    rw[this]at hpd;cases hpd
 ·have hFE:F=aZ k L:=by rw[HCE.out,if_neg (by decide)]
  have HF:=Hp hFE
  clear hFE
  have t':decide ((j:Int)<0)=false:=GY7 (by omega)
  have hjl:j<l.length:=by obtain⟨h,_⟩:=HFI.out j rfl;exact h
  have hud:=HU.out j rfl
  rw[hus]at hud
  have HUD:=Hp hud
  have HJL:=Hp hjl
  clear hud hus
  go_enter Tryz.func40,Tryz.ntmps40
  go_wp2_with fail
  refine(c2.out _ HB0.out).mono ?_;rintro e w2 ⟨rfl,hb2⟩
  have HR2:=Hp (aF hb2 HR0)
  have HG2:=Hp (aF hb2 HG0)
  have HB2:=Hp (HB0.trans (hb2.mono HB0.size))
  clear hb2 k0 k1 k2 k3 hjl
  go_wp2_with fail
  go_loopw [7] (fun i wr=>∃q:Nat,q<=l.length/\i=.int .i64 q/\(∀p,p<q->kV l p j=false)/\Below w2.heap.size w2 wr) (fun i _=>l.length -(intOf i).toNat)
  case atStart=>exact⟨0,by omega,rfl,fun p hp=>by omega,GZ4 _ _⟩
  case round=>
   obtain⟨q,hq,rfl,hn,hb⟩:=hrel
   have HN:=Hp hn
   have HBR:=Hp (HB2.trans (hb.mono HB2.size))
   have HB:=Hp hb
   have HGR:=Hp (aF hb HG2)
   have HRR:=Hp (aF hb HR2)
   obtain⟨_,g0,g1,g2,g3,_⟩:=aB HGR.out
   have hl8:l.length<=8:=H8.out
   clear hn hb
   by_cases hlt:q<l.length
   ·have hlt':(q:Int)<l.length:=by omega
    have cD:=Hp (c3.out wr HBR.out q j hlt HJL.out)
    have hdn:kV l q j=asks (l[q]'hlt).m (tx (l[j]'HJL.out).m.name):=by
     unfold kV
     rw[GY5 hlt]
     show asks _ (nmN l j)=_
     rw[Sq HJL.out]
    rw[<-hdn]at cD
    clear hdn
    cases hd:kV l q j
    ·rw[hd]at cD
     have HD:=Hp hd
     clear hd
     go_wp2_with fail
     refine(cD.out).mono ?_;rintro e w4 ⟨rfl,hb4⟩
     have HB4:=Hp (HB.trans (hb4.mono HB.size))
     clear hb4
     go_wp2_with fail
     go_roundw
     case rel=>exact⟨q+1,by omega,by go_num,fun p hp=>by rcases Nat.lt_succ_iff_lt_or_eq.1 hp with h|rfl;exact HN.out p h;exact HD.out,HB4.out⟩
     case measure=>(simp[intOf];try omega)
    ·exfalso
     have h1:=HUD.symm
     rw[List.any_eq_false]at h1
     exact h1 q (List.mem_range.2 hlt) hd
   ·have hlt2:¬((q:Int)<l.length):=by omega
    clear hlt
    have cW:=Hp (c5.out wr HBR.out j)
    rw[<-HRL.out j rfl]at cW
    go_wp2_with fail
    refine(cW.out).mono ?_;rintro e w5 ⟨⟨A5,c5',rfl,ho5⟩,hb5⟩
    have HO5:=Hp (show aP w5 w.heap.size _ _ from RH ho5 HBR.size)
    have HR5:=Hp (aF hb5 HRR)
    have HG5:=Hp (aF hb5 HGR)
    have HB5:=Hp (HBR.trans (hb5.mono HBR.size))
    clear ho5 hb5 g0 g1 g2 g3 cW
    obtain⟨_,g0,g1,g2,g3,gf0,gf1,gf2,gf3⟩:=aB HG5.out
    go_wp2_with fail
    obtain⟨w8,e8,HG8,HR8,HB8,HT8,HO8⟩:=rO (nR:=1) HB5.out HG5.out HR5.out (by omega) HO5.out HLO.out HLL.out HK.out
    rw[<-e8]
    clear e8 g0 g1 g2 g3 gf0 gf1 gf2 gf3
    obtain⟨_,g0,g1,g2,g3,_⟩:=aB HG8.out
    have cC:=Hp (gH k A5 c5' L w8 HT8.out.1 HT8.out.2)
    rw[<-HF.out]at cC
    try go_wp2_with fail
    refine(cC.out).mono ?_;rintro e w9 ⟨rfl,hb9⟩
    have HR9:=Hp (aF hb9 HR8)
    have HG9:=Hp (aF hb9 HG8)
    have HB9:=Hp (HB8.trans (hb9.mono HB8.size))
    have HT9:=Hp (HT8.below hb9)
    have HO9:=Hp (aO HO8 hb9)
    clear hb9 cC g0 g1 g2 g3
    by_cases t:F=0
    ·subst t
     obtain⟨_,g0,g1,g2,g3,_⟩:=aB HG9.out
     obtain⟨_,zr0,zr1,zr2,zr3,zf0,zf1,zf2,zf3⟩:=aB HR9.out
     go_wp2_with fail
     obtain⟨hg,ho⟩:=gY HR9.out (.int .i64 k.major) (.int .i64 k.minor) (.slice k.eA k.ex.length k.eC) (.slice A5 L.length c5')
     refine bodyPost_ret (results_cell_tmp rfl _ _ (w.heap.size+1) 39 _ (0,0) _ rfl hg Tryz.underlying39 rfl Tryz.RP) rfl ?_
     exact⟨⟨k,A5,L,c5',rfl,HT9.other ⟨_,_,_,_,_,_,_,_,HR9.out⟩ ho,rfl,rfl,rfl,rfl,own_kp HO9.out (ho.kp HR9.out (ts:=[39]) (by simp)) (by decide)⟩,HB9.trans ((ho.below (GY2 (ZL HR9.out))).mono (by omega))⟩
    ·have t':(F != 0)=true:=by simp[t]
     have T:=Hp t
     clear t
     obtain⟨_,zr0,zr1,zr2,zr3,zf0,zf1,zf2,zf3⟩:=aB HR9.out
     go_wp2_with fail
     obtain⟨hg,ho⟩:=gY HR9.out (.int .i64 0) (.int .i64 0) (.slice none 0 0) (.slice none 0 0)
     refine bodyPost_ret (results_cell_tmp rfl _ _ (w.heap.size+1) 39 _ (0,0) _ rfl hg Tryz.underlying39 rfl Tryz.RP) rfl ?_
     exact Rx T.out (HB9.trans ((ho.below (GY2 (ZL HR9.out))).mono (by omega)))
end
end Go.Proofs.YtjiedaialianmaaGreat
