import Derived.Test.YtjiedaialianmaaGreatA22
import Derived.Test.YtjiedaialianmaaGreatBCoPlReRu01
open Go
set_option maxRecDepth 100000
set_option maxHeartbeats 8000000
namespace Go.Proofs.YtjiedaialianmaaGreat
open Go.RowKit
open Gs (Tx)
theorem VE (A A':Option Addr)(c c' n n':Nat)(w:World)(h:n≠n'):
  Calls Tryz.prog 33 #[.slice A n c,.slice A' n' c'] w fun e w'=>e=.returned (.bool false)/\Below w.heap.size w w':=by
 have HB:=Hp (GZ4 w.heap.size w)
 have t:((n:Int) != n')=true:=by simp;omega
 clear h
 go_enter Tryz.func33,Tryz.ntmps33
 go_wp2_with fail
 go_ret
 exact⟨rfl,HB.out⟩
theorem Ex (m:Mod)(w:World)(h1:m.ex.length<=big)(h2:m.im.length<=big)(h3:m.pa.length<=big):
  Calls Tryz.prog 51 #[m.v,.agg #[.string ⟨#[]⟩,.int .i64 0,.int .i64 0,.string ⟨#[]⟩,.slice none 0 0,.slice none 0 0,.slice none 0 0]] w fun e w'=>e=.returned (.bool (Si m))/\Below w.heap.size w w':=by
 obtain⟨w0,hw0⟩:=Nm (w.alloc (.cells #[.string m.name,.int .i64 m.major,.int .i64 m.minor,.string m.text,.slice m.eA m.ex.length m.eC,.slice m.iA m.im.length m.iC,.slice m.pA m.pa.length m.pC] 70))
 obtain⟨e0,e1,e2,e3,e4,e5,e6,hz,hb⟩:=wE hw0
 obtain⟨w1,hw1⟩:=Nm (w0.alloc (.cells #[.string ⟨#[]⟩,.int .i64 0,.int .i64 0,.string ⟨#[]⟩,.slice none 0 0,.slice none 0 0,.slice none 0 0] 70))
 obtain⟨f0,f1,f2,f3,f4,f5,f6,hz1,hb1⟩:=wE hw1
 rw[hz]at f0 f1 f2 f3 f4 f5 f6 hz1
 have x0:=(hb1.cell (p:=⟨w.heap.size,0,none⟩) (by simp;omega)).trans e0
 have x1:=(hb1.cell (p:=⟨w.heap.size,1,none⟩) (by simp;omega)).trans e1
 have x2:=(hb1.cell (p:=⟨w.heap.size,2,none⟩) (by simp;omega)).trans e2
 have x3:=(hb1.cell (p:=⟨w.heap.size,3,none⟩) (by simp;omega)).trans e3
 have x4:=(hb1.cell (p:=⟨w.heap.size,4,none⟩) (by simp;omega)).trans e4
 have x5:=(hb1.cell (p:=⟨w.heap.size,5,none⟩) (by simp;omega)).trans e5
 have x6:=(hb1.cell (p:=⟨w.heap.size,6,none⟩) (by simp;omega)).trans e6
 have HB1:=Hp (show Below w.heap.size w w1 from hb.trans (hb1.mono (by omega)))
 have hw0':=hw0.symm
 have hw1':=hw1.symm
 have cL:=Hp (fun W(hn:m.ex.length≠0)=>VE m.eA none m.eC 0 m.ex.length 0 W hn)
 have cS:=Hp (show∀W,Calls Tryz.prog 33 #[.slice m.eA 0 m.eC,.slice none 0 0] W fun e w'=>e=.returned (.bool true)/\Below W.heap.size W w' from fun W=>mE m.eA none m.eC 0 [] W ⟨rfl,fun h=>absurd h (by simp)⟩ Row.nil (Nat.zero_le _))
 obtain⟨V,hV⟩:=Nm (Si m)
 rw[<-hV]
 unfold Si at hV
 unfold big at h1 h2 h3
 have q0:=mW m.name
 have q3:=mW m.text
 have q1:(m.major==0)=decide (m.major=0):=by rw[Bool.eq_iff_iff];simp
 have q2:(m.minor==0)=decide (m.minor=0):=by rw[Bool.eq_iff_iff];simp
 rw[<-q0,<-q1,<-q2,<-q3]at hV
 clear q0 q1 q2 q3 hw0 hw1 hb hb1 e0 e1 e2 e3 e4 e5 e6
 obtain⟨nm,mj,mn,tt,ex,im,pa,eA,eC,iA,iC,pA,pC⟩:=m
 simp only at hV h1 h2 h3 cL cS x0 x1 x2 x3 x4 x5 x6 hw0'
 cases t0:(nm.toList==[])
 ·rw[t0]at hV
  obtain rfl:V=false:=by rw[hV];rfl
  clear hV
  go_enter Tryz.func51,Tryz.ntmps51
  go_wp2_with fail
  go_ret
  exact⟨rfl,HB1.out⟩
 rw[t0]at hV
 by_cases t1:mj=0
 case neg=>
  obtain rfl:V=false:=by rw[hV,beq_eq_false_iff_ne.2 t1];rfl
  have t1':(mj != 0)=true:=by simp[t1]
  clear hV t1
  go_enter Tryz.func51,Tryz.ntmps51
  go_wp2_with fail
  go_ret
  exact⟨rfl,HB1.out⟩
 subst t1
 by_cases t2:mn=0
 case neg=>
  obtain rfl:V=false:=by rw[hV,beq_eq_false_iff_ne.2 t2];rfl
  have t2':(mn != 0)=true:=by simp[t2]
  clear hV t2
  go_enter Tryz.func51,Tryz.ntmps51
  go_wp2_with fail
  go_ret
  exact⟨rfl,HB1.out⟩
 subst t2
 cases t3:(tt.toList==[])
 ·rw[t3]at hV
  obtain rfl:V=false:=by rw[hV];rfl
  clear hV
  go_enter Tryz.func51,Tryz.ntmps51
  go_wp2_with fail
  go_ret
  exact⟨rfl,HB1.out⟩
 rw[t3]at hV
 have hQ:V=decide (ex.length+im.length+pa.length=0):=by rw[hV];rfl
 clear hV
 by_cases t4:ex.length=0
 ·by_cases t5:im.length=0
  ·by_cases t6:pa.length=0
   ·obtain rfl:V=true:=by rw[hQ];exact decide_eq_true (by omega)
    obtain rfl:=GY9 t4
    obtain rfl:=GY9 t5
    obtain rfl:=GY9 t6
    clear hQ t4 t5 t6 cL
    simp only[List.length_nil]at x4 x5 x6 hw0'
    go_enter Tryz.func51,Tryz.ntmps51
    go_wp2_with fail
    with_reducible refine(cS.out _).mono ?_;rintro e w2 ⟨rfl,hb2⟩
    have HB2:=Hp (HB1.trans (hb2.mono HB1.size))
    obtain⟨hc2,hf2⟩:=aJ hb2
    have hz2:=hb2.size
    rw[hz1]at hz2
    clear hb2
    go_wp2_with fail
    go_loopw [5] (fun i wr=>i=.int .i64 0/\w2=wr) (fun i _=>0)
    case atStart=>exact⟨rfl,rfl⟩
    case round=>
     obtain⟨rfl,rfl⟩:=hrel
     go_wp2_with fail
     go_loopw [6] (fun i wr=>i=.int .i64 0/\w2=wr) (fun i _=>0)
     case atStart=>exact⟨rfl,rfl⟩
     case round=>
      obtain⟨rfl,rfl⟩:=hrel
      go_wp2_with fail
      go_ret
      exact⟨rfl,HB2.out⟩
   ·obtain rfl:V=false:=by rw[hQ];exact GY7 (by omega)
    obtain rfl:=GY9 t4
    obtain rfl:=GY9 t5
    have t6':((pa.length:Int) != 0)=true:=by rw[bne_iff_ne];omega
    clear hQ t4 t5 t6 cL
    simp only[List.length_nil]at x4 x5 x6 hw0'
    go_enter Tryz.func51,Tryz.ntmps51
    go_wp2_with fail
    with_reducible refine(cS.out _).mono ?_;rintro e w2 ⟨rfl,hb2⟩
    have HB2:=Hp (HB1.trans (hb2.mono HB1.size))
    obtain⟨hc2,hf2⟩:=aJ hb2
    have hz2:=hb2.size
    rw[hz1]at hz2
    clear hb2
    go_wp2_with fail
    go_ret
    exact⟨rfl,HB2.out⟩
  ·obtain rfl:V=false:=by rw[hQ];exact GY7 (by omega)
   obtain rfl:=GY9 t4
   have t5':((im.length:Int) != 0)=true:=by rw[bne_iff_ne];omega
   clear hQ t4 t5 cL
   simp only[List.length_nil]at x4 x5 x6 hw0'
   go_enter Tryz.func51,Tryz.ntmps51
   go_wp2_with fail
   with_reducible refine(cS.out _).mono ?_;rintro e w2 ⟨rfl,hb2⟩
   have HB2:=Hp (HB1.trans (hb2.mono HB1.size))
   obtain⟨hc2,hf2⟩:=aJ hb2
   have hz2:=hb2.size
   rw[hz1]at hz2
   clear hb2
   go_wp2_with fail
   go_ret
   exact⟨rfl,HB2.out⟩
 ·obtain rfl:V=false:=by rw[hQ];exact GY7 (by omega)
  have C:=Hp (fun W=>cL.out W t4)
  clear hQ t4 cL cS
  go_enter Tryz.func51,Tryz.ntmps51
  go_wp2_with fail
  with_reducible refine(C.out _).mono ?_;rintro e w2 ⟨rfl,hb2⟩
  have HB2:=Hp (HB1.trans (hb2.mono HB1.size))
  go_wp2_with fail
  go_ret
  exact⟨rfl,HB2.out⟩
theorem JM (m:Mod)(w:World)(h1:m.ex.length<=big)(h2:m.im.length<=big)(h3:m.pa.length<=big):
  Calls Tryz.prog 141 #[m.v] w fun e w'=>e=.returned (.bool (Si m))/\Below w.heap.size w w':=by
 obtain⟨w0,hw0⟩:=Nm (w.alloc (.cells #[.string m.name,.int .i64 m.major,.int .i64 m.minor,.string m.text,.slice m.eA m.ex.length m.eC,.slice m.iA m.im.length m.iC,.slice m.pA m.pa.length m.pC] 70))
 obtain⟨e0,e1,e2,e3,e4,e5,e6,hz,hb⟩:=wE hw0
 have HB:=Hp hb
 have hw0':=hw0.symm
 have c1:=Hp (fun W=>Ex m W h1 h2 h3)
 clear hw0 hb h1 h2 h3
 go_enter Tryz.func141,Tryz.ntmps141
 go_wp2_with fail
 refine(c1.out _).mono ?_;rintro e w2 ⟨rfl,hb2⟩
 go_wp2_with fail
 go_ret
 exact⟨rfl,HB.trans (hb2.mono HB.size)⟩
theorem UT (c:Cm)(w:World)(h:c.m.ok w)(hn:c.nm.size<=big):
  Calls Tryz.prog 63 #[c.v] w fun e w'=>e=.returned (.int .i64 (RL c))/\Below w.heap.size w w':=by
 obtain⟨k,m,nm⟩:=c
 simp only at h hn
 show Calls Tryz.prog 63 #[.agg #[.int .i64 k,.string m.name,.int .i64 m.major,.int .i64 m.minor,.string m.text,.slice m.eA m.ex.length m.eC,.slice m.iA m.im.length m.iC,.slice m.pA m.pa.length m.pC,.string nm]] w _
 obtain⟨w0,hw0⟩:=Nm (w.alloc (.cells #[.int .i64 k,.string m.name,.int .i64 m.major,.int .i64 m.minor,.string m.text,.slice m.eA m.ex.length m.eC,.slice m.iA m.im.length m.iC,.slice m.pA m.pa.length m.pC,.string nm] 102))
 have hw0':=hw0.symm
 obtain⟨p0,p1,p2,p3,p4,p5,p6,p7,p8⟩:=dJ (W:=w0) (b:=w.heap.size) (c:=⟨k,m,nm⟩) (by rw[hw0];exact heap_alloc_new w _)
 simp only at p0 p1 p2 p3 p4 p5 p6 p7 p8
 have H0:=Hp (show Below w.heap.size w w0 from hw0▸ZB)
 have c2:=Hp (fun W=>JM m W h.ex.2.1 h.im.2.1 h.pa.2)
 have c3:=Hp (fun W=>Sl nm W hn)
 have c4:=Hp (fun W(hb:Below w.heap.size w W)=>iV m W (h.below hb))
 rw[UR]
 generalize Si m=B at c2 ⊢
 generalize isName nm=I at c3 ⊢
 generalize aL m=M at c4 ⊢
 obtain⟨Z,hZ⟩:∃Z,(nm.toList==[])=Z:=⟨_,rfl⟩
 rw[hZ]
 obtain⟨E,hE⟩:=Nm (Cf k B Z I M)
 rw[<-hE]
 have hz0:w.heap.size<w0.heap.size:=by rw[hw0];simp
 clear hw0 h hn
 by_cases t1:k<1
 ·have c0:=Hp (fun W=>RQ k 1 4 W (.inl t1))
  clear c2 c3 c4
  obtain rfl:E=7:=by rw[hE];unfold Cf;rw[if_pos (.inl t1)]
  clear hE
  go_enter Tryz.func63,Tryz.ntmps63
  go_wp2_with fail
  refine(c0.out _).mono ?_;rintro e w' ⟨rfl,rfl⟩
  go_wp2_with fail
  go_ret
  exact⟨rfl,H0.out⟩
 by_cases t2:4<k
 ·have c0:=Hp (fun W=>RQ k 1 4 W (.inr t2))
  clear c2 c3 c4 t1
  obtain rfl:E=7:=by rw[hE];unfold Cf;rw[if_pos (.inr t2)]
  clear hE
  go_enter Tryz.func63,Tryz.ntmps63
  go_wp2_with fail
  refine(c0.out _).mono ?_;rintro e w' ⟨rfl,rfl⟩
  go_wp2_with fail
  go_ret
  exact⟨rfl,H0.out⟩
 obtain rfl|rfl|rfl|rfl:k=1\/k=2\/k=3\/k=4:=by omega
 ·have c0:=Hp (fun W=>bK 1 1 4 W (by decide) (by decide))
  clear t1 t2
  cases Z
  ·obtain rfl:E=1:=by rw[hE];cases B<;>cases I<;>rfl
   clear hE
   go_enter Tryz.func63,Tryz.ntmps63
   go_wp2_with fail
   refine(c0.out _).mono ?_;rintro e w' ⟨rfl,rfl⟩
   go_wp2_with fail
   go_ret
   exact⟨rfl,H0.out⟩
  ·obtain rfl:E=M:=by rw[hE];cases B<;>cases I<;>rfl
   clear hE
   go_enter Tryz.func63,Tryz.ntmps63
   go_wp2_with fail
   refine(c0.out _).mono ?_;rintro e w' ⟨rfl,rfl⟩
   go_wp2_with fail
   refine(c4.out _ H0.out).mono ?_;rintro e w1 ⟨rfl,hb1⟩
   have HB1:=Hp (H0.trans (hb1.mono H0.size))
   have hz1:w.heap.size<w1.heap.size:=GY0 hz0 hb1.size
   obtain⟨hc1,hf1⟩:=aJ hb1;clear hb1
   go_wp2_with fail
   go_ret
   exact⟨rfl,HB1.out⟩
 ·have c0:=Hp (fun W=>bK 2 1 4 W (by decide) (by decide))
  clear t1 t2
  cases B
  ·obtain rfl:E=1:=by rw[hE];cases Z<;>cases I<;>rfl
   clear hE
   go_enter Tryz.func63,Tryz.ntmps63
   go_wp2_with fail
   refine(c0.out _).mono ?_;rintro e w' ⟨rfl,rfl⟩
   go_wp2_with fail
   refine(c2.out _).mono ?_;rintro e w1 ⟨rfl,hb1⟩
   have HB1:=Hp (H0.trans (hb1.mono H0.size))
   have hz1:w.heap.size<w1.heap.size:=GY0 hz0 hb1.size
   obtain⟨hc1,hf1⟩:=aJ hb1;clear hb1
   go_wp2_with fail
   go_ret
   exact⟨rfl,HB1.out⟩
  cases I
  ·obtain rfl:E=1:=by rw[hE];cases Z<;>rfl
   clear hE
   go_enter Tryz.func63,Tryz.ntmps63
   go_wp2_with fail
   refine(c0.out _).mono ?_;rintro e w' ⟨rfl,rfl⟩
   go_wp2_with fail
   refine(c2.out _).mono ?_;rintro e w1 ⟨rfl,hb1⟩
   have HB1:=Hp (H0.trans (hb1.mono H0.size))
   have hz1:w.heap.size<w1.heap.size:=GY0 hz0 hb1.size
   obtain⟨hc1,hf1⟩:=aJ hb1;clear hb1
   go_wp2_with fail
   refine(c3.out _).mono ?_;rintro e w' ⟨rfl,rfl⟩
   go_wp2_with fail
   go_ret
   exact⟨rfl,HB1.out⟩
  ·obtain rfl:E=0:=by rw[hE];cases Z<;>rfl
   clear hE
   go_enter Tryz.func63,Tryz.ntmps63
   go_wp2_with fail
   refine(c0.out _).mono ?_;rintro e w' ⟨rfl,rfl⟩
   go_wp2_with fail
   refine(c2.out _).mono ?_;rintro e w1 ⟨rfl,hb1⟩
   have HB1:=Hp (H0.trans (hb1.mono H0.size))
   have hz1:w.heap.size<w1.heap.size:=GY0 hz0 hb1.size
   obtain⟨hc1,hf1⟩:=aJ hb1;clear hb1
   go_wp2_with fail
   refine(c3.out _).mono ?_;rintro e w' ⟨rfl,rfl⟩
   go_wp2_with fail
   go_ret
   exact⟨rfl,HB1.out⟩
 ·have c0:=Hp (fun W=>bK 3 1 4 W (by decide) (by decide))
  clear t1 t2
  cases Z
  ·obtain rfl:E=1:=by rw[hE];cases B<;>cases I<;>rfl
   clear hE
   go_enter Tryz.func63,Tryz.ntmps63
   go_wp2_with fail
   refine(c0.out _).mono ?_;rintro e w' ⟨rfl,rfl⟩
   go_wp2_with fail
   go_ret
   exact⟨rfl,H0.out⟩
  ·obtain rfl:E=M:=by rw[hE];cases B<;>cases I<;>rfl
   clear hE
   go_enter Tryz.func63,Tryz.ntmps63
   go_wp2_with fail
   refine(c0.out _).mono ?_;rintro e w' ⟨rfl,rfl⟩
   go_wp2_with fail
   refine(c4.out _ H0.out).mono ?_;rintro e w1 ⟨rfl,hb1⟩
   have HB1:=Hp (H0.trans (hb1.mono H0.size))
   have hz1:w.heap.size<w1.heap.size:=GY0 hz0 hb1.size
   obtain⟨hc1,hf1⟩:=aJ hb1;clear hb1
   go_wp2_with fail
   go_ret
   exact⟨rfl,HB1.out⟩
 ·have c0:=Hp (fun W=>bK 4 1 4 W (by decide) (by decide))
  clear t1 t2
  cases B
  ·obtain rfl:E=1:=by rw[hE];cases Z<;>cases I<;>rfl
   clear hE
   go_enter Tryz.func63,Tryz.ntmps63
   go_wp2_with fail
   refine(c0.out _).mono ?_;rintro e w' ⟨rfl,rfl⟩
   go_wp2_with fail
   refine(c2.out _).mono ?_;rintro e w1 ⟨rfl,hb1⟩
   have HB1:=Hp (H0.trans (hb1.mono H0.size))
   have hz1:w.heap.size<w1.heap.size:=GY0 hz0 hb1.size
   obtain⟨hc1,hf1⟩:=aJ hb1;clear hb1
   go_wp2_with fail
   go_ret
   exact⟨rfl,HB1.out⟩
  cases Z
  ·obtain rfl:E=1:=by rw[hE];cases I<;>rfl
   clear hE
   go_enter Tryz.func63,Tryz.ntmps63
   go_wp2_with fail
   refine(c0.out _).mono ?_;rintro e w' ⟨rfl,rfl⟩
   go_wp2_with fail
   refine(c2.out _).mono ?_;rintro e w1 ⟨rfl,hb1⟩
   have HB1:=Hp (H0.trans (hb1.mono H0.size))
   have hz1:w.heap.size<w1.heap.size:=GY0 hz0 hb1.size
   obtain⟨hc1,hf1⟩:=aJ hb1;clear hb1
   go_wp2_with fail
   go_ret
   exact⟨rfl,HB1.out⟩
  ·obtain rfl:E=0:=by rw[hE];cases I<;>rfl
   clear hE
   go_enter Tryz.func63,Tryz.ntmps63
   go_wp2_with fail
   refine(c0.out _).mono ?_;rintro e w' ⟨rfl,rfl⟩
   go_wp2_with fail
   refine(c2.out _).mono ?_;rintro e w1 ⟨rfl,hb1⟩
   have HB1:=Hp (H0.trans (hb1.mono H0.size))
   have hz1:w.heap.size<w1.heap.size:=GY0 hz0 hb1.size
   obtain⟨hc1,hf1⟩:=aJ hb1;clear hb1
   go_wp2_with fail
   go_ret
   exact⟨rfl,HB1.out⟩
end Go.Proofs.YtjiedaialianmaaGreat
