import Derived.Test.YtjiedaialianmaaGreatA07
import Derived.Test.YtjiedaialianmaaGreatA09
set_option maxRecDepth 100000
set_option maxHeartbeats 4000000
namespace Go.Proofs.YtjiedaialianmaaGreat
section
open Go.RowKit
theorem zR (x:Plc)(w:World)(h:x.m.text.size<=256)(h0:0<=x.first)(h1:x.first<=16):
  Calls Tryz.prog 91 #[x.v] w fun e w'=>e=.returned (.int .i64 (aR x))/\Below w.heap.size w w':=by
 obtain⟨w0,hw0⟩:=Nm (w.alloc (.cells #[.string x.m.name,.int .i64 x.m.major,.int .i64 x.m.minor,.string x.m.text,.slice x.m.eA x.m.ex.length x.m.eC,.slice x.m.iA x.m.im.length x.m.iC,.slice x.m.pA x.m.pa.length x.m.pC,.int .i64 x.first] 83))
 obtain⟨e0,e1,e2,e3,e4,e5,e6,e7,hz,hb⟩:=zH hw0
 have hw0':=hw0.symm
 have hz0:w.heap.size<w0.heap.size:=by omega
 have H0:=Hp hb
 have hm:0<=aH x.m/\aH x.m<=4:=by unfold aH;omega
 have cM:=Hp (fun W=>qG x.m W (by unfold big;omega))
 obtain⟨M,hM⟩:=Nm (aH x.m)
 have q0:=Hp (show IntKind.i64.wrap (x.first+M)=x.first+M from IntWalk.i64_in _ (by omega))
 have HE:=Hp (show x.first+M=aR x by unfold aR;rw[hM])
 rw[<-hM]at cM
 clear hw0 hb hM hm h h0 h1
 have HCH:=Hp (show fI w0 (fun W'=>Below w0.heap.size w0 W'/\W'.cell? ⟨w.heap.size,0,none⟩=some (.string x.m.name)/\W'.cell? ⟨w.heap.size,1,none⟩=some (.int .i64 x.m.major)/\W'.cell? ⟨w.heap.size,2,none⟩=some (.int .i64 x.m.minor)/\W'.cell? ⟨w.heap.size,3,none⟩=some (.string x.m.text)/\W'.cell? ⟨w.heap.size,4,none⟩=some (.slice x.m.eA x.m.ex.length x.m.eC)/\W'.cell? ⟨w.heap.size,5,none⟩=some (.slice x.m.iA x.m.im.length x.m.iC)/\W'.cell? ⟨w.heap.size,6,none⟩=some (.slice x.m.pA x.m.pa.length x.m.pC)/\W'.cell? ⟨w.heap.size,7,none⟩=some (.int .i64 x.first)) from dE (by repeat' first|(with_reducible exact bC.cell (by first|omega|(simp;omega)|(simp only[aA];omega)))|refine bC.and ?_ ?_))
 have HC0:=Hp (HCH.now ⟨GZ4 _ _,by assumption,by assumption,by assumption,by assumption,by assumption,by assumption,by assumption,by assumption⟩)
 have HCD:=Hp HCH.D
 have HCS:=Hp HCH.S
 have HCA:=Hp HCH.A
 have HCX:=Hp HCH.X
 have HCL:=Hp HCH.L
 clear e0 e1 e2 e3 e4 e5 e6 e7
 go_enter Tryz.func91,Tryz.ntmps91
 go_wp2_with fail
 go_region_held3 (fun W'=>Below w0.heap.size w0 W'/\W'.cell? ⟨w.heap.size,0,none⟩=some (.string x.m.name)/\W'.cell? ⟨w.heap.size,1,none⟩=some (.int .i64 x.m.major)/\W'.cell? ⟨w.heap.size,2,none⟩=some (.int .i64 x.m.minor)/\W'.cell? ⟨w.heap.size,3,none⟩=some (.string x.m.text)/\W'.cell? ⟨w.heap.size,4,none⟩=some (.slice x.m.eA x.m.ex.length x.m.eC)/\W'.cell? ⟨w.heap.size,5,none⟩=some (.slice x.m.iA x.m.im.length x.m.iC)/\W'.cell? ⟨w.heap.size,6,none⟩=some (.slice x.m.pA x.m.pa.length x.m.pC)/\W'.cell? ⟨w.heap.size,7,none⟩=some (.int .i64 x.first)) (first|exact HC0.out|exact HCD.out _ HC0.out|exact HCS.out _ _ (by assumption) (by assumption)|exact HCS.out _ _ HC0.out (by assumption)|exact HCS.out _ _ (HCD.out _ HC0.out) (by assumption)|exact HCS.out _ _ (HCD.out _ (by assumption)) (by assumption)|exact HCD.out _ (by assumption)|exact HCA.out _ _ (by assumption)|exact HCA.out _ _ HC0.out|exact HCA.out _ _ (HCD.out _ HC0.out)|exact HCD.out _ (HCA.out _ _ (by assumption))|exact HCA.out _ _ (HCS.out _ _ HC0.out (by assumption))|exact HCA.out _ _ (HCS.out _ _ (HCD.out _ HC0.out) (by assumption))|exact HCX.out _ _ _ _ (GZ3 _) (by assumption)|exact HCX.out _ _ _ _ (GZ3 _) (HCS.out _ _ (HCA.out _ _ HC0.out) (by assumption))|exact HCX.out _ _ _ _ (GZ3 _) (HCS.out _ _ (HCD.out _ (HCA.out _ _ HC0.out)) (by assumption))|assumption) (first|(go_at_call 164;refine(cM.out _).mono ?_;rintro e w3 ⟨rfl,hb3⟩))
 have hB:=HCL.out _ (by assumption)
 clear HC0 HCD HCS HCA
 go_wp2_with fail
 go_ret
 exact⟨aC (by first|exact HE.out|exact q0.trans HE.out),H0.trans (hB.mono (by omega))⟩
theorem MV (x:Plc)(w:World)(h:aL x.m=0):
  Calls Tryz.prog 201 #[x.v] w fun e w'=>e=.returned (.bool (kE x))/\Below w.heap.size w w':=by
 obtain⟨w0,hw0⟩:=Nm (w.alloc (.cells #[.string x.m.name,.int .i64 x.m.major,.int .i64 x.m.minor,.string x.m.text,.slice x.m.eA x.m.ex.length x.m.eC,.slice x.m.iA x.m.im.length x.m.iC,.slice x.m.pA x.m.pa.length x.m.pC,.int .i64 x.first] 83))
 obtain⟨e0,e1,e2,e3,e4,e5,e6,e7,hz,hb⟩:=zH hw0
 have hw0':=hw0.symm
 have hz0:w.heap.size<w0.heap.size:=by omega
 have H0:=Hp hb
 have hm:=gK h
 have hx:=(aY h).2.2.1
 have cM:=Hp (fun W=>qG x.m W (by unfold big;omega))
 obtain⟨M,hM⟩:=Nm (aH x.m)
 rw[<-hM]at cM hm
 have q0:IntKind.i64.wrap (16 -M)=16 -M:=IntWalk.i64_in _ (by omega)
 have hq:kE x=(decide (0<=x.first)&&decide (x.first<=16 -M)):=by unfold kE;rw[hM]
 clear hw0 hb hM hm h hx
 have HCH:=Hp (show fI w0 (fun W'=>Below w0.heap.size w0 W'/\W'.cell? ⟨w.heap.size,0,none⟩=some (.string x.m.name)/\W'.cell? ⟨w.heap.size,1,none⟩=some (.int .i64 x.m.major)/\W'.cell? ⟨w.heap.size,2,none⟩=some (.int .i64 x.m.minor)/\W'.cell? ⟨w.heap.size,3,none⟩=some (.string x.m.text)/\W'.cell? ⟨w.heap.size,4,none⟩=some (.slice x.m.eA x.m.ex.length x.m.eC)/\W'.cell? ⟨w.heap.size,5,none⟩=some (.slice x.m.iA x.m.im.length x.m.iC)/\W'.cell? ⟨w.heap.size,6,none⟩=some (.slice x.m.pA x.m.pa.length x.m.pC)/\W'.cell? ⟨w.heap.size,7,none⟩=some (.int .i64 x.first)) from dE (by repeat' first|(with_reducible exact bC.cell (by first|omega|(simp;omega)|(simp only[aA];omega)))|refine bC.and ?_ ?_))
 have HC0:=Hp (HCH.now ⟨GZ4 _ _,by assumption,by assumption,by assumption,by assumption,by assumption,by assumption,by assumption,by assumption⟩)
 have HCD:=Hp HCH.D
 have HCS:=Hp HCH.S
 have HCA:=Hp HCH.A
 have HCX:=Hp HCH.X
 have HCL:=Hp HCH.L
 clear e0 e1 e2 e3 e4 e5 e6 e7
 by_cases t0:0<=x.first
 ·by_cases t1:x.first<=16 -M
  ·have HE:=Hp (show true=kE x by rw[hq];simp[t0,t1])
   clear hq
   go_enter Tryz.func201,Tryz.ntmps201
   go_wp2_with fail
   go_region_held3 (fun W'=>Below w0.heap.size w0 W'/\W'.cell? ⟨w.heap.size,0,none⟩=some (.string x.m.name)/\W'.cell? ⟨w.heap.size,1,none⟩=some (.int .i64 x.m.major)/\W'.cell? ⟨w.heap.size,2,none⟩=some (.int .i64 x.m.minor)/\W'.cell? ⟨w.heap.size,3,none⟩=some (.string x.m.text)/\W'.cell? ⟨w.heap.size,4,none⟩=some (.slice x.m.eA x.m.ex.length x.m.eC)/\W'.cell? ⟨w.heap.size,5,none⟩=some (.slice x.m.iA x.m.im.length x.m.iC)/\W'.cell? ⟨w.heap.size,6,none⟩=some (.slice x.m.pA x.m.pa.length x.m.pC)/\W'.cell? ⟨w.heap.size,7,none⟩=some (.int .i64 x.first)) (first|exact HC0.out|exact HCD.out _ HC0.out|exact HCS.out _ _ (by assumption) (by assumption)|exact HCS.out _ _ HC0.out (by assumption)|exact HCS.out _ _ (HCD.out _ HC0.out) (by assumption)|exact HCS.out _ _ (HCD.out _ (by assumption)) (by assumption)|exact HCD.out _ (by assumption)|exact HCA.out _ _ (by assumption)|exact HCA.out _ _ HC0.out|exact HCA.out _ _ (HCD.out _ HC0.out)|exact HCD.out _ (HCA.out _ _ (by assumption))|exact HCA.out _ _ (HCS.out _ _ HC0.out (by assumption))|exact HCA.out _ _ (HCS.out _ _ (HCD.out _ HC0.out) (by assumption))|exact HCX.out _ _ _ _ (GZ3 _) (by assumption)|exact HCX.out _ _ _ _ (GZ3 _) (HCS.out _ _ (HCA.out _ _ HC0.out) (by assumption))|exact HCX.out _ _ _ _ (GZ3 _) (HCS.out _ _ (HCD.out _ (HCA.out _ _ HC0.out)) (by assumption))|assumption) (first|(go_at_call 164;refine(cM.out _).mono ?_;rintro e w3 ⟨rfl,hb3⟩))
   have hB:=HCL.out _ (by assumption)
   clear HC0 HCD HCS HCA
   go_wp2_with fail
   go_ret
   exact⟨aV HE.out,H0.trans (hB.mono (by omega))⟩
  ·have HE:=Hp (show false=kE x by rw[hq];simp[t0,t1])
   have t1':decide (x.first<=16 -M)=false:=by simp;omega
   clear hq t1
   go_enter Tryz.func201,Tryz.ntmps201
   go_wp2_with fail
   go_region_held3 (fun W'=>Below w0.heap.size w0 W'/\W'.cell? ⟨w.heap.size,0,none⟩=some (.string x.m.name)/\W'.cell? ⟨w.heap.size,1,none⟩=some (.int .i64 x.m.major)/\W'.cell? ⟨w.heap.size,2,none⟩=some (.int .i64 x.m.minor)/\W'.cell? ⟨w.heap.size,3,none⟩=some (.string x.m.text)/\W'.cell? ⟨w.heap.size,4,none⟩=some (.slice x.m.eA x.m.ex.length x.m.eC)/\W'.cell? ⟨w.heap.size,5,none⟩=some (.slice x.m.iA x.m.im.length x.m.iC)/\W'.cell? ⟨w.heap.size,6,none⟩=some (.slice x.m.pA x.m.pa.length x.m.pC)/\W'.cell? ⟨w.heap.size,7,none⟩=some (.int .i64 x.first)) (first|exact HC0.out|exact HCD.out _ HC0.out|exact HCS.out _ _ (by assumption) (by assumption)|exact HCS.out _ _ HC0.out (by assumption)|exact HCS.out _ _ (HCD.out _ HC0.out) (by assumption)|exact HCS.out _ _ (HCD.out _ (by assumption)) (by assumption)|exact HCD.out _ (by assumption)|exact HCA.out _ _ (by assumption)|exact HCA.out _ _ HC0.out|exact HCA.out _ _ (HCD.out _ HC0.out)|exact HCD.out _ (HCA.out _ _ (by assumption))|exact HCA.out _ _ (HCS.out _ _ HC0.out (by assumption))|exact HCA.out _ _ (HCS.out _ _ (HCD.out _ HC0.out) (by assumption))|exact HCX.out _ _ _ _ (GZ3 _) (by assumption)|exact HCX.out _ _ _ _ (GZ3 _) (HCS.out _ _ (HCA.out _ _ HC0.out) (by assumption))|exact HCX.out _ _ _ _ (GZ3 _) (HCS.out _ _ (HCD.out _ (HCA.out _ _ HC0.out)) (by assumption))|assumption) (first|(go_at_call 164;refine(cM.out _).mono ?_;rintro e w3 ⟨rfl,hb3⟩))
   have hB:=HCL.out _ (by assumption)
   clear HC0 HCD HCS HCA
   go_wp2_with fail
   go_ret
   exact⟨aV HE.out,H0.trans (hB.mono (by omega))⟩
 ·have HE:=Hp (show false=kE x by rw[hq];simp[t0])
  have t0':decide (0<=x.first)=false:=by simp;omega
  clear hq t0
  go_enter Tryz.func201,Tryz.ntmps201
  go_wp2_with fail
  have f0:=HC0.out.2.1
  have f7:=HC0.out.2.2.2.2.2.2.2.2
  clear HC0 HCD HCS HCA HCL cM
  go_quiet (fail)
  go_wp2_with fail
  go_ret
  exact⟨aV HE.out,below_drewN H0.out _⟩
theorem Ji (A:Option Addr)(c:Nat)(l:List Plc)(w:World)(h:aU w A l):
  Calls Tryz.prog 137 #[.slice A l.length c] w fun e w'=>e=.returned (.int .i64 (RY l))/\Below w.heap.size w w':=by
 have hl:=h.len
 unfold big at hl
 have HP:=Hp h
 have c1:=Hp (Ht A c l 201 kE w (enters_of Tryz.func201 (by kernel_rfl) rfl) h (fun x _ hx W=>MV x W hx))
 obtain⟨E,hE⟩:=Nm (bY kE l)
 rw[<-hE]at c1
 have hR:RY l=if E≠0 then E else iI l:=by unfold RY;rw[hE]
 clear h
 by_cases t0:E=0
 ·obtain rfl:=t0
  rw[if_neg (by omega)]at hR
  obtain⟨h8,hall⟩:=TB hE.symm
  have HALL:=Hp (show∀x∈l,x.m.text.size<=256/\0<=x.first/\x.first<=16/\0<=aH x.m/\aH x.m<=4 from fun x hx=>by
   obtain⟨h1,h2⟩:=hall x hx
   have h3:=gK h1
   simp only[kE,Bool.and_eq_true,decide_eq_true_eq]at h2
   exact⟨(aY h1).2.2.1,by omega⟩)
  have HR:=Hp hR
  clear hE hR h8 hall
  go_enter Tryz.func137,Tryz.ntmps137
  go_wp2_with (first|(go_at_call 198;refine(c1.out).mono ?_;rintro e w2 ⟨rfl,hb2⟩))
  clear c1
  go_loopw [4] (fun i wr=>∃j:Nat,1<=j/\(j<=l.length\/j=1)/\i=.int .i64 j/\jV l j=iI l/\Below w.heap.size w wr) (fun i _=>l.length -(intOf i).toNat)
  case atStart=>exact⟨1,by omega,by omega,rfl,Uu,hb2⟩
  case round=>
   obtain⟨j,hj1,hj,rfl,hE,hb⟩:=hrel
   have HE:=Hp hE
   have HB:=Hp hb
   clear hE
   by_cases hlt:j<l.length
   ·have hlt':(j:Int)<l.length:=by omega
    obtain⟨ad,rfl,hab,h0,h1,h2,h3,h4,h5,h6,h7⟩:=RS HP.row hb j hlt
    obtain⟨k,hk⟩:∃k,j=k+1:=⟨j -1,by omega⟩
    have hkl:k<l.length:=by omega
    obtain⟨ad',e',hab',g0,g1,g2,g3,g4,g5,g6,g7⟩:=RS HP.row hb k hkl
    obtain rfl:=GY3 e'
    have hwz:=hb.size
    have q1:IntKind.i64.wrap ((j:Int) -1)=k:=by rw[IntWalk.i64_in _ (by omega)];omega
    have HK:=Hp (show∀(h:j<l.length),l[j -1]'(Nat.lt_of_le_of_lt (Nat.sub_le _ _) h)=l[k]'hkl from fun h=>by simp only[show j -1=k by omega])
    have q2:(k:Int)<l.length:=by omega
    have q3:(0:Int)<=k:=by omega
    obtain⟨f1,f2,f3,f4,f5⟩:=HALL.out (l[k]'hkl) (GZ9 _)
    obtain⟨y,hy⟩:=Nm (l[k]'hkl)
    rw[<-hy]at f1 f2 f3 f4 f5 g0 g1 g2 g3 g4 g5 g6 g7
    have HY:=Hp hy
    obtain⟨z,hz⟩:=Nm (l[j].first)
    rw[<-hz]at h7
    have HZ:=Hp hz
    clear hy hz
    have cE:=Hp (fun W=>zR y W f1 f2 f3)
    obtain⟨N,hN⟩:=Nm (aR y)
    rw[<-hN]at cE
    have HN:=Hp hN
    clear f1 f2 f3 f4 f5 hN e'
    have hbm:(ad.add (j*8)).block<wr.heap.size:=by rw[aA];omega
    have hbn:(ad.add (k*8)).block<wr.heap.size:=by rw[aA];omega
    have HCH:=Hp (show fI wr (fun W'=>Below wr.heap.size wr W'/\W'.cell? (ad.add (k*8))=some (.string y.m.name)/\W'.cell? ⟨(ad.add (k*8)).block,(ad.add (k*8)).off+1,none⟩=some (.int .i64 y.m.major)/\W'.cell? ⟨(ad.add (k*8)).block,(ad.add (k*8)).off+2,none⟩=some (.int .i64 y.m.minor)/\W'.cell? ⟨(ad.add (k*8)).block,(ad.add (k*8)).off+3,none⟩=some (.string y.m.text)/\W'.cell? ⟨(ad.add (k*8)).block,(ad.add (k*8)).off+4,none⟩=some (.slice y.m.eA y.m.ex.length y.m.eC)/\W'.cell? ⟨(ad.add (k*8)).block,(ad.add (k*8)).off+5,none⟩=some (.slice y.m.iA y.m.im.length y.m.iC)/\W'.cell? ⟨(ad.add (k*8)).block,(ad.add (k*8)).off+6,none⟩=some (.slice y.m.pA y.m.pa.length y.m.pC)/\W'.cell? ⟨(ad.add (k*8)).block,(ad.add (k*8)).off+7,none⟩=some (.int .i64 y.first)/\W'.cell? ⟨(ad.add (j*8)).block,(ad.add (j*8)).off+7,none⟩=some (.int .i64 z)) from dE (by repeat' first|(with_reducible exact bC.cell (by first|omega|(simp;omega)|(simp only[aA];omega)))|refine bC.and ?_ ?_))
    have HC0:=Hp (HCH.now ⟨GZ4 _ _,by assumption,by assumption,by assumption,by assumption,by assumption,by assumption,by assumption,by assumption,by assumption⟩)
    have HCD:=Hp HCH.D
    have HCS:=Hp HCH.S
    have HCA:=Hp HCH.A
    have HCX:=Hp HCH.X
    have HCL:=Hp HCH.L
    clear hk h0 h1 h2 h3 h4 h5 h6 h7 g0 g1 g2 g3 g4 g5 g6 g7 hb
    by_cases t1:z<N
    ·have e1:=Hp ((yS hlt hj1 (show l[j].first<aR l[j -1] by rw[show l[j -1]=l[k]'hkl from HK.out hlt,<-HZ.out,<-HY.out,<-HN.out];exact t1)).symm.trans HE.out)
     go_wp2_with fail
     go_region_held3 (fun W'=>Below wr.heap.size wr W'/\W'.cell? (ad.add (k*8))=some (.string y.m.name)/\W'.cell? ⟨(ad.add (k*8)).block,(ad.add (k*8)).off+1,none⟩=some (.int .i64 y.m.major)/\W'.cell? ⟨(ad.add (k*8)).block,(ad.add (k*8)).off+2,none⟩=some (.int .i64 y.m.minor)/\W'.cell? ⟨(ad.add (k*8)).block,(ad.add (k*8)).off+3,none⟩=some (.string y.m.text)/\W'.cell? ⟨(ad.add (k*8)).block,(ad.add (k*8)).off+4,none⟩=some (.slice y.m.eA y.m.ex.length y.m.eC)/\W'.cell? ⟨(ad.add (k*8)).block,(ad.add (k*8)).off+5,none⟩=some (.slice y.m.iA y.m.im.length y.m.iC)/\W'.cell? ⟨(ad.add (k*8)).block,(ad.add (k*8)).off+6,none⟩=some (.slice y.m.pA y.m.pa.length y.m.pC)/\W'.cell? ⟨(ad.add (k*8)).block,(ad.add (k*8)).off+7,none⟩=some (.int .i64 y.first)/\W'.cell? ⟨(ad.add (j*8)).block,(ad.add (j*8)).off+7,none⟩=some (.int .i64 z)) (first|exact HC0.out|exact HCD.out _ HC0.out|exact HCS.out _ _ (by assumption) (by assumption)|exact HCS.out _ _ HC0.out (by assumption)|exact HCS.out _ _ (HCD.out _ HC0.out) (by assumption)|exact HCS.out _ _ (HCD.out _ (by assumption)) (by assumption)|exact HCD.out _ (by assumption)|exact HCA.out _ _ (by assumption)|exact HCA.out _ _ HC0.out|exact HCA.out _ _ (HCD.out _ HC0.out)|exact HCD.out _ (HCA.out _ _ (by assumption))|exact HCA.out _ _ (HCS.out _ _ HC0.out (by assumption))|exact HCA.out _ _ (HCS.out _ _ (HCD.out _ HC0.out) (by assumption))|exact HCX.out _ _ _ _ (GZ3 _) (by assumption)|exact HCX.out _ _ _ _ (GZ3 _) (HCS.out _ _ (HCA.out _ _ HC0.out) (by assumption))|exact HCX.out _ _ _ _ (GZ3 _) (HCS.out _ _ (HCD.out _ (HCA.out _ _ HC0.out)) (by assumption))|assumption) (first|(go_at_call 91;refine(cE.out _).mono ?_;rintro e w3 ⟨rfl,hb3⟩))
     have hB:=HCL.out _ (by assumption)
     clear HC0 HCD HCS HCA
     go_wp2_with fail
     go_ret
     exact⟨aC (e1.trans HR.symm),HB.trans (hB.mono (by omega))⟩
    ·have e1:=Hp ((vS hlt hj1 (show¬l[j].first<aR l[j -1] by rw[show l[j -1]=l[k]'hkl from HK.out hlt,<-HZ.out,<-HY.out,<-HN.out];exact t1)).trans HE.out)
     have t1':decide (z<N)=false:=by simp;omega
     clear t1
     go_wp2_with fail
     go_region_held3 (fun W'=>Below wr.heap.size wr W'/\W'.cell? (ad.add (k*8))=some (.string y.m.name)/\W'.cell? ⟨(ad.add (k*8)).block,(ad.add (k*8)).off+1,none⟩=some (.int .i64 y.m.major)/\W'.cell? ⟨(ad.add (k*8)).block,(ad.add (k*8)).off+2,none⟩=some (.int .i64 y.m.minor)/\W'.cell? ⟨(ad.add (k*8)).block,(ad.add (k*8)).off+3,none⟩=some (.string y.m.text)/\W'.cell? ⟨(ad.add (k*8)).block,(ad.add (k*8)).off+4,none⟩=some (.slice y.m.eA y.m.ex.length y.m.eC)/\W'.cell? ⟨(ad.add (k*8)).block,(ad.add (k*8)).off+5,none⟩=some (.slice y.m.iA y.m.im.length y.m.iC)/\W'.cell? ⟨(ad.add (k*8)).block,(ad.add (k*8)).off+6,none⟩=some (.slice y.m.pA y.m.pa.length y.m.pC)/\W'.cell? ⟨(ad.add (k*8)).block,(ad.add (k*8)).off+7,none⟩=some (.int .i64 y.first)/\W'.cell? ⟨(ad.add (j*8)).block,(ad.add (j*8)).off+7,none⟩=some (.int .i64 z)) (first|exact HC0.out|exact HCD.out _ HC0.out|exact HCS.out _ _ (by assumption) (by assumption)|exact HCS.out _ _ HC0.out (by assumption)|exact HCS.out _ _ (HCD.out _ HC0.out) (by assumption)|exact HCS.out _ _ (HCD.out _ (by assumption)) (by assumption)|exact HCD.out _ (by assumption)|exact HCA.out _ _ (by assumption)|exact HCA.out _ _ HC0.out|exact HCA.out _ _ (HCD.out _ HC0.out)|exact HCD.out _ (HCA.out _ _ (by assumption))|exact HCA.out _ _ (HCS.out _ _ HC0.out (by assumption))|exact HCA.out _ _ (HCS.out _ _ (HCD.out _ HC0.out) (by assumption))|exact HCX.out _ _ _ _ (GZ3 _) (by assumption)|exact HCX.out _ _ _ _ (GZ3 _) (HCS.out _ _ (HCA.out _ _ HC0.out) (by assumption))|exact HCX.out _ _ _ _ (GZ3 _) (HCS.out _ _ (HCD.out _ (HCA.out _ _ HC0.out)) (by assumption))|assumption) (first|(go_at_call 91;refine(cE.out _).mono ?_;rintro e w3 ⟨rfl,hb3⟩))
     have hB:=HCL.out _ (by assumption)
     clear HC0 HCD HCS HCA
     go_wp2_with fail
     go_roundw
     case rel=>exact⟨j+1,by omega,by omega,by go_num,e1.out,HB.trans (hB.mono (by omega))⟩
     case measure=>(simp[intOf];try omega)
   ·have e1:=Hp ((yR hlt).symm.trans HE.out)
    go_wp2_with fail
    go_ret
    exact⟨aC (e1.trans HR.symm),HB.out⟩
 ·rw[if_pos t0]at hR
  have HR:=Hp hR
  have t0':(E != 0)=true:=by simp[t0]
  clear hE hR t0
  go_enter Tryz.func137,Tryz.ntmps137
  go_wp2_with (first|(go_at_call 198;refine(c1.out).mono ?_;rintro e w2 ⟨rfl,hb2⟩))
  go_ret
  exact⟨aC HR.symm,hb2⟩
end
section
open Go.RowKit
theorem Tryz.PZ :(Tryz.prog.info? 3).map (fun i=>(i.zero,i.size,i.bytes))=some (some (.int .i64 0),1,8):=by kernel_rfl
def Ints (w:World)(base:Nat)(v:Value)(ns:List Int):Prop:=w.ownsRow base 3 1 v ns.length (ns.map iv)
theorem own_below {w w':World}{base size n B:Nat}{e:TypeId}{v:Value}{xs:List Value}(h:w.ownsRow base e size v n xs)(hb:Below B w w')(hB:w.heap.size<=B):w'.ownsRow base e size v n xs:=by
 refine⟨h.1,?_⟩
 rcases h.2 with h0|⟨g,cap,cur,e1,e2,e3,e4⟩
 ·exact .inl h0
 ·refine .inr ⟨g,cap,cur,e1,e2,?_,e4⟩
  have:g<w.heap.size:=by
   rcases Nat.lt_or_ge g w.heap.size with hlt|hge
   ·exact hlt
   ·rw[Array.getElem?_eq_none hge]at e3;cases e3
  rw[hb.block g (by omega)];exact e3
abbrev AB (w:World)(A:Option Addr)(ns:List Int):Prop:=Row (fun n=>[iv n]) 1 w A ns
theorem qJ (ns:List Int):ns.map iv=ns.flatMap (fun n=>[iv n]):=by induction ns with
 |nil=>rfl
 |cons x l ih=>simp[List.flatMap_cons,<-ih]
theorem Ints.row {w:World}{base:Nat}{v:Value}{ns:List Int}(h:Ints w base v ns):∃(A:Option Addr)(c:Nat),v=.slice A ns.length c/\AB w A ns:=by
 obtain⟨A,c,rfl⟩:=bG h
 refine⟨A,c,rfl,?_⟩
 have:=Reads.of_own h
 rwa [qJ]at this
theorem Ints.nil (w:World)(base:Nat):Ints w base (.slice none 0 0) []:=World.ownsRow_nil _ _ _ _
theorem BQ (W:World){ops:Array Oper}{rest:List Oper}{o:Oper}{a:Act}{Q:Exit->Act->World->Prop}(hgd:o.guard=none)(s x:Operand)
  (ho:o.op=.call {callee:=.builtin .append,args:=#[s,x],argTypes:=#[89,89]}) (base:Nat) (v:Value) (ns:List Int) (n:Int) (hs:a.eval s=v)
  (hx:a.eval x=.slice (some ⟨W.heap.size,0,none⟩) 1 1) (hown:Ints W base v ns) (hl:ns.length<=1000000) (hbase:base<=W.heap.size)
  (h:∀v' w',Ints w' base v' (ns++[n])->Below base W w'->wpList Tryz.prog ops Q rest (a.put o.dst v') w'):wpList Tryz.prog ops Q (o::rest) a (W.alloc (.cells #[.int .i64 n] 3)):=by
 obtain⟨i0,hi,hz0,hz1,hz2⟩:=info_parts Tryz.PZ
 refine wpList_append_own_at (W.alloc (.cells #[.int .i64 n] 3)) hgd s x 89 ho base 3 i0 (.int .i64 0) 1 8 Tryz.underlying89 hi hz0 hz1 hz2 rfl (by decide) v ns.length (ns.map iv) hs (hown.alloc _) ⟨W.heap.size,0,none⟩ 1 1 [.int .i64 n] hx rfl
  (cell_one_new _ _ _) (by simp[Value.oneCell']) (by simp only[maxLen];omega) (by omega) (by simp;omega) ?_
 intro v' w1 hown' hgrow _ _
 refine h v' w1 ?_ (((GZ4 base W).alloc hbase _).grown hgrow (by simp;omega) (iW hown))
 unfold Ints
 simpa using hown'
theorem CZ (k:Krn)(A:Option Addr)(c:Nat)(l:List Plc)(nm tx:ByteArray)(mj mn:Int)(ex:List Exp)(im:List Imp)(pa:List Pat)(eA iA pA:Option Addr)(eC iC pC:Nat)(w:World)(hk:k.ok w)(h:aU w A l)(him:TC w iA im)(hi6:im.length<=6)(hp:iB k l=0):
  Calls Tryz.prog 135 #[k.v,.slice A l.length c,.agg #[.string nm,.int .i64 mj,.int .i64 mn,.string tx,.slice eA ex.length eC,.slice iA im.length iC,.slice pA pa.length pC]] w fun e w'=>
   (∃(A':Option Addr)(c':Nat),e=.returned (.tuple #[.slice A' (aN k l im).1.length c',.int .i64 (aN k l im).2])/\AB w' A' (aN k l im).1)/\Below w.heap.size w w':=by
 obtain⟨wk,hwk⟩:=Nm (w.alloc (.cells #[.int .i64 k.major,.int .i64 k.minor,.slice k.eA k.ex.length k.eC] 24))
 obtain⟨g0,g1,g2,hzk,hbk⟩:=uE hwk
 obtain⟨w0,hw0⟩:=Nm (wk.alloc (.cells #[.string nm,.int .i64 mj,.int .i64 mn,.string tx,.slice eA ex.length eC,.slice iA im.length iC,.slice pA pa.length pC] 70))
 obtain⟨_,_,_,_,_,f5,_,hz0,hb0⟩:=wE hw0
 rw[hzk]at f5 hz0 hb0
 have k0:=(hb0.cell (p:=⟨w.heap.size,0,none⟩) (by simp)).trans g0
 have k1:=(hb0.cell (p:=⟨w.heap.size,1,none⟩) (by simp)).trans g1
 have k2:=(hb0.cell (p:=⟨w.heap.size,2,none⟩) (by simp)).trans g2
 have H0:=Hp (show Below w.heap.size w w0 from hbk.trans (hb0.mono (by omega)))
 have HZ:=Hp hz0
 have hwk':=hwk.symm
 have hw0':=hw0.symm
 have HIM:=Hp him
 obtain⟨R,hR⟩:=Nm (aN k l im)
 rw[<-hR]
 have HR:=Hp hR
 clear hwk hw0 hbk hb0 g0 g1 g2 him hR hz0
 have cA:=Hp (fun W(hb:Below w.heap.size w W)i=>FQ k A c l i W (hk.below hb) (h.below hb) hp)
 clear hk h hp
 go_enter Tryz.func135,Tryz.ntmps135
 go_wp2_with fail
 go_loopw [8,16] (fun v i wr=>∃(j:Nat)(pre:List Int),j<=im.length/\i=.int .i64 j/\pre.length=j/\Ints wr w0.heap.size v pre/\glue pre (aN k l (im.drop j))=R/\Below w0.heap.size w0 wr) (fun _ i _=>im.length -(intOf i).toNat)
 case atStart=>exact⟨0,[],by omega,rfl,rfl,Ints.nil _ _,by rw[HR.out];exact Gb,GZ4 _ _⟩
 case round=>
  obtain⟨j,pre,hj,rfl,hpl,hin,hG,hb⟩:=hrel
  have HG:=Hp hG
  have HB:=Hp hb
  have HI:=Hp hin
  have HPL:=Hp hpl
  clear hG hin
  obtain⟨vA,vc,hv,hrow⟩:=HI.row
  have HV:=Hp hv
  clear hv
  have hwz:=hb.size
  have hz0:=HZ.out
  have hz1:w.heap.size+1<wr.heap.size:=by omega
  have hz2:w.heap.size<wr.heap.size:=by omega
  have r0:=(hb.cell (p:=⟨w.heap.size,0,none⟩) (by simp;omega)).trans k0
  have r1:=(hb.cell (p:=⟨w.heap.size,1,none⟩) (by simp;omega)).trans k1
  have r2:=(hb.cell (p:=⟨w.heap.size,2,none⟩) (by simp;omega)).trans k2
  have r5:=(hb.cell (p:=⟨w.heap.size+1,5,none⟩) (by simp;omega)).trans f5
  have HX:=Hp (show Below w.heap.size w wr from H0.trans (hb.mono H0.size))
  clear hz0
  by_cases hlt:j<im.length
  ·have hlt':(j:Int)<im.length:=by omega
   obtain⟨ad,rfl,hab,h0,h1,h2,h3⟩:=TA HIM.out.1 HX.out j hlt
   have cJ:=Hp (fun W hb=>cA.out W hb im[j])
   obtain⟨V,hV⟩:=Nm (addrOf k l im[j])
   have e1:=Hp (fun he=>(Fw (k:=k) (l:=l) (pre:=pre) hlt he).symm.trans HG.out)
   have e2:=Hp (fun he=>(Jw (k:=k) (l:=l) (pre:=pre) hlt he).trans HG.out)
   rw[<-hV]at e1 e2
   simp only[<-hV]at cJ
   clear hV hb
   obtain⟨v1,v2⟩:=V
   simp only at e1 e2 cJ
   have HXA:=Hp (HX.alloc (by omega) (.cells #[.string im[j].mod,.string im[j].name,iv im[j].major,iv im[j].minor] 173))
   by_cases u:v2=0
   ·obtain rfl:=u
    have e3:=Hp (e2.out rfl)
    go_wp2_with (first|(go_at_call 186;refine(cJ.out _ HXA.out).mono ?_;rintro e w2 ⟨rfl,hb2⟩;have hz3:=hb2.size)|(at_builtin;refine BQ _ rfl _ _ rfl w0.heap.size _ pre v1 rfl rfl (own_below (HI.alloc _) hb2 (GZ3 _)) (by rw[HPL.out];omega) (by simp at hz3;omega) ?_;intro v' w4 hin4 hb4))
    go_roundw
    case rel=>exact⟨j+1,pre++[v1],by omega,by go_num,by simp[HPL.out],hin4,e3.out,(((HB.alloc (by omega) _).trans (hb2.mono (by simp;omega))).trans hb4)⟩
    case measure=>(simp[intOf];try omega)
   ·have u':(v2 != 0)=true:=by simp[u]
    have e3:=Hp (e1.out u)
    clear u
    go_wp2_with (go_at_call 186;refine(cJ.out _ HXA.out).mono ?_;rintro e w2 ⟨rfl,hb2⟩;have hz3:=hb2.size)
    go_ret2
    exact⟨⟨none,0,by rw[<-e3.out];rfl,by rw[<-e3.out];exact Row.nil⟩,HXA.trans (hb2.mono (by simp;omega))⟩
  ·have e1:=Hp ((Hf (k:=k) (l:=l) (pre:=pre) hlt).symm.trans HG.out)
   go_wp2_with fail
   go_ret2
   exact⟨⟨vA,vc,by rw[<-e1.out];rw[HV.out];rfl,by rw[<-e1.out];exact hrow⟩,HX.out⟩
end
section
open Go.RowKit Go.Sort
open Gs (Tx)
theorem rY {α:Type}(q:α->Bool)(l:List α):decide (0<=idxOf q l)=l.any q:=by
 rcases Sb q l with⟨e,h⟩|⟨j,hj,e,h,_⟩
 ·rw[e]
  refine(GY7 (by omega)).trans (Eq.symm ?_)
  rw[List.any_eq_false]
  exact fun x hx=>by simp[h x hx]
 ·rw[e]
  exact(decide_eq_true (by omega)).trans (List.any_eq_true.2 ⟨_,GZ9 hj,h⟩).symm
theorem JE (A:Option Addr)(c:Nat)(l:List Imp)(g:Nat)(lb:Array Value)(q:Imp->Bool)(w:World)(eg:∀args w,(callFunc g args).run Tryz.prog w=.ok (.enter g args) w)(h:Row Imp.cells 4 w A l)(hl:l.length<=big)
  (hq:∀x∈l,∀W,Below w.heap.size w W->Calls Tryz.prog g (#[x.v]++lb) W fun e w'=>e=.returned (.bool (q x))/\Below W.heap.size W w'):
  Calls Tryz.prog 253 #[.slice A l.length c,.func (.func g) #[] lb] w fun e w'=>e=.returned (.int .i64 (idxOf q l))/\Below w.heap.size w w':=by
 unfold big at hl
 have HP:=Hp h
 have HQ:=Hp hq
 clear h hq
 go_enter Tryz.func253,Tryz.ntmps253
 go_wp2_with fail
 go_loopw [8] (fun i wr=>∃j:Nat,j<=l.length/\i=.int .i64 j/\(∀k(hk:k<l.length),k<j->q l[k]=false)/\Below w.heap.size w wr) (fun i _=>l.length -(intOf i).toNat)
 case atStart=>exact⟨0,by omega,rfl,by omega,GZ4 _ _⟩
 case round=>
  obtain⟨j,hj,rfl,hN,hb⟩:=hrel
  have HN:=Hp hN
  have HB:=Hp hb
  clear hN
  by_cases hlt:j<l.length
  ·have hlt':(j:Int)<l.length:=by omega
   obtain⟨ad,rfl,hab,h0,h1,h2,h3⟩:=TA HP.out hb j hlt
   have hwz:=hb.size
   have c2:=Hp (show Calls Tryz.prog g (#[(l[j]'hlt).v]++lb) wr fun e w'=>e=.returned (.bool (q (l[j]'hlt)))/\Below wr.heap.size wr w' from HQ.out (l[j]'hlt) (GZ9 _) wr HB.out)
   obtain⟨bq,hbq⟩:=Nm (q (l[j]'hlt))
   rw[<-hbq]at c2
   have HBQ:=Hp hbq
   clear hbq hb
   cases bq
   ·go_wp2_with (go_at_fn g;refine(c2.out).mono ?_;rintro e w3 ⟨rfl,hb3⟩)
    go_roundw
    case rel=>exact⟨j+1,by omega,by go_num,fun k hk hkj=>by rcases Nat.lt_succ_iff_lt_or_eq.1 hkj with h|rfl;exact HN.out k hk h;exact HBQ.symm,HB.trans (hb3.mono (by omega))⟩
    case measure=>(simp[intOf];try omega)
   ·have e1:=Hp (fJ hlt HN.out HBQ.symm)
    go_wp2_with (go_at_fn g;refine(c2.out).mono ?_;rintro e w3 ⟨rfl,hb3⟩)
    go_ret
    exact⟨aC e1.symm,HB.trans (hb3.mono (by omega))⟩
  ·have e1:=Hp (gT (q:=q) (l:=l) (fun k hk=>HN.out k hk (by omega)))
   go_wp2_with fail
   go_ret
   exact⟨aC e1.symm,HB.out⟩
theorem Hz (A:Option Addr)(c:Nat)(l:List Imp)(g:Nat)(lb:Array Value)(q:Imp->Bool)(w:World)(eg:∀args w,(callFunc g args).run Tryz.prog w=.ok (.enter g args) w)(h:Row Imp.cells 4 w A l)(hl:l.length<=big)
  (hq:∀x∈l,∀W,Below w.heap.size w W->Calls Tryz.prog g (#[x.v]++lb) W fun e w'=>e=.returned (.bool (q x))/\Below W.heap.size W w'):
  Calls Tryz.prog 220 #[.slice A l.length c,.func (.func g) #[] lb] w fun e w'=>e=.returned (.bool (l.any q))/\Below w.heap.size w w':=by
 have c1:=Hp (JE A c l g lb q w eg h hl hq)
 have e1:=Hp (rY q l)
 generalize l.any q=b at*
 generalize idxOf q l=i at*
 clear h hq
 go_enter Tryz.func220,Tryz.ntmps220
 go_wp2_with (go_at_call 253;refine(c1.out).mono ?_;rintro e w3 ⟨rfl,hb3⟩)
 go_ret
 exact⟨aV e1.out,hb3⟩
theorem DZ (A:Option Addr)(c:Nat)(l:List Tx)(g:Nat)(lb:Array Value)(q:Tx->Bool)(w:World)(eg:∀args w,(callFunc g args).run Tryz.prog w=.ok (.enter g args) w)(h:Hl w A l)(hl:l.length<=big)
  (hq:∀x∈l,∀W,Below w.heap.size w W->Calls Tryz.prog g (#[.string (bs x)]++lb) W fun e w'=>e=.returned (.bool (q x))/\Below W.heap.size W w'):
  Calls Tryz.prog 157 #[.slice A l.length c,.func (.func g) #[] lb] w fun e w'=>e=.returned (.int .i64 (idxOf q l))/\Below w.heap.size w w':=by
 unfold big at hl
 have HP:=Hp h
 have HQ:=Hp hq
 clear h hq
 go_enter Tryz.func157,Tryz.ntmps157
 go_wp2_with fail
 go_loopw [8] (fun i wr=>∃j:Nat,j<=l.length/\i=.int .i64 j/\(∀k(hk:k<l.length),k<j->q l[k]=false)/\Below w.heap.size w wr) (fun i _=>l.length -(intOf i).toNat)
 case atStart=>exact⟨0,by omega,rfl,by omega,GZ4 _ _⟩
 case round=>
  obtain⟨j,hj,rfl,hN,hb⟩:=hrel
  have HN:=Hp hN
  have HB:=Hp hb
  clear hN
  by_cases hlt:j<l.length
  ·have hlt':(j:Int)<l.length:=by omega
   obtain⟨ad,rfl,hab,h0⟩:=MU HP.out hb j hlt
   have hwz:=hb.size
   have c2:=Hp (show Calls Tryz.prog g (#[.string (bs (l[j]'hlt))]++lb) wr fun e w'=>e=.returned (.bool (q (l[j]'hlt)))/\Below wr.heap.size wr w' from HQ.out (l[j]'hlt) (GZ9 _) wr HB.out)
   obtain⟨bq,hbq⟩:=Nm (q (l[j]'hlt))
   rw[<-hbq]at c2
   have HBQ:=Hp hbq
   clear hbq hb
   cases bq
   ·go_wp2_with (go_at_fn g;refine(c2.out).mono ?_;rintro e w3 ⟨rfl,hb3⟩)
    go_roundw
    case rel=>exact⟨j+1,by omega,by go_num,fun k hk hkj=>by rcases Nat.lt_succ_iff_lt_or_eq.1 hkj with h|rfl;exact HN.out k hk h;exact HBQ.symm,HB.trans (hb3.mono (by omega))⟩
    case measure=>(simp[intOf];try omega)
   ·have e1:=Hp (fJ hlt HN.out HBQ.symm)
    go_wp2_with (go_at_fn g;refine(c2.out).mono ?_;rintro e w3 ⟨rfl,hb3⟩)
    go_ret
    exact⟨aC e1.symm,HB.trans (hb3.mono (by omega))⟩
  ·have e1:=Hp (gT (q:=q) (l:=l) (fun k hk=>HN.out k hk (by omega)))
   go_wp2_with fail
   go_ret
   exact⟨aC e1.symm,HB.out⟩
theorem Jb (A:Option Addr)(c:Nat)(l:List Tx)(g:Nat)(lb:Array Value)(q:Tx->Bool)(w:World)(eg:∀args w,(callFunc g args).run Tryz.prog w=.ok (.enter g args) w)(h:Hl w A l)(hl:l.length<=big)
  (hq:∀x∈l,∀W,Below w.heap.size w W->Calls Tryz.prog g (#[.string (bs x)]++lb) W fun e w'=>e=.returned (.bool (q x))/\Below W.heap.size W w'):
  Calls Tryz.prog 159 #[.slice A l.length c,.func (.func g) #[] lb] w fun e w'=>e=.returned (.bool (l.any q))/\Below w.heap.size w w':=by
 have c1:=Hp (DZ A c l g lb q w eg h hl hq)
 have e1:=Hp (rY q l)
 generalize l.any q=b at*
 generalize idxOf q l=i at*
 clear h hq
 go_enter Tryz.func159,Tryz.ntmps159
 go_wp2_with (go_at_call 157;refine(c1.out).mono ?_;rintro e w3 ⟨rfl,hb3⟩)
 go_ret
 exact⟨aV e1.out,hb3⟩
def pW (b:ByteArray)(x:Imp):Bool:=decide (x.mod=b)
theorem Fs (m:Mod)(b:ByteArray):asks m (tx b)=m.im.any (pW b):=by
 unfold asks
 congr 1
 funext i
 unfold pW
 by_cases h:i.mod=b
 ·simp[h]
 ·have:tx i.mod≠tx b:=fun e=>h (FC e)
  simp[h,this]
theorem LP (x:Imp)(b:ByteArray)(B:Nat)(w:World)(hB:B<w.heap.size)(h:w.cell? ⟨B,0,none⟩=some (.string b)):
  Calls Tryz.prog 221 (#[x.v]++ #[.pointer (some ⟨B,0,none⟩)]) w fun e w'=>e=.returned (.bool (pW b x))/\Below w.heap.size w w':=by
 have hd:pW b x=(x.mod.toList==b.toList):=by
  unfold pW
  by_cases e:x.mod=b
  ·rw[str_eq e];simp[e]
  ·rw[mY e];simp[e]
 rw[hd]
 go_enter Tryz.func221,Tryz.ntmps221
 go_wp2_with fail
 go_ret
 exact⟨rfl,ZB⟩
theorem Ow {l:List Plc}{a:ByteArray}{b:Tx}{j:Nat}(hj:j<l.length)(h:l.find? (named a)=some l[j]):nU l (tx a) b=asks l[j].m b:=by
 unfold nU;rw[Iq,h]
theorem Kk {l:List Plc}{a:ByteArray}(h:tx a∈txs l):∃j,∃hj:j<l.length,idxOf (named a) l=j/\l.find? (named a)=some l[j]:=by
 rcases gW (named a) l with⟨_,h2⟩|h
 ·obtain⟨x,hx,e⟩:=List.mem_map.1 h
  have:=List.find?_eq_none.1 h2 x hx
  exact absurd (decide_eq_true (FC e)) this
 ·exact h
theorem BU (A:Option Addr)(c:Nat)(l:List Plc)(a b:ByteArray)(w:World)(h:aU w A l)(ha:tx a∈txs l):
  Calls Tryz.prog 161 #[.slice A l.length c,.string a,.string b] w fun e w'=>e=.returned (.bool (nU l (tx a) (tx b)))/\Below w.heap.size w w':=by
 obtain⟨j,hj,e1,e2⟩:=Kk ha
 rw[Ow hj e2,Fs]
 obtain⟨w0,hw0⟩:=Nm (w.alloc (.cells #[.string b] 9))
 obtain⟨hc0,hz0,hb0⟩:=Ui hw0
 have hm:=h.each l[j] (GZ9 _)
 have c1:=Hp (SY A c l a w0 (h.row.below hb0) h.len)
 have c2:=Hp (fun W(hb:Below w0.heap.size w0 W)=>Hz (l[j]'hj).m.iA (l[j]'hj).m.iC (l[j]'hj).m.im 221 #[.pointer (some ⟨w.heap.size,0,none⟩)] (pW b) W (enters_of Tryz.func221 (by kernel_rfl) rfl) ((hm.below hb0).im.1.below hb) hm.im.2.1
  (fun x _ W' hb'=>LP x b w.heap.size W' (by have:=hb.size;have:=hb'.size;omega) ((hb'.cell (by have:=hb.size;simp;omega)).trans ((hb.cell (by simp;omega)).trans hc0))))
 rw[e1]at c1
 have HK:=Hp (fun W(hbW:Below w.heap.size w W)=>RS h.row hbW j hj)
 obtain⟨ad,rfl,_⟩:=RS h.row (GZ4 _ _) j hj
 have H0:=Hp hb0
 have hw0':=hw0.symm
 have hj':(j:Int)<l.length:=by omega
 have hlen:=h.len
 unfold big at hlen
 generalize(l[j].m.im.any (pW b))=R at*
 clear hw0 hb0 h hm e1 e2 ha
 go_enter Tryz.func161,Tryz.ntmps161
 go_wp2_with (first
  |(go_at_call 124;refine(c1.out).mono ?_;rintro e w1 ⟨rfl,hb1⟩;obtain⟨_,ead,_,k0,k1,k2,k3,k4,k5,k6,k7⟩:=HK.out _ (H0.trans (hb1.mono (by omega)));obtain rfl:=GY3 ead)
  |(go_at_call 220;refine(c2.out _ hb1).mono ?_;rintro e w3 ⟨rfl,hb3⟩))
 go_ret
 exact⟨rfl,H0.trans ((hb1.trans (hb3.mono hb1.size)).mono (by omega))⟩
end
section
open Go.RowKit
theorem Ry {α:Type}{enc:α->List Value}{k:Nat}(hk:∀x,(enc x).length=k){w:World}{b:Nat}{cs:Array Value}{t:TypeId}{l:List α}(h:w.heap[b]? =some (.cells cs t (0,0)))(hc:cs.toList=l.flatMap enc):Row enc k w (some ⟨b,0,none⟩) l:=by
 have hlt:b<w.heap.size:=by
  rcases Nat.lt_or_ge b w.heap.size with hlt|hge
  ·exact hlt
  ·rw[Array.getElem?_eq_none hge]at h;cases h
 refine⟨by rw[flat_length hk],fun _=>⟨_,rfl,hlt,fun j u hu=>?_⟩⟩
 have e:(⟨b,0,none⟩:Addr).add j=⟨b,j,none⟩:=by unfold Addr.add;split<;>simp_all
 rw[e,cell_of_row _ _ _ _ _ _ h,<-hu,<-hc]
 simp
def RU (A:Option Addr)(c:Nat):Krn:=⟨0,0,[⟨⟨#[107]⟩,2⟩],A,c⟩
def lW (eA iA pA:Option Addr)(eC iC pC:Nat):Mod:=⟨⟨#[108,105,98]⟩,1,2,⟨#[97,98,99,100,101,102,103,104]⟩,[⟨⟨#[102]⟩,4⟩],[],[],eA,eC,iA,iC,pA,pC⟩
def TH (eA iA pA:Option Addr)(eC iC pC:Nat):Mod:=⟨⟨#[97,112,112]⟩,0,0,⟨#[46,46,46,46,46,46,46,46]⟩,[],[⟨⟨#[108,105,98]⟩,⟨#[102]⟩,1,1⟩,⟨RG,⟨#[107]⟩,0,0⟩],[⟨1,0,0,1⟩,⟨5,4,1,0⟩],eA,eC,iA,iC,pA,pC⟩
theorem Tryz.IZ :(Tryz.prog.info? 24).map (·.size)=some 3:=by kernel_rfl
theorem Tryz.AX :(Tryz.prog.info? 70).map (·.size)=some 7:=by kernel_rfl
theorem Sn (w:World):Calls Tryz.prog 69 #[] w fun e w'=>(∃A c,e=.returned (RU A c).v/\(RU A c).ok w')/\Below w.heap.size w w':=by
 go_enter Tryz.func69,Tryz.ntmps69
 go_wp2_with fail
 try simp only[Exit.inBlock,Exit.then]
 have h0:=heap_alloc2_old w (.cells #[.int .i64 0,.int .i64 0,.slice (some ⟨w.heap.size+1,0,none⟩) 1 1] 24) (.cells #[.string ⟨#[107]⟩,.int .i64 2] 159)
 have h1:=heap_alloc2_new w (.cells #[.int .i64 0,.int .i64 0,.slice (some ⟨w.heap.size+1,0,none⟩) 1 1] 24) (.cells #[.string ⟨#[107]⟩,.int .i64 2] 159)
 refine bodyPost_ret (results_cell_row rfl _ _ w.heap.size 24 _ (0,0) _ rfl h0 Tryz.underlying24 rfl Tryz.IZ) rfl ?_
 refine⟨⟨some ⟨w.heap.size+1,0,none⟩,1,rfl,⟨Ry (enc:=Exp.cells) (k:=2) (fun _=>rfl) h1 rfl,by unfold big RU;simp,?_⟩⟩,(ZB).alloc (by simp) _⟩
 intro x hx
 simp only[RU,List.mem_singleton]at hx
 subst hx
 unfold big;decide
theorem KF (w:World):Calls Tryz.prog 112 #[] w fun e w'=>(∃eA iA pA eC iC pC,e=.returned (lW eA iA pA eC iC pC).v/\(lW eA iA pA eC iC pC).ok w')/\Below w.heap.size w w':=by
 go_enter Tryz.func112,Tryz.ntmps112
 go_wp2_with fail
 try simp only[Exit.inBlock,Exit.then]
 have h0:=fun cs=>heap_alloc2_old w (.cells cs 70) (.cells #[.string ⟨#[102]⟩,.int .i64 4] 159)
 have h1:=fun cs=>heap_alloc2_new w (.cells cs 70) (.cells #[.string ⟨#[102]⟩,.int .i64 4] 159)
 refine bodyPost_ret (results_cell_row rfl _ _ w.heap.size 70 _ (0,0) _ rfl (h0 _) Tryz.underlying70 rfl Tryz.AX) rfl ?_
 refine⟨⟨some ⟨w.heap.size+1,0,none⟩,none,none,1,0,0,rfl,⟨⟨Ry (enc:=Exp.cells) (k:=2) (fun _=>rfl) (h1 _) rfl,by unfold big lW;simp,?_⟩,⟨Row.nil,by unfold big lW;simp,by simp[lW]⟩,⟨Row.nil,by unfold big lW;simp⟩,by show(⟨#[108,105,98]⟩:ByteArray).size<=big;decide,by show(⟨#[97,98,99,100,101,102,103,104]⟩:ByteArray).size<=big;decide⟩⟩,(ZB).alloc (by simp) _⟩
 intro x hx
 simp only[lW,List.mem_singleton]at hx
 subst hx
 unfold big;decide
theorem VF (w:World)(A B C:Obj):(((w.alloc A).alloc B).alloc C).heap[w.heap.size+1]? =some B:=by
 rw[Below.heap_alloc _ _ _ (by simp)];exact heap_alloc2_new w A B
theorem zC (w:World)(A B C:Obj):(((w.alloc A).alloc B).alloc C).heap[w.heap.size]? =some A:=by
 rw[Below.heap_alloc _ _ _ (by simp;omega)];exact heap_alloc2_old w A B
theorem zD (w:World)(A B C:Obj):(((w.alloc A).alloc B).alloc C).heap[w.heap.size+1+1]? =some C:=by
 have:=heap_alloc_new ((w.alloc A).alloc B) C
 simpa using this
theorem Jr (w:World):Calls Tryz.prog 114 #[] w fun e w'=>(∃eA iA pA eC iC pC,e=.returned (TH eA iA pA eC iC pC).v/\(TH eA iA pA eC iC pC).ok w')/\Below w.heap.size w w':=by
 go_enter Tryz.func114,Tryz.ntmps114
 go_wp2_with fail
 try simp only[Exit.inBlock,Exit.then]
 have h0:=fun a b c=>zC w (.cells a 70) (.cells b 173) (.cells c 180)
 have h1:=fun a b c=>VF w (.cells a 70) (.cells b 173) (.cells c 180)
 have h2:=fun a b c=>zD w (.cells a 70) (.cells b 173) (.cells c 180)
 refine bodyPost_ret (results_cell_row rfl _ _ w.heap.size 70 _ (0,0) _ rfl (h0 _ _ _) Tryz.underlying70 rfl Tryz.AX) rfl ?_
 refine⟨⟨none,some ⟨w.heap.size+1,0,none⟩,some ⟨w.heap.size+1+1,0,none⟩,0,2,2,rfl,⟨⟨Row.nil,by unfold big TH;simp,by simp[TH]⟩,⟨Ry (enc:=Imp.cells) (k:=4) (fun _=>rfl) (h1 _ _ _) rfl,by unfold big TH;simp,?_⟩,⟨Ry (enc:=Pat.cells) (k:=4) (fun _=>rfl) (h2 _ _ _) rfl,by unfold big TH;simp⟩,by show(⟨#[97,112,112]⟩:ByteArray).size<=big;decide,by show(⟨#[46,46,46,46,46,46,46,46]⟩:ByteArray).size<=big;decide⟩⟩,((ZB).alloc (by simp) _).alloc (by simp;omega) _⟩
 intro x hx
 simp only[TH,List.mem_cons,List.not_mem_nil,or_false]at hx
 rcases hx with rfl|rfl<;>(unfold big;decide)
end
section
open Go.RowKit
abbrev kN :Value:=.agg #[.string ⟨#[]⟩,.int .i64 0,.int .i64 0,.string ⟨#[]⟩,.slice none 0 0,.slice none 0 0,.slice none 0 0,.int .i64 0]
theorem Tryz.vH :(Tryz.prog.info? 83).map (fun i=>(i.zero,i.size,i.bytes))=some (some kN,8,128):=by kernel_rfl
def aP (w:World)(base:Nat)(v:Value)(l:List Plc):Prop:=w.ownsRow base 83 8 v l.length (l.flatMap Plc.cells)
theorem pG (l:List Plc):∀u∈l.flatMap Plc.cells,u.oneCell'=true:=by
 intro u hu
 obtain⟨x,_,hx⟩:=List.mem_flatMap.1 hu
 simp only[Plc.cells,Mod.cells,List.mem_append,List.mem_cons,List.not_mem_nil,or_false]at hx
 rcases hx with(rfl|rfl|rfl|rfl|rfl|rfl|rfl)|rfl<;>rfl
theorem aP.row {w:World}{base:Nat}{v:Value}{l:List Plc}(h:aP w base v l):∃(A:Option Addr)(c:Nat),v=.slice A l.length c/\Row Plc.cells 8 w A l:=by
 obtain⟨A,c,rfl⟩:=bG h
 exact⟨A,c,rfl,Reads.of_own h⟩
theorem Kc (W:World){ops:Array Oper}{o:Oper}{a:Act}{K:Act->World->Prop}{Q:Exit->Act->World->Prop}{E:Prop}(hgd:o.guard=none)(s x:Operand)
  (ho:o.op=.call {callee:=.builtin .append,args:=#[s,x],argTypes:=#[37,37]}) (base:Nat) (v:Value) (l0:List Plc) (hs:a.eval s=v) (hown:aP W base v l0)
  (A:Option Addr) (c:Nat) (l1:List Plc) (hx:a.eval x=.slice A l1.length c) (hr:Row Plc.cells 8 W A l1) (hlen:l0.length+l1.length<=1000000) (hbase:base<=W.heap.size)
  (h:∀v' w',aP w' base v' (l0++l1)->Below base W w'->W.grownBy w' v.ownBlock->K (a.put o.dst v') w'):if Region.wanted o (yielded ops a.tmps)=true then Oper.wp Tryz.prog o a W K Q else E:=by
 obtain⟨i0,hi,hz0,hz1,hz2⟩:=info_parts Tryz.vH
 refine jX W hgd s x 37 ho base 83 i0 kN 8 128 Tryz.underlying37 hi hz0 hz1 hz2 rfl (by decide) v l0.length (l0.flatMap Plc.cells) hs hown W.heap.size A l1.length c (l1.flatMap Plc.cells) hx hr
  (pG l1) (by simp only[maxLen];omega) (by omega) hbase ?_
 intro v' w' h1 h2 _
 refine h v' w' ?_ ((GZ4 base W).grown h2 hbase (iW hown)) h2
 unfold aP
 simpa using h1
theorem Ou (W:World){o:Oper}{a:Act}{K:Act->World->Prop}{Q:Exit->Act->World->Prop}(s x:Operand)
  (ho:o.op=.call {callee:=.builtin .append,args:=#[s,x],argTypes:=#[37,37]}) (base:Nat) (v:Value) (l0:List Plc) (hs:a.eval s=v) (hown:aP W base v l0)
  (A:Option Addr) (c:Nat) (l1:List Plc) (hx:a.eval x=.slice A l1.length c) (hr:Row Plc.cells 8 W A l1) (hlen:l0.length+l1.length<=1000000) (hbase:base<=W.heap.size)
  (h:∀v' w',aP w' base v' (l0++l1)->Below base W w'->W.grownBy w' v.ownBlock->K (a.put o.dst v') w'):Oper.wp Tryz.prog o a W K Q:=by
 obtain⟨i0,hi,hz0,hz1,hz2⟩:=info_parts Tryz.vH
 refine jQ W s x 37 ho base 83 i0 kN 8 128 Tryz.underlying37 hi hz0 hz1 hz2 rfl (by decide) v l0.length (l0.flatMap Plc.cells) hs hown W.heap.size A l1.length c (l1.flatMap Plc.cells) hx hr
  (pG l1) (by simp only[maxLen];omega) (by omega) hbase ?_
 intro v' w' h1 h2 _
 refine h v' w' ?_ ((GZ4 base W).grown h2 hbase (iW hown)) h2
 unfold aP
 simpa using h1
theorem aP.alloc {w:World}{base:Nat}{v:Value}{l:List Plc}(h:aP w base v l)(o:Obj):aP (w.alloc o) base v l:=World.ownsRow.alloc h o
theorem aP.drew {w:World}{base:Nat}{v:Value}{l:List Plc}(h:aP w base v l):aP w.drew base v l:=h
end
end Go.Proofs.YtjiedaialianmaaGreat
