import Derived.Test.YtjiedaialianmaaGreatA21
import Derived.Test.YtjiedaialianmaaGreatBCoPlReRu01
import Derived.Test.YtjiedaialianmaaGreatKTiny
namespace Go.Proofs.YtjiedaialianmaaGreat
section
set_option maxRecDepth 100000
set_option maxHeartbeats 8000000
open Go.RowKit
abbrev bsE (l:List UInt8):ByteArray:=⟨l.toArray⟩
theorem lQ (s:ByteArray) (w:World) (hs:s.size<=10):
  Calls Tryz.prog 206 #[.string s] w fun e w'=>e=.returned (.string (bsE (bL s)))/\Below w.heap.size w w':=by
 have e1:s.data.toList.length=s.size:=by rw[Array.length_toList];rfl
 obtain⟨D,hD⟩:=Nm (bsE (digits s.size 1))
 obtain⟨N,hN⟩:=Nm (bsE (bL s))
 have c1:=Hp (fun W=>iF s.size 1 W (by omega))
 have a1:=fA (A:=D) (B:=s) (S:=N) (by rw[hD,hN];simp[bL]) (by rw[hN];simp only;rw[aT];omega)
 change Hid (∀W,Calls _ _ #[.int .i64 s.size,.int .i64 1] W fun e w'=>e=.returned (.string (bsE (digits s.size 1)))/\Below W.heap.size W w')at c1
 rw[<-hD]at c1
 rw[<-hN]
 clear hD hN
 go_enter Tryz.func206,Tryz.ntmps206
 go_wp2_with (go_at_call 143;refine(c1.out _).mono ?_;rintro e w2 ⟨rfl,hb2⟩)
 go_ret
 exact⟨rfl,hb2⟩
theorem iQ (n:Int) {D:ByteArray} (hD:D=bsE (digits n 1)) (W:World):Calls Tryz.prog 143 #[.int .i64 n,.int .i64 1] W fun e w'=>e=.returned (.string D)/\Below W.heap.size W w':=by
 rw[hD];exact iF n 1 W (by omega)
theorem TW (n:Int) {D:ByteArray} (hD:D=bsE (digits n 2)) (W:World):Calls Tryz.prog 143 #[.int .i64 n,.int .i64 2] W fun e w'=>e=.returned (.string D)/\Below W.heap.size W w':=by
 rw[hD];exact iF n 2 W (by omega)
theorem EX (m:Mod) (w:World) (hm:m.ok w) (he:aL m=0):
  Calls Tryz.prog 144 #[m.v] w fun e w'=>e=.returned (.string (bsE (dK m)))/\Below w.heap.size w w':=by
 obtain⟨b1,b2,b3,b4,b5,b6,b7⟩:=uB he
 obtain⟨w0,hw0⟩:=Nm (w.alloc (.cells #[.string m.name,.int .i64 m.major,.int .i64 m.minor,.string m.text,.slice m.eA m.ex.length m.eC,.slice m.iA m.im.length m.iC,.slice m.pA m.pa.length m.pC] 70))
 obtain⟨e0,e1,e2,e3,e4,e5,e6,hz,hb⟩:=wE hw0
 obtain⟨eA,heA⟩:=Nm m.eA
 obtain⟨iA,hiA⟩:=Nm m.iA
 obtain⟨pA,hpA⟩:=Nm m.pA
 rw[<-heA]at e4
 rw[<-hiA]at e5
 rw[<-hpA]at e6
 have HEA:=Hp heA
 have HIA:=Hp hiA
 have HPA:=Hp hpA
 have hw0':=hw0.symm
 have hz0:w.heap.size<w0.heap.size:=by omega
 have H0:=Hp hb
 have HM:=Hp hm
 have HE0:=Hp he
 have hT:m.text.data.toList.length=m.text.size:=by rw[Array.length_toList];rfl
 obtain⟨N,hN⟩:=Nm (bsE (bL m.name))
 obtain⟨D1,hD1⟩:=Nm (bsE (digits m.major 1))
 obtain⟨D2,hD2⟩:=Nm (bsE (digits m.minor 1))
 obtain⟨D3,hD3⟩:=Nm (bsE (digits m.text.size 2))
 obtain⟨D4,hD4⟩:=Nm (bsE (digits m.ex.length 1))
 obtain⟨S1,hS1⟩:=Nm (bsE (bL m.name++digits m.major 1))
 obtain⟨S2,hS2⟩:=Nm (bsE (bL m.name++digits m.major 1++digits m.minor 1))
 obtain⟨S3,hS3⟩:=Nm (bsE (bL m.name++digits m.major 1++digits m.minor 1++digits m.text.size 2))
 obtain⟨S4,hS4⟩:=Nm (bsE (kG m))
 obtain⟨P1,hP1⟩:=Nm (kG m++digits m.ex.length 1)
 have hP1l:P1.length<=300:=by rw[hP1];unfold kG;simp only[List.length_append,digits_length,aT,hT];omega
 obtain⟨S5,hS5⟩:=Nm (bsE P1)
 have a1:=Hp (fA (A:=N) (B:=D1) (S:=S1) (by rw[hN,hD1,hS1]) (by rw[hS1];simp only[List.length_append,digits_length,aT];omega))
 have a2:=Hp (fA (A:=S1) (B:=D2) (S:=S2) (by rw[hS1,hD2,hS2]) (by rw[hS2];simp only[List.length_append,digits_length,aT];omega))
 have a3:=Hp (fA (A:=S2) (B:=D3) (S:=S3) (by rw[hS2,hD3,hS3]) (by rw[hS3];simp only[List.length_append,digits_length,aT];omega))
 have a4:=Hp (fA (A:=S3) (B:=m.text) (S:=S4) (by rw[hS3,hS4];rfl) (by rw[hS4];unfold kG;simp only[List.length_append,digits_length,aT,hT];omega))
 have a5:=Hp (fA (A:=S4) (B:=D4) (S:=S5) (by rw[hS4,hD4,hS5,hP1]) (by rw[hS5];simp only;omega))
 have cN:=Hp (fun W=>lQ m.name W b1)
 have c1:=Hp (iQ m.major hD1)
 have c2:=Hp (iQ m.minor hD2)
 have c3:=Hp (TW m.text.size hD3)
 have c4:=Hp (iQ m.ex.length hD4)
 rw[<-hN]at cN
 have HENC:=Hp (show dK m=P1++m.ex.flatMap eX++digits m.im.length 1++m.im.flatMap eG++digits m.pa.length 1++m.pa.flatMap gB by rw[hP1];rfl)
 have HS5:=Hp hS5
 have A1:=a1.out
 have A2:=a2.out
 have A3:=a3.out
 have A4:=a4.out
 have A5:=a5.out
 clear a1 a2 a3 a4 a5 hw0 hb hm he heA hiA hpA hN hD1 hD2 hD3 hD4 hS1 hS2 hS3 hS4 hS5 hP1
 have HCH:=Hp (show fI w0 (fun W'=>Below w0.heap.size w0 W'/\W'.cell? ⟨w.heap.size,0,none⟩=some (.string m.name)/\W'.cell? ⟨w.heap.size,1,none⟩=some (.int .i64 m.major)/\W'.cell? ⟨w.heap.size,2,none⟩=some (.int .i64 m.minor)/\W'.cell? ⟨w.heap.size,3,none⟩=some (.string m.text)/\W'.cell? ⟨w.heap.size,4,none⟩=some (.slice eA m.ex.length m.eC)) from dE (by repeat' first|(with_reducible exact bC.cell (by first|omega|(simp;omega)|(simp only[aA];omega)))|refine bC.and ?_ ?_))
 have HC0:=Hp (HCH.out.now ⟨Below.refl _ _,by assumption,by assumption,by assumption,by assumption,by assumption⟩)
 have HCD:=Hp HCH.out.D
 have HCS:=Hp HCH.out.S
 have HCA:=Hp HCH.out.A
 have HCX:=Hp HCH.out.X
 have HCL:=Hp HCH.out.L
 go_enter Tryz.func144,Tryz.ntmps144
 go_wp2_with fail
 go_region_held3 (fun W'=>Below w0.heap.size w0 W'/\W'.cell? ⟨w.heap.size,0,none⟩=some (.string m.name)/\W'.cell? ⟨w.heap.size,1,none⟩=some (.int .i64 m.major)/\W'.cell? ⟨w.heap.size,2,none⟩=some (.int .i64 m.minor)/\W'.cell? ⟨w.heap.size,3,none⟩=some (.string m.text)/\W'.cell? ⟨w.heap.size,4,none⟩=some (.slice eA m.ex.length m.eC)) (first|exact HC0.out|exact HCD.out _ HC0.out|exact HCS.out _ _ (by assumption) (by assumption)|exact HCS.out _ _ HC0.out (by assumption)|exact HCS.out _ _ (HCD.out _ HC0.out) (by assumption)|exact HCS.out _ _ (HCD.out _ (by assumption)) (by assumption)|exact HCD.out _ (by assumption)|exact HCA.out _ _ (by assumption)|exact HCA.out _ _ HC0.out|exact HCA.out _ _ (HCD.out _ HC0.out)|exact HCD.out _ (HCA.out _ _ (by assumption))|exact HCA.out _ _ (HCS.out _ _ HC0.out (by assumption))|exact HCA.out _ _ (HCS.out _ _ (HCD.out _ HC0.out) (by assumption))|exact HCX.out _ _ _ _ (Nat.le_refl _) (by assumption)|exact HCX.out _ _ _ _ (Nat.le_refl _) (HCS.out _ _ (HCA.out _ _ HC0.out) (by assumption))|exact HCX.out _ _ _ _ (Nat.le_refl _) (HCS.out _ _ (HCD.out _ (HCA.out _ _ HC0.out)) (by assumption))|assumption) (first|(go_at_call 206;refine(cN.out _).mono ?_;rintro e w2 ⟨rfl,hb2⟩)|(go_at_call 143;(first|with_reducible refine(c1.out _).mono ?_|with_reducible refine(c2.out _).mono ?_|with_reducible refine(c3.out _).mono ?_|with_reducible refine(c4.out _).mono ?_);rintro e w2 ⟨rfl,hb2⟩))
 have B5:=Hp (HCL.out _ (by assumption))
 clear HC0 HCD HCS HCA HCL cN c1 c2 c3 c4 A1 A2 A3 A4 A5
 go_wp2_with fail
 go_loopw [3,4] (fun v i wr=>∃(j:Nat),j<=m.ex.length/\i=.int .i64 j/\v=.string (bsE (P1++(m.ex.take j).flatMap eX))/\Below w0.heap.size w0 wr) (fun _ i _=>m.ex.length -(intOf i).toNat)
 case atStart=>exact⟨0,by omega,rfl,by rw[HS5.out];simp,B5.out⟩
 case round=>
  obtain⟨j,hj,rfl,rfl,hb⟩:=hrel
  have HB:=Hp hb
  have hwz:=hb.size
  have HX:=Hp (show Below w.heap.size w wr from H0.out.trans (hb.mono (by omega)))
  have r4:=(hb.cell (p:=⟨w.heap.size,4,none⟩) (by simp;omega)).trans e4
  have hfl:=kF (f:=eX) (K:=13) (l:=m.ex.take (j+1)) (fun x hx=>b6 x (List.mem_of_mem_take hx))
  rw[List.length_take]at hfl
  obtain⟨S,hS⟩:=Nm (bsE (P1++(m.ex.take j).flatMap eX))
  rw[<-hS]
  by_cases hlt:j<m.ex.length
  ·have hlt':(j:Int)<m.ex.length:=by omega
   obtain⟨ad,ead,hab,h0,h1⟩:=mF HM.out.ex.1 HX.out j hlt
   obtain rfl:eA=some ad:=HEA.out.trans ead
   have hE:=Sm (f:=eX) hlt
   have hx:=b6 (m.ex[j]'hlt) (List.getElem_mem _)
   obtain⟨x,hxx⟩:=Nm (m.ex[j]'hlt)
   rw[<-hxx]at h0 h1 hE hx
   rw[lS]at hx
   obtain⟨T,hT⟩:=Nm (bsE (P1++(m.ex.take (j+1)).flatMap eX))
   obtain⟨N,hN⟩:=Nm (bsE (bL x.name))
   obtain⟨D,hD⟩:=Nm (bsE (digits x.at_ 2))
   obtain⟨E,hEE⟩:=Nm (bsE (eX x))
   have A1:=fA (A:=N) (B:=D) (S:=E) (by rw[hN,hD,hEE];rfl) (by rw[hEE];show(eX x).length<=_;rw[lS];omega)
   have A2:=fA (A:=S) (B:=E) (S:=T) (by rw[hS,hEE,hT,hE];simp) (by rw[hT];show(P1++_).length<=_;rw[List.length_append];omega)
   have cN:=Hp (fun W=>lQ x.name W (by omega))
   have cD:=Hp (TW x.at_ hD)
   rw[<-hN]at cN
   have HT:=Hp hT
   have hbm:(ad.add (j*2)).block<wr.heap.size:=by rw[aA];have:=HX.out.size;omega
   have hbw:w.heap.size<wr.heap.size:=by omega
   clear hb hfl hE hx hxx hT hN hD hEE hS ead
   have HCH:=Hp (show fI wr (fun W'=>Below wr.heap.size wr W'/\W'.cell? ⟨w.heap.size,4,none⟩=some (.slice (some ad) m.ex.length m.eC)/\W'.cell? (ad.add (j*2))=some (.string x.name)/\W'.cell? ⟨(ad.add (j*2)).block,(ad.add (j*2)).off+1,none⟩=some (.int .i64 x.at_)) from dE (by repeat' first|(with_reducible exact bC.cell (by first|omega|(simp;omega)|(simp only[aA];omega)))|refine bC.and ?_ ?_))
   have HC0:=Hp (HCH.out.now ⟨Below.refl _ _,by assumption,by assumption,by assumption⟩)
   have HCD:=Hp HCH.out.D
   have HCS:=Hp HCH.out.S
   have HCA:=Hp HCH.out.A
   have HCX:=Hp HCH.out.X
   have HCL:=Hp HCH.out.L
   go_wp2_with fail
   go_region_held3 (fun W'=>Below wr.heap.size wr W'/\W'.cell? ⟨w.heap.size,4,none⟩=some (.slice (some ad) m.ex.length m.eC)/\W'.cell? (ad.add (j*2))=some (.string x.name)/\W'.cell? ⟨(ad.add (j*2)).block,(ad.add (j*2)).off+1,none⟩=some (.int .i64 x.at_)) (first|exact HC0.out|exact HCD.out _ HC0.out|exact HCS.out _ _ (by assumption) (by assumption)|exact HCS.out _ _ HC0.out (by assumption)|exact HCS.out _ _ (HCD.out _ HC0.out) (by assumption)|exact HCS.out _ _ (HCD.out _ (by assumption)) (by assumption)|exact HCD.out _ (by assumption)|exact HCA.out _ _ (by assumption)|exact HCA.out _ _ HC0.out|exact HCA.out _ _ (HCD.out _ HC0.out)|exact HCD.out _ (HCA.out _ _ (by assumption))|exact HCA.out _ _ (HCS.out _ _ HC0.out (by assumption))|exact HCA.out _ _ (HCS.out _ _ (HCD.out _ HC0.out) (by assumption))|exact HCX.out _ _ _ _ (Nat.le_refl _) (by assumption)|exact HCX.out _ _ _ _ (Nat.le_refl _) (HCS.out _ _ (HCA.out _ _ HC0.out) (by assumption))|exact HCX.out _ _ _ _ (Nat.le_refl _) (HCS.out _ _ (HCD.out _ (HCA.out _ _ HC0.out)) (by assumption))|assumption) (first|(go_at_call 206;with_reducible refine(cN.out _).mono ?_;rintro e w2 ⟨rfl,hb2⟩)|(go_at_call 143;with_reducible refine(cD.out _).mono ?_;rintro e w2 ⟨rfl,hb2⟩))
   have B6:=Hp (HCL.out _ (by assumption))
   clear HC0 HCD HCS HCA HCL cN cD A1 A2
   go_wp2_with fail
   go_roundw
   case rel=>exact⟨j+1,by omega,by go_num,by rw[HT.out],HB.out.trans (B6.out.mono hwz)⟩
   case measure=>(simp[intOf];try omega)
  ·have e0':m.ex.take j=m.ex:=List.take_of_length_le (by omega)
   rw[e0']at hS
   have hfl9:=kF (f:=eX) (K:=13) (l:=m.ex) b6
   obtain⟨P2,hP2⟩:=Nm (P1++m.ex.flatMap eX++digits m.im.length 1)
   have hP2l:P2.length<=400:=by rw[hP2,List.length_append,List.length_append,digits_length];omega
   obtain⟨D,hD⟩:=Nm (bsE (digits m.im.length 1))
   obtain⟨T,hT⟩:=Nm (bsE P2)
   have A1:=fA (A:=S) (B:=D) (S:=T) (by rw[hS,hD,hT,hP2]) (by rw[hT];show P2.length<=_;omega)
   have cD:=Hp (iQ m.im.length hD)
   have r5:=(hb.cell (p:=⟨w.heap.size,5,none⟩) (by simp;omega)).trans e5
   rw[<-hP2]at HENC
   have HT:=Hp hT
   clear e0' hfl hb hS hD hT hP2 hfl9
   go_wp2_with (go_at_call 143;with_reducible refine(cD.out _).mono ?_;rintro e w2 ⟨rfl,hb2⟩;have B7:=Hp (HB.out.trans (hb2.mono hwz)))
   go_loopw [3,5] (fun v i wr=>∃(j:Nat),j<=m.im.length/\i=.int .i64 j/\v=.string (bsE (P2++(m.im.take j).flatMap eG))/\Below w0.heap.size w0 wr) (fun _ i _=>m.im.length -(intOf i).toNat)
   case atStart=>exact⟨0,by omega,rfl,by rw[HT.out];simp,B7.out⟩
   clear A1 cD HB r5 B7 HX r4
   case round=>
    obtain⟨j,hj,rfl,rfl,hb⟩:=hrel
    have HB:=Hp hb
    have hwz:=hb.size
    have HX:=Hp (show Below w.heap.size w wr from H0.out.trans (hb.mono (by omega)))
    have r5:=(hb.cell (p:=⟨w.heap.size,5,none⟩) (by simp;omega)).trans e5
    have hfl:=kF (f:=eG) (K:=24) (l:=m.im.take (j+1)) (fun x hx=>b7 x (List.mem_of_mem_take hx))
    rw[List.length_take]at hfl
    obtain⟨S,hS⟩:=Nm (bsE (P2++(m.im.take j).flatMap eG))
    rw[<-hS]
    by_cases hlt:j<m.im.length
    ·have hlt':(j:Int)<m.im.length:=by omega
     obtain⟨ad,ead,hab,h0,h1,h2,h3⟩:=TA HM.out.im.1 HX.out j hlt
     obtain rfl:iA=some ad:=HIA.out.trans ead
     have hE:=Sm (f:=eG) hlt
     have hx:=Ug (kX (aY HE0.out).2.2.2.2.2.2.2.2.2.1 (m.im[j]'hlt) (List.getElem_mem _))
     obtain⟨x,hxx⟩:=Nm (m.im[j]'hlt)
     rw[<-hxx]at h0 h1 h2 h3 hE hx
     have z1:=RZ hx.1
     have z2:=RZ hx.2.1
     obtain⟨T,hT⟩:=Nm (bsE (P2++(m.im.take (j+1)).flatMap eG))
     obtain⟨N1,hN1⟩:=Nm (bsE (bL x.mod))
     obtain⟨N2,hN2⟩:=Nm (bsE (bL x.name))
     obtain⟨D1,hD1⟩:=Nm (bsE (digits x.major 1))
     obtain⟨D2,hD2⟩:=Nm (bsE (digits x.minor 1))
     obtain⟨E1,hE1⟩:=Nm (bsE (bL x.mod++bL x.name))
     obtain⟨E2,hE2⟩:=Nm (bsE (bL x.mod++bL x.name++digits x.major 1))
     obtain⟨E,hEE⟩:=Nm (bsE (eG x))
     have hEl:(eG x).length<=24:=by rw[nW];omega
     have A1:=fA (A:=N1) (B:=N2) (S:=E1) (by rw[hN1,hN2,hE1]) (by rw[hE1];show(bL x.mod++bL x.name).length<=_;rw[List.length_append,aT,aT];omega)
     have A2:=fA (A:=E1) (B:=D1) (S:=E2) (by rw[hE1,hD1,hE2]) (by rw[hE2];show(bL x.mod++bL x.name++digits x.major 1).length<=_;rw[List.length_append,List.length_append,aT,aT,digits_length];omega)
     have A3:=fA (A:=E2) (B:=D2) (S:=E) (by rw[hE2,hD2,hEE];rfl) (by rw[hEE];show(eG x).length<=_;omega)
     have A4:=fA (A:=S) (B:=E) (S:=T) (by rw[hS,hEE,hT,hE];simp) (by rw[hT];show(P2++_).length<=_;rw[List.length_append];omega)
     have cN1:=Hp (fun W=>lQ x.mod W z1)
     have cN2:=Hp (fun W=>lQ x.name W z2)
     have cD1:=Hp (iQ x.major hD1)
     have cD2:=Hp (iQ x.minor hD2)
     rw[<-hN1]at cN1
     rw[<-hN2]at cN2
     have HT:=Hp hT
     obtain⟨wx,hwx⟩:=Nm (wr.alloc (.cells #[.string x.mod,.string x.name,.int .i64 x.major,.int .i64 x.minor] 173))
     obtain⟨x0,x1,x2,x3,hzx,hbx⟩:=oJ hwx
     have hwx':=hwx.symm
     have hbw:wr.heap.size<wx.heap.size:=by omega
     have BX:=Hp (HB.out.trans (hbx.mono hwz))
     have hwzx:w0.heap.size<=wx.heap.size:=by omega
     clear hb hfl hE hx hxx hT hN1 hN2 hD1 hD2 hE1 hE2 hEE hS ead hwx hzx hbx z1 z2 hEl
     have HCH:=Hp (show fI wx (fun W'=>Below wx.heap.size wx W'/\W'.cell? ⟨wr.heap.size,0,none⟩=some (.string x.mod)/\W'.cell? ⟨wr.heap.size,1,none⟩=some (.string x.name)/\W'.cell? ⟨wr.heap.size,2,none⟩=some (.int .i64 x.major)/\W'.cell? ⟨wr.heap.size,3,none⟩=some (.int .i64 x.minor)) from dE (by repeat' first|(with_reducible exact bC.cell (by first|omega|(simp;omega)|(simp only[aA];omega)))|refine bC.and ?_ ?_))
     have HC0:=Hp (HCH.out.now ⟨Below.refl _ _,by assumption,by assumption,by assumption,by assumption⟩)
     have HCD:=Hp HCH.out.D
     have HCS:=Hp HCH.out.S
     have HCA:=Hp HCH.out.A
     have HCX:=Hp HCH.out.X
     have HCL:=Hp HCH.out.L
     go_wp2_with fail
     go_region_held3 (fun W'=>Below wx.heap.size wx W'/\W'.cell? ⟨wr.heap.size,0,none⟩=some (.string x.mod)/\W'.cell? ⟨wr.heap.size,1,none⟩=some (.string x.name)/\W'.cell? ⟨wr.heap.size,2,none⟩=some (.int .i64 x.major)/\W'.cell? ⟨wr.heap.size,3,none⟩=some (.int .i64 x.minor)) (first|exact HC0.out|exact HCD.out _ HC0.out|exact HCS.out _ _ (by assumption) (by assumption)|exact HCS.out _ _ HC0.out (by assumption)|exact HCS.out _ _ (HCD.out _ HC0.out) (by assumption)|exact HCS.out _ _ (HCD.out _ (by assumption)) (by assumption)|exact HCD.out _ (by assumption)|exact HCA.out _ _ (by assumption)|exact HCA.out _ _ HC0.out|exact HCA.out _ _ (HCD.out _ HC0.out)|exact HCD.out _ (HCA.out _ _ (by assumption))|exact HCA.out _ _ (HCS.out _ _ HC0.out (by assumption))|exact HCA.out _ _ (HCS.out _ _ (HCD.out _ HC0.out) (by assumption))|exact HCX.out _ _ _ _ (Nat.le_refl _) (by assumption)|exact HCX.out _ _ _ _ (Nat.le_refl _) (HCS.out _ _ (HCA.out _ _ HC0.out) (by assumption))|exact HCX.out _ _ _ _ (Nat.le_refl _) (HCS.out _ _ (HCD.out _ (HCA.out _ _ HC0.out)) (by assumption))|assumption) (first|(go_at_call 206;(first|with_reducible refine(cN1.out _).mono ?_|with_reducible refine(cN2.out _).mono ?_);rintro e w2 ⟨rfl,hb2⟩)|(go_at_call 143;(first|with_reducible refine(cD1.out _).mono ?_|with_reducible refine(cD2.out _).mono ?_);rintro e w2 ⟨rfl,hb2⟩))
     have B6:=Hp (HCL.out _ (by assumption))
     clear HC0 HCD HCS HCA HCL cN1 cN2 cD1 cD2 A1 A2 A3 A4
     go_wp2_with fail
     go_roundw
     case rel=>exact⟨j+1,by omega,by go_num,by rw[HT.out],BX.out.trans (B6.out.mono hwzx)⟩
     case measure=>(simp[intOf];try omega)
    ·have e0':m.im.take j=m.im:=List.take_of_length_le (by omega)
     rw[e0']at hS
     have hfl9:=kF (f:=eG) (K:=24) (l:=m.im) b7
     obtain⟨P3,hP3⟩:=Nm (P2++m.im.flatMap eG++digits m.pa.length 1)
     have hP3l:P3.length<=600:=by rw[hP3,List.length_append,List.length_append,digits_length];omega
     obtain⟨D,hD⟩:=Nm (bsE (digits m.pa.length 1))
     obtain⟨T,hT⟩:=Nm (bsE P3)
     have A1:=fA (A:=S) (B:=D) (S:=T) (by rw[hS,hD,hT,hP3]) (by rw[hT];show P3.length<=_;omega)
     have cD:=Hp (iQ m.pa.length hD)
     have r6:=(hb.cell (p:=⟨w.heap.size,6,none⟩) (by simp;omega)).trans e6
     rw[<-hP3]at HENC
     have HT:=Hp hT
     clear e0' hfl hb hS hD hT hP3 hfl9
     go_wp2_with (go_at_call 143;with_reducible refine(cD.out _).mono ?_;rintro e w2 ⟨rfl,hb2⟩;have B7:=Hp (HB.out.trans (hb2.mono hwz)))
     go_loopw [3,7] (fun v i wr=>∃(j:Nat),j<=m.pa.length/\i=.int .i64 j/\v=.string (bsE (P3++(m.pa.take j).flatMap gB))/\Below w0.heap.size w0 wr) (fun _ i _=>m.pa.length -(intOf i).toNat)
     case atStart=>exact⟨0,by omega,rfl,by rw[HT.out];simp,B7.out⟩
     clear A1 cD HB r6 B7 HX r5
     case round=>
      obtain⟨j,hj,rfl,rfl,hb⟩:=hrel
      have HB:=Hp hb
      have hwz:=hb.size
      have HX:=Hp (show Below w.heap.size w wr from H0.out.trans (hb.mono (by omega)))
      have r6:=(hb.cell (p:=⟨w.heap.size,6,none⟩) (by simp;omega)).trans e6
      have hfl:=kF (f:=gB) (K:=6) (l:=m.pa.take (j+1)) (fun x _=>by rw[lK];omega)
      rw[List.length_take]at hfl
      obtain⟨S,hS⟩:=Nm (bsE (P3++(m.pa.take j).flatMap gB))
      rw[<-hS]
      by_cases hlt:j<m.pa.length
      ·have hlt':(j:Int)<m.pa.length:=by omega
       obtain⟨ad,ead,hab,h0,h1,h2,h3⟩:=qE HM.out.pa.1 HX.out j hlt
       obtain rfl:pA=some ad:=HPA.out.trans ead
       have hE:=Sm (f:=gB) hlt
       have hx:=Gx HE0.out (m.pa[j]'hlt) (List.getElem_mem _)
       obtain⟨x,hxx⟩:=Nm (m.pa[j]'hlt)
       rw[<-hxx]at h0 h1 h2 h3 hE hx
       obtain⟨T,hT⟩:=Nm (bsE (P3++(m.pa.take (j+1)).flatMap gB))
       obtain⟨Y,hY⟩:=Nm (x.sym+1)
       have q1:IntKind.i64.wrap (x.sym+1)=Y:=by rw[hY];exact IntWalk.i64_in _ (by omega)
       obtain⟨D1,hD1⟩:=Nm (bsE (digits x.kind 1))
       obtain⟨D2,hD2⟩:=Nm (bsE (digits x.at_ 2))
       obtain⟨D3,hD3⟩:=Nm (bsE (digits Y 1))
       obtain⟨D4,hD4⟩:=Nm (bsE (digits x.add 2))
       obtain⟨E1,hE1⟩:=Nm (bsE (digits x.kind 1++digits x.at_ 2))
       obtain⟨E2,hE2⟩:=Nm (bsE (digits x.kind 1++digits x.at_ 2++digits Y 1))
       obtain⟨E,hEE⟩:=Nm (bsE (gB x))
       have A1:=fA (A:=D1) (B:=D2) (S:=E1) (by rw[hD1,hD2,hE1]) (by rw[hE1];show(digits x.kind 1++digits x.at_ 2).length<=_;rw[List.length_append,digits_length,digits_length];omega)
       have A2:=fA (A:=E1) (B:=D3) (S:=E2) (by rw[hE1,hD3,hE2]) (by rw[hE2];show(digits x.kind 1++digits x.at_ 2++digits Y 1).length<=_;rw[List.length_append,List.length_append,digits_length,digits_length,digits_length];omega)
       have A3:=fA (A:=E2) (B:=D4) (S:=E) (by rw[hE2,hD4,hEE,hY];rfl) (by rw[hEE];show(gB x).length<=_;rw[lK];omega)
       have A4:=fA (A:=S) (B:=E) (S:=T) (by rw[hS,hEE,hT,hE];simp) (by rw[hT];show(P3++_).length<=_;rw[List.length_append];omega)
       have cD1:=Hp (iQ x.kind hD1)
       have cD2:=Hp (TW x.at_ hD2)
       have cD3:=Hp (iQ Y hD3)
       have cD4:=Hp (TW x.add hD4)
       have HT:=Hp hT
       obtain⟨wx,hwx⟩:=Nm (wr.alloc (.cells #[.int .i64 x.kind,.int .i64 x.at_,.int .i64 x.sym,.int .i64 x.add] 180))
       obtain⟨x0,x1,x2,x3,hzx,hbx⟩:=oJ hwx
       have hwx':=hwx.symm
       have hbw:wr.heap.size<wx.heap.size:=by omega
       have BX:=Hp (HB.out.trans (hbx.mono hwz))
       have hwzx:w0.heap.size<=wx.heap.size:=by omega
       clear hb hfl hE hx hxx hT hD1 hD2 hD3 hD4 hE1 hE2 hEE hS ead hwx hzx hbx hY
       have HCH:=Hp (show fI wx (fun W'=>Below wx.heap.size wx W'/\W'.cell? ⟨wr.heap.size,0,none⟩=some (.int .i64 x.kind)/\W'.cell? ⟨wr.heap.size,1,none⟩=some (.int .i64 x.at_)/\W'.cell? ⟨wr.heap.size,2,none⟩=some (.int .i64 x.sym)/\W'.cell? ⟨wr.heap.size,3,none⟩=some (.int .i64 x.add)) from dE (by repeat' first|(with_reducible exact bC.cell (by first|omega|(simp;omega)|(simp only[aA];omega)))|refine bC.and ?_ ?_))
       have HC0:=Hp (HCH.out.now ⟨Below.refl _ _,by assumption,by assumption,by assumption,by assumption⟩)
       have HCD:=Hp HCH.out.D
       have HCS:=Hp HCH.out.S
       have HCA:=Hp HCH.out.A
       have HCX:=Hp HCH.out.X
       have HCL:=Hp HCH.out.L
       go_wp2_with fail
       go_region_held3 (fun W'=>Below wx.heap.size wx W'/\W'.cell? ⟨wr.heap.size,0,none⟩=some (.int .i64 x.kind)/\W'.cell? ⟨wr.heap.size,1,none⟩=some (.int .i64 x.at_)/\W'.cell? ⟨wr.heap.size,2,none⟩=some (.int .i64 x.sym)/\W'.cell? ⟨wr.heap.size,3,none⟩=some (.int .i64 x.add)) (first|exact HC0.out|exact HCD.out _ HC0.out|exact HCS.out _ _ (by assumption) (by assumption)|exact HCS.out _ _ HC0.out (by assumption)|exact HCS.out _ _ (HCD.out _ HC0.out) (by assumption)|exact HCS.out _ _ (HCD.out _ (by assumption)) (by assumption)|exact HCD.out _ (by assumption)|exact HCA.out _ _ (by assumption)|exact HCA.out _ _ HC0.out|exact HCA.out _ _ (HCD.out _ HC0.out)|exact HCD.out _ (HCA.out _ _ (by assumption))|exact HCA.out _ _ (HCS.out _ _ HC0.out (by assumption))|exact HCA.out _ _ (HCS.out _ _ (HCD.out _ HC0.out) (by assumption))|exact HCX.out _ _ _ _ (Nat.le_refl _) (by assumption)|exact HCX.out _ _ _ _ (Nat.le_refl _) (HCS.out _ _ (HCA.out _ _ HC0.out) (by assumption))|exact HCX.out _ _ _ _ (Nat.le_refl _) (HCS.out _ _ (HCD.out _ (HCA.out _ _ HC0.out)) (by assumption))|assumption) (first|(go_at_call 143;(first|with_reducible refine(cD1.out _).mono ?_|with_reducible refine(cD2.out _).mono ?_|with_reducible refine(cD3.out _).mono ?_|with_reducible refine(cD4.out _).mono ?_);rintro e w2 ⟨rfl,hb2⟩))
       have B6:=Hp (HCL.out _ (by assumption))
       clear HC0 HCD HCS HCA HCL cD1 cD2 cD3 cD4 A1 A2 A3 A4
       go_wp2_with fail
       go_roundw
       case rel=>exact⟨j+1,by omega,by go_num,by rw[HT.out],BX.out.trans (B6.out.mono hwzx)⟩
       case measure=>(simp[intOf];try omega)
      ·have e0':m.pa.take j=m.pa:=List.take_of_length_le (by omega)
       rw[e0']at hS
       have HSF:=Hp (show S=bsE (dK m) by rw[hS,HENC.out])
       clear e0' hfl hb hS
       go_wp2_with fail
       go_ret
       exact⟨by rw[<-HSF.out];rfl,H0.out.trans (HB.out.mono (by omega))⟩
end
section
open Go
set_option maxRecDepth 100000
set_option maxHeartbeats 4000000
open Go.RowKit
open Gs (Tx)
theorem UU (c:Cm) (w:World) (h:c.m.ok w) (hc:RL c=0):
  Calls Tryz.prog 64 #[c.v] w fun e w'=>e=.returned (.string (sof (aG c)))/\Below w.heap.size w w':=by
 obtain⟨k,m,nm⟩:=c
 simp only at h
 show Calls Tryz.prog 64 #[.agg #[.int .i64 k,.string m.name,.int .i64 m.major,.int .i64 m.minor,.string m.text,.slice m.eA m.ex.length m.eC,.slice m.iA m.im.length m.iC,.slice m.pA m.pa.length m.pC,.string nm]] w _
 obtain⟨w0,hw0⟩:=Nm (w.alloc (.cells #[.int .i64 k,.string m.name,.int .i64 m.major,.int .i64 m.minor,.string m.text,.slice m.eA m.ex.length m.eC,.slice m.iA m.im.length m.iC,.slice m.pA m.pa.length m.pC,.string nm] 102))
 have hw0':=hw0.symm
 obtain⟨p0,p1,p2,p3,p4,p5,p6,p7,p8⟩:=dJ (W:=w0) (b:=w.heap.size) (c:=⟨k,m,nm⟩) (by rw[hw0];exact heap_alloc_new w _)
 simp only at p0 p1 p2 p3 p4 p5 p6 p7 p8
 have H0:=Hp (show Below w.heap.size w w0 from hw0▸(Below.refl _ _).alloc (Nat.le_refl _) _)
 have hz0:w.heap.size<w0.heap.size:=by rw[hw0];simp
 obtain⟨hk,_,hno,_,hM⟩:=lT hc
 have hlen:=(kZ hc).2
 simp only at hk hno hM
 have C4:=fun W (hb:Below w.heap.size w W) (hh:nG k=true)=>EX m W (h.below hb) (hM hh)
 have hz:k≠2->nm=⟨#[]⟩:=fun q=>by
  have:=hno q
  have hd:nm.data=#[]:=Array.size_eq_zero_iff.1 this
  cases nm;exact congrArg ByteArray.mk hd
 obtain rfl|rfl|rfl|rfl:k=1\/k=2\/k=3\/k=4:=by omega
 ·obtain rfl:=hz (by decide)
  have c1:=Hp (show∀W,Calls Tryz.prog 143 #[.int .i64 1,.int .i64 1] W fun e w'=>e=.returned (.string ⟨#[1]⟩)/\Below W.heap.size W w' from fun W=>iF 1 1 W (by omega))
  have c4:=Hp (fun W (hb:Below w.heap.size w W)=>C4 W hb rfl)
  obtain⟨S,hS⟩:∃S:ByteArray,S=sof (aG ⟨1,m,⟨#[]⟩⟩):=⟨_,rfl⟩
  have a2:∀W,(Op.stringOp .add ⟨#[1]⟩ (bsE (dK m))).run Tryz.prog W=.ok (.string S) W:=fA (by rw[hS];rfl) (by rw[hS];show(aG ⟨1,m,⟨#[]⟩⟩).length<=_;omega)
  rw[<-hS]
  obtain⟨N,hN⟩:∃N:ByteArray,N=bsE (dK m):=⟨_,rfl⟩
  rw[<-hN]at c4 a2
  clear C4 hk hno hlen hM hc h hS hN hw0 hz
  go_enter Tryz.func64,Tryz.ntmps64
  go_wp2_with fail
  refine(c1.out _).mono ?_;rintro e w1 ⟨rfl,hb1⟩
  have HB1:=Hp (H0.out.trans (hb1.mono H0.out.size))
  obtain⟨hc1,hf1⟩:=aJ hb1;clear hb1
  go_wp2_with fail
  refine(c4.out _ HB1.out).mono ?_;rintro e w2 ⟨rfl,hb2⟩
  go_wp2_with fail
  go_ret
  exact⟨rfl,HB1.out.trans (hb2.mono HB1.out.size)⟩
 ·have c1:=Hp (show∀W,Calls Tryz.prog 143 #[.int .i64 2,.int .i64 1] W fun e w'=>e=.returned (.string ⟨#[2]⟩)/\Below W.heap.size W w' from fun W=>iF 2 1 W (by omega))
  obtain⟨S,hS⟩:∃S:ByteArray,S=sof (aG ⟨2,m,nm⟩):=⟨_,rfl⟩
  have a2:∀W,(Op.stringOp .add ⟨#[2]⟩ nm).run Tryz.prog W=.ok (.string S) W:=fA (by rw[hS];show _=2::(tx nm++[]);rw[List.append_nil];rfl) (by rw[hS];show(aG ⟨2,m,nm⟩).length<=_;omega)
  rw[<-hS]
  clear C4 hk hno hlen hM hc h hS hw0 hz
  go_enter Tryz.func64,Tryz.ntmps64
  go_wp2_with fail
  refine(c1.out _).mono ?_;rintro e w1 ⟨rfl,hb1⟩
  have HB1:=Hp (H0.out.trans (hb1.mono H0.out.size))
  obtain⟨hc1,hf1⟩:=aJ hb1;clear hb1
  go_wp2_with fail
  go_ret
  exact⟨rfl,HB1.out⟩
 ·obtain rfl:=hz (by decide)
  have c1:=Hp (show∀W,Calls Tryz.prog 143 #[.int .i64 3,.int .i64 1] W fun e w'=>e=.returned (.string ⟨#[3]⟩)/\Below W.heap.size W w' from fun W=>iF 3 1 W (by omega))
  have c4:=Hp (fun W (hb:Below w.heap.size w W)=>C4 W hb rfl)
  obtain⟨S,hS⟩:∃S:ByteArray,S=sof (aG ⟨3,m,⟨#[]⟩⟩):=⟨_,rfl⟩
  have a2:∀W,(Op.stringOp .add ⟨#[3]⟩ (bsE (dK m))).run Tryz.prog W=.ok (.string S) W:=fA (by rw[hS];rfl) (by rw[hS];show(aG ⟨3,m,⟨#[]⟩⟩).length<=_;omega)
  rw[<-hS]
  obtain⟨N,hN⟩:∃N:ByteArray,N=bsE (dK m):=⟨_,rfl⟩
  rw[<-hN]at c4 a2
  clear C4 hk hno hlen hM hc h hS hN hw0 hz
  go_enter Tryz.func64,Tryz.ntmps64
  go_wp2_with fail
  refine(c1.out _).mono ?_;rintro e w1 ⟨rfl,hb1⟩
  have HB1:=Hp (H0.out.trans (hb1.mono H0.out.size))
  obtain⟨hc1,hf1⟩:=aJ hb1;clear hb1
  go_wp2_with fail
  refine(c4.out _ HB1.out).mono ?_;rintro e w2 ⟨rfl,hb2⟩
  go_wp2_with fail
  go_ret
  exact⟨rfl,HB1.out.trans (hb2.mono HB1.out.size)⟩
 ·obtain rfl:=hz (by decide)
  have c1:=Hp (show∀W,Calls Tryz.prog 143 #[.int .i64 4,.int .i64 1] W fun e w'=>e=.returned (.string ⟨#[4]⟩)/\Below W.heap.size W w' from fun W=>iF 4 1 W (by omega))
  have hS:(⟨#[4]⟩:ByteArray)=sof (aG ⟨4,m,⟨#[]⟩⟩):=rfl
  rw[<-hS]
  clear C4 hk hno hlen hM hc h hS hw0 hz
  go_enter Tryz.func64,Tryz.ntmps64
  go_wp2_with fail
  refine(c1.out _).mono ?_;rintro e w1 ⟨rfl,hb1⟩
  have HB1:=Hp (H0.out.trans (hb1.mono H0.out.size))
  obtain⟨hc1,hf1⟩:=aJ hb1;clear hb1
  go_wp2_with fail
  go_ret
  exact⟨rfl,HB1.out⟩
end
end Go.Proofs.YtjiedaialianmaaGreat
