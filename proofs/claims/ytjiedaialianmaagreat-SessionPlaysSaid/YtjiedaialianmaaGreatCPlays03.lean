import Derived.Test.YtjiedaialianmaaGreatA07
import Derived.Test.YtjiedaialianmaaGreatA09
import Derived.Test.YtjiedaialianmaaGreatCPlays02
set_option maxRecDepth 100000
set_option maxHeartbeats 8000000
namespace Go.Proofs.YtjiedaialianmaaGreat
section
open Go.RowKit
abbrev bsE (l:List UInt8):ByteArray:=⟨l.toArray⟩
theorem fA {A B S:ByteArray}(h:A.data.toList++B.data.toList=S.data.toList)(a:S.data.toList.length<=100000)(W:World):(Op.stringOp .add A B).run Tryz.prog W=.ok (.string S) W:=by
 have d:A.data.toList.length=A.size:=by rw[Array.length_toList];rfl
 have c:B.data.toList.length=B.size:=by rw[Array.length_toList];rfl
 have b:=congrArg List.length h
 rw[GZ8]at b
 rw[run_string_add_sum _ _ _ (by omega)]
 congr 2
 exact ba_eq (by rw[dY,h])
theorem lQ (s:ByteArray)(w:World)(h:s.size<=10):
  Calls Tryz.prog 206 #[.string s] w fun e b=>e=.returned (.string (bsE (bL s)))/\Below w.heap.size w b:=by
 have i:s.data.toList.length=s.size:=by rw[Array.length_toList];rfl
 obtain⟨D,d⟩:=Nm (bsE (digits s.size 1))
 obtain⟨N,a⟩:=Nm (bsE (bL s))
 have f:=Hp (fun W=>iF s.size 1 W (by omega))
 have j:=fA (A:=D) (B:=s) (S:=N) (by rw[d,a];simp[bL]) (by rw[a];simp only;rw[aT];omega)
 change Hid (∀W,Calls _ _ #[.int .i64 s.size,.int .i64 1] W fun e b=>e=.returned (.string (bsE (digits s.size 1)))/\Below W.heap.size W b)at f
 rw[<-d]at f
 rw[<-a]
 clear d a
 go_enter Tryz.func206,Tryz.ntmps206
 go_wp2_with (go_at_call 143;refine(f.out _).mono ?_;rintro e g ⟨rfl,c⟩)
 go_ret
 exact⟨rfl,c⟩
theorem iQ (n:Int){D:ByteArray}(b:D=bsE (digits n 1))(W:World):Calls Tryz.prog 143 #[.int .i64 n,.int .i64 1] W fun e a=>e=.returned (.string D)/\Below W.heap.size W a:=by
 rw[b];exact iF n 1 W (by omega)
theorem TW (n:Int){D:ByteArray}(b:D=bsE (digits n 2))(W:World):Calls Tryz.prog 143 #[.int .i64 n,.int .i64 2] W fun e a=>e=.returned (.string D)/\Below W.heap.size W a:=by
 rw[b];exact iF n 2 W (by omega)
theorem EX (m:Mod)(w:World)(hm:m.ok w)(he:aL m=0):
  Calls Tryz.prog 144 #[m.v] w fun e w'=>e=.returned (.string (bsE (dK m)))/\Below w.heap.size w w':=by
 obtain⟨b1,b2,b3,b4,b5,b6,b7⟩:=uB he
 obtain⟨V,d2⟩:=Nm (w.alloc (.cells #[.string m.name,.int .i64 m.major,.int .i64 m.minor,.string m.text,.slice m.eA m.ex.length m.eC,.slice m.iA m.im.length m.iC,.slice m.pA m.pa.length m.pC] 70))
 obtain⟨e0,e1,e2,e3,e4,e5,e6,hz,r⟩:=wE d2
 obtain⟨eA,d5⟩:=Nm m.eA
 obtain⟨iA,d4⟩:=Nm m.iA
 obtain⟨pA,d3⟩:=Nm m.pA
 rw[<-d5]at e4
 rw[<-d4]at e5
 rw[<-d3]at e6
 have f8:=Hp d5
 have f7:=Hp d4
 have f6:=Hp d3
 have f9:=d2.symm
 have g3:w.heap.size<V.heap.size:=by omega
 have H0:=Hp r
 have HM:=Hp hm
 have f2:=Hp he
 have q:m.text.data.toList.length=m.text.size:=by rw[Array.length_toList];rfl
 obtain⟨N,hN⟩:=Nm (bsE (bL m.name))
 obtain⟨D1,u⟩:=Nm (bsE (digits m.major 1))
 obtain⟨D2,t⟩:=Nm (bsE (digits m.minor 1))
 obtain⟨D3,U⟩:=Nm (bsE (digits m.text.size 2))
 obtain⟨D4,R⟩:=Nm (bsE (digits m.ex.length 1))
 obtain⟨S1,c6⟩:=Nm (bsE (bL m.name++digits m.major 1))
 obtain⟨S2,c5⟩:=Nm (bsE (bL m.name++digits m.major 1++digits m.minor 1))
 obtain⟨S3,c0⟩:=Nm (bsE (bL m.name++digits m.major 1++digits m.minor 1++digits m.text.size 2))
 obtain⟨S4,b9⟩:=Nm (bsE (kG m))
 obtain⟨P1,c9⟩:=Nm (kG m++digits m.ex.length 1)
 have g2:P1.length<=300:=by rw[c9];unfold kG;simp only[GZ8,digits_length,aT,q];omega
 obtain⟨S5,b8⟩:=Nm (bsE P1)
 have a1:=Hp (fA (A:=N) (B:=D1) (S:=S1) (by rw[hN,u,c6]) (by rw[c6];simp only[GZ8,digits_length,aT];omega))
 have a2:=Hp (fA (A:=S1) (B:=D2) (S:=S2) (by rw[c6,t,c5]) (by rw[c5];simp only[GZ8,digits_length,aT];omega))
 have a3:=Hp (fA (A:=S2) (B:=D3) (S:=S3) (by rw[c5,U,c0]) (by rw[c0];simp only[GZ8,digits_length,aT];omega))
 have a4:=Hp (fA (A:=S3) (B:=m.text) (S:=S4) (by rw[c0,b9];rfl) (by rw[b9];unfold kG;simp only[GZ8,digits_length,aT,q];omega))
 have a5:=Hp (fA (A:=S4) (B:=D4) (S:=S5) (by rw[b9,R,b8,c9]) (by rw[b8];simp only;omega))
 have cN:=Hp (fun W=>lQ m.name W b1)
 have c1:=Hp (iQ m.major u)
 have c2:=Hp (iQ m.minor t)
 have c3:=Hp (TW m.text.size U)
 have c4:=Hp (iQ m.ex.length R)
 rw[<-hN]at cN
 have b0:=Hp (show dK m=P1++m.ex.flatMap eX++digits m.im.length 1++m.im.flatMap eG++digits m.pa.length 1++m.pa.flatMap gB by rw[c9];rfl)
 have f5:=Hp b8
 have A1:=a1.out
 have A2:=a2.out
 have A3:=a3.out
 have A4:=a4.out
 have A5:=a5.out
 clear a1 a2 a3 a4 a5 d2 r hm he d5 d4 d3 hN u t U R c6 c5 c0 b9 b8 c9
 have g:=Hp (show fI V (fun h=>Below V.heap.size V h/\h.cell? ⟨w.heap.size,0,none⟩=some (.string m.name)/\h.cell? ⟨w.heap.size,1,none⟩=some (.int .i64 m.major)/\h.cell? ⟨w.heap.size,2,none⟩=some (.int .i64 m.minor)/\h.cell? ⟨w.heap.size,3,none⟩=some (.string m.text)/\h.cell? ⟨w.heap.size,4,none⟩=some (.slice eA m.ex.length m.eC)) from dE (by repeat' first|(with_reducible exact bC.cell (by first|omega|(simp;omega)|(simp only[aA];omega)))|refine bC.and ?_ ?_))
 have a:=Hp (g.now ⟨GZ4 _ _,by assumption,by assumption,by assumption,by assumption,by assumption⟩)
 have c:=Hp g.D
 have b:=Hp g.S
 have d:=Hp g.A
 have k:=Hp g.X
 have y:=Hp g.L
 go_enter Tryz.func144,Tryz.ntmps144
 go_wp2_with fail
 go_region_held3 (fun h=>Below V.heap.size V h/\h.cell? ⟨w.heap.size,0,none⟩=some (.string m.name)/\h.cell? ⟨w.heap.size,1,none⟩=some (.int .i64 m.major)/\h.cell? ⟨w.heap.size,2,none⟩=some (.int .i64 m.minor)/\h.cell? ⟨w.heap.size,3,none⟩=some (.string m.text)/\h.cell? ⟨w.heap.size,4,none⟩=some (.slice eA m.ex.length m.eC)) (first|exact a.out|exact c.out _ a.out|exact b.out _ _ (by assumption) (by assumption)|exact b.out _ _ a.out (by assumption)|exact b.out _ _ (c.out _ a.out) (by assumption)|exact b.out _ _ (c.out _ (by assumption)) (by assumption)|exact c.out _ (by assumption)|exact d.out _ _ (by assumption)|exact d.out _ _ a.out|exact d.out _ _ (c.out _ a.out)|exact c.out _ (d.out _ _ (by assumption))|exact d.out _ _ (b.out _ _ a.out (by assumption))|exact d.out _ _ (b.out _ _ (c.out _ a.out) (by assumption))|exact k.out _ _ _ _ (GZ3 _) (by assumption)|exact k.out _ _ _ _ (GZ3 _) (b.out _ _ (d.out _ _ a.out) (by assumption))|exact k.out _ _ _ _ (GZ3 _) (b.out _ _ (c.out _ (d.out _ _ a.out)) (by assumption))|assumption) (first|(go_at_call 206;refine(cN.out _).mono ?_;rintro e w2 ⟨rfl,z⟩)|(go_at_call 143;(first|with_reducible refine(c1.out _).mono ?_|with_reducible refine(c2.out _).mono ?_|with_reducible refine(c3.out _).mono ?_|with_reducible refine(c4.out _).mono ?_);rintro e w2 ⟨rfl,z⟩))
 have B5:=Hp (y.out _ (by assumption))
 clear a c b d y cN c1 c2 c3 c4 A1 A2 A3 A4 A5
 go_wp2_with fail
 go_loopw [3,4] (fun v i wr=>∃(j:Nat),j<=m.ex.length/\i=.int .i64 j/\v=.string (bsE (P1++(m.ex.take j).flatMap eX))/\Below V.heap.size V wr) (fun _ i _=>m.ex.length -(intOf i).toNat)
 case atStart=>exact⟨0,by omega,rfl,by rw[f5.out];simp,B5.out⟩
 case round=>
  obtain⟨j,hj,rfl,rfl,r⟩:=hrel
  have HB:=Hp r
  have P:=r.size
  have HX:=Hp (show Below w.heap.size w wr from H0.trans (r.mono (by omega)))
  have r4:=(r.cell (p:=⟨w.heap.size,4,none⟩) (by simp;omega)).trans e4
  have s:=kF (f:=eX) (K:=13) (l:=m.ex.take (j+1)) (fun x O=>b6 x (List.mem_of_mem_take O))
  rw[GY6]at s
  obtain⟨S,C⟩:=Nm (bsE (P1++(m.ex.take j).flatMap eX))
  rw[<-C]
  by_cases n:j<m.ex.length
  ·have d0:(j:Int)<m.ex.length:=by omega
   obtain⟨Z,I,e9,h0,h1⟩:=mF HM.ex.1 HX.out j n
   obtain rfl:eA=some Z:=f8.trans I
   have hE:=Sm (f:=eX) n
   have O:=b6 (m.ex[j]'n) (GZ9 _)
   obtain⟨x,H⟩:=Nm (m.ex[j]'n)
   rw[<-H]at h0 h1 hE O
   rw[lS]at O
   obtain⟨T,q⟩:=Nm (bsE (P1++(m.ex.take (j+1)).flatMap eX))
   obtain⟨N,hN⟩:=Nm (bsE (bL x.name))
   obtain⟨D,hD⟩:=Nm (bsE (digits x.at_ 2))
   obtain⟨E,o⟩:=Nm (bsE (eX x))
   have A1:=fA (A:=N) (B:=D) (S:=E) (by rw[hN,hD,o];rfl) (by rw[o];show(eX x).length<=_;rw[lS];omega)
   have A2:=fA (A:=S) (B:=E) (S:=T) (by rw[C,o,q,hE];simp) (by rw[q];show(P1++_).length<=_;rw[GZ8];omega)
   have cN:=Hp (fun W=>lQ x.name W (by omega))
   have cD:=Hp (TW x.at_ hD)
   rw[<-hN]at cN
   have HT:=Hp q
   have g4:(Z.add (j*2)).block<wr.heap.size:=by rw[aA];have:=HX.size;omega
   have e8:w.heap.size<wr.heap.size:=by omega
   clear r s hE O H q hN hD o C I
   have g:=Hp (show fI wr (fun h=>Below wr.heap.size wr h/\h.cell? ⟨w.heap.size,4,none⟩=some (.slice (some Z) m.ex.length m.eC)/\h.cell? (Z.add (j*2))=some (.string x.name)/\h.cell? ⟨(Z.add (j*2)).block,(Z.add (j*2)).off+1,none⟩=some (.int .i64 x.at_)) from dE (by repeat' first|(with_reducible exact bC.cell (by first|omega|(simp;omega)|(simp only[aA];omega)))|refine bC.and ?_ ?_))
   have a:=Hp (g.now ⟨GZ4 _ _,by assumption,by assumption,by assumption⟩)
   have c:=Hp g.D
   have b:=Hp g.S
   have d:=Hp g.A
   have k:=Hp g.X
   have y:=Hp g.L
   go_wp2_with fail
   go_region_held3 (fun h=>Below wr.heap.size wr h/\h.cell? ⟨w.heap.size,4,none⟩=some (.slice (some Z) m.ex.length m.eC)/\h.cell? (Z.add (j*2))=some (.string x.name)/\h.cell? ⟨(Z.add (j*2)).block,(Z.add (j*2)).off+1,none⟩=some (.int .i64 x.at_)) (first|exact a.out|exact c.out _ a.out|exact b.out _ _ (by assumption) (by assumption)|exact b.out _ _ a.out (by assumption)|exact b.out _ _ (c.out _ a.out) (by assumption)|exact b.out _ _ (c.out _ (by assumption)) (by assumption)|exact c.out _ (by assumption)|exact d.out _ _ (by assumption)|exact d.out _ _ a.out|exact d.out _ _ (c.out _ a.out)|exact c.out _ (d.out _ _ (by assumption))|exact d.out _ _ (b.out _ _ a.out (by assumption))|exact d.out _ _ (b.out _ _ (c.out _ a.out) (by assumption))|exact k.out _ _ _ _ (GZ3 _) (by assumption)|exact k.out _ _ _ _ (GZ3 _) (b.out _ _ (d.out _ _ a.out) (by assumption))|exact k.out _ _ _ _ (GZ3 _) (b.out _ _ (c.out _ (d.out _ _ a.out)) (by assumption))|assumption) (first|(go_at_call 206;with_reducible refine(cN.out _).mono ?_;rintro e w2 ⟨rfl,z⟩)|(go_at_call 143;with_reducible refine(cD.out _).mono ?_;rintro e w2 ⟨rfl,z⟩))
   have B6:=Hp (y.out _ (by assumption))
   clear a c b d y cN cD A1 A2
   go_wp2_with fail
   go_roundw
   case rel=>exact⟨j+1,by omega,by go_num,by rw[HT.out],HB.trans (B6.mono P)⟩
   case measure=>(simp[intOf];try omega)
  ·have J:m.ex.take j=m.ex:=List.take_of_length_le (by omega)
   rw[J]at C
   have a6:=kF (f:=eX) (K:=13) (l:=m.ex) b6
   obtain⟨P2,c8⟩:=Nm (P1++m.ex.flatMap eX++digits m.im.length 1)
   have g1:P2.length<=400:=by rw[c8,GZ8,GZ8,digits_length];omega
   obtain⟨D,hD⟩:=Nm (bsE (digits m.im.length 1))
   obtain⟨T,q⟩:=Nm (bsE P2)
   have A1:=fA (A:=S) (B:=D) (S:=T) (by rw[C,hD,q,c8]) (by rw[q];show P2.length<=_;omega)
   have cD:=Hp (iQ m.im.length hD)
   have r5:=(r.cell (p:=⟨w.heap.size,5,none⟩) (by simp;omega)).trans e5
   rw[<-c8]at b0
   have HT:=Hp q
   clear J s r C hD q c8 a6
   go_wp2_with (go_at_call 143;with_reducible refine(cD.out _).mono ?_;rintro e w2 ⟨rfl,z⟩;have B7:=Hp (HB.out.trans (z.mono P)))
   go_loopw [3,5] (fun v i wr=>∃(j:Nat),j<=m.im.length/\i=.int .i64 j/\v=.string (bsE (P2++(m.im.take j).flatMap eG))/\Below V.heap.size V wr) (fun _ i _=>m.im.length -(intOf i).toNat)
   case atStart=>exact⟨0,by omega,rfl,by rw[HT.out];simp,B7.out⟩
   clear A1 cD HB r5 B7 HX r4
   case round=>
    obtain⟨j,hj,rfl,rfl,r⟩:=hrel
    have HB:=Hp r
    have P:=r.size
    have HX:=Hp (show Below w.heap.size w wr from H0.trans (r.mono (by omega)))
    have r5:=(r.cell (p:=⟨w.heap.size,5,none⟩) (by simp;omega)).trans e5
    have s:=kF (f:=eG) (K:=24) (l:=m.im.take (j+1)) (fun x O=>b7 x (List.mem_of_mem_take O))
    rw[GY6]at s
    obtain⟨S,C⟩:=Nm (bsE (P2++(m.im.take j).flatMap eG))
    rw[<-C]
    by_cases n:j<m.im.length
    ·have d0:(j:Int)<m.im.length:=by omega
     obtain⟨Z,I,e9,h0,h1,h2,h3⟩:=TA HM.im.1 HX.out j n
     obtain rfl:iA=some Z:=f7.trans I
     have hE:=Sm (f:=eG) n
     have O:=Ug (kX (aY f2.out).2.2.2.2.2.2.2.2.2.1 (m.im[j]'n) (GZ9 _))
     obtain⟨x,H⟩:=Nm (m.im[j]'n)
     rw[<-H]at h0 h1 h2 h3 hE O
     have z1:=RZ O.1
     have z2:=RZ O.2.1
     obtain⟨T,q⟩:=Nm (bsE (P2++(m.im.take (j+1)).flatMap eG))
     obtain⟨N1,d7⟩:=Nm (bsE (bL x.mod))
     obtain⟨N2,d6⟩:=Nm (bsE (bL x.name))
     obtain⟨D1,u⟩:=Nm (bsE (digits x.major 1))
     obtain⟨D2,t⟩:=Nm (bsE (digits x.minor 1))
     obtain⟨E1,G⟩:=Nm (bsE (bL x.mod++bL x.name))
     obtain⟨E2,F⟩:=Nm (bsE (bL x.mod++bL x.name++digits x.major 1))
     obtain⟨E,o⟩:=Nm (bsE (eG x))
     have f3:(eG x).length<=24:=by rw[nW];omega
     have A1:=fA (A:=N1) (B:=N2) (S:=E1) (by rw[d7,d6,G]) (by rw[G];show(bL x.mod++bL x.name).length<=_;rw[GZ8,aT,aT];omega)
     have A2:=fA (A:=E1) (B:=D1) (S:=E2) (by rw[G,u,F]) (by rw[F];show(bL x.mod++bL x.name++digits x.major 1).length<=_;rw[GZ8,GZ8,aT,aT,digits_length];omega)
     have A3:=fA (A:=E2) (B:=D2) (S:=E) (by rw[F,t,o];rfl) (by rw[o];show(eG x).length<=_;omega)
     have A4:=fA (A:=S) (B:=E) (S:=T) (by rw[C,o,q,hE];simp) (by rw[q];show(P2++_).length<=_;rw[GZ8];omega)
     have d9:=Hp (fun W=>lQ x.mod W z1)
     have d8:=Hp (fun W=>lQ x.name W z2)
     have a9:=Hp (iQ x.major u)
     have a8:=Hp (iQ x.minor t)
     rw[<-d7]at d9
     rw[<-d6]at d8
     have HT:=Hp q
     obtain⟨M,Q⟩:=Nm (wr.alloc (.cells #[.string x.mod,.string x.name,.int .i64 x.major,.int .i64 x.minor] 173))
     obtain⟨x0,x1,x2,x3,d1,a7⟩:=oJ Q
     have e7:=Q.symm
     have e8:wr.heap.size<M.heap.size:=by omega
     have BX:=Hp (HB.trans (a7.mono P))
     have a0:V.heap.size<=M.heap.size:=by omega
     clear r s hE O H q d7 d6 u t G F o C I Q d1 a7 z1 z2 f3
     have g:=Hp (show fI M (fun h=>Below M.heap.size M h/\h.cell? ⟨wr.heap.size,0,none⟩=some (.string x.mod)/\h.cell? ⟨wr.heap.size,1,none⟩=some (.string x.name)/\h.cell? ⟨wr.heap.size,2,none⟩=some (.int .i64 x.major)/\h.cell? ⟨wr.heap.size,3,none⟩=some (.int .i64 x.minor)) from dE (by repeat' first|(with_reducible exact bC.cell (by first|omega|(simp;omega)|(simp only[aA];omega)))|refine bC.and ?_ ?_))
     have a:=Hp (g.now ⟨GZ4 _ _,by assumption,by assumption,by assumption,by assumption⟩)
     have c:=Hp g.D
     have b:=Hp g.S
     have d:=Hp g.A
     have k:=Hp g.X
     have y:=Hp g.L
     go_wp2_with fail
     go_region_held3 (fun h=>Below M.heap.size M h/\h.cell? ⟨wr.heap.size,0,none⟩=some (.string x.mod)/\h.cell? ⟨wr.heap.size,1,none⟩=some (.string x.name)/\h.cell? ⟨wr.heap.size,2,none⟩=some (.int .i64 x.major)/\h.cell? ⟨wr.heap.size,3,none⟩=some (.int .i64 x.minor)) (first|exact a.out|exact c.out _ a.out|exact b.out _ _ (by assumption) (by assumption)|exact b.out _ _ a.out (by assumption)|exact b.out _ _ (c.out _ a.out) (by assumption)|exact b.out _ _ (c.out _ (by assumption)) (by assumption)|exact c.out _ (by assumption)|exact d.out _ _ (by assumption)|exact d.out _ _ a.out|exact d.out _ _ (c.out _ a.out)|exact c.out _ (d.out _ _ (by assumption))|exact d.out _ _ (b.out _ _ a.out (by assumption))|exact d.out _ _ (b.out _ _ (c.out _ a.out) (by assumption))|exact k.out _ _ _ _ (GZ3 _) (by assumption)|exact k.out _ _ _ _ (GZ3 _) (b.out _ _ (d.out _ _ a.out) (by assumption))|exact k.out _ _ _ _ (GZ3 _) (b.out _ _ (c.out _ (d.out _ _ a.out)) (by assumption))|assumption) (first|(go_at_call 206;(first|with_reducible refine(d9.out _).mono ?_|with_reducible refine(d8.out _).mono ?_);rintro e w2 ⟨rfl,z⟩)|(go_at_call 143;(first|with_reducible refine(a9.out _).mono ?_|with_reducible refine(a8.out _).mono ?_);rintro e w2 ⟨rfl,z⟩))
     have B6:=Hp (y.out _ (by assumption))
     clear a c b d y d9 d8 a9 a8 A1 A2 A3 A4
     go_wp2_with fail
     go_roundw
     case rel=>exact⟨j+1,by omega,by go_num,by rw[HT.out],BX.trans (B6.mono a0)⟩
     case measure=>(simp[intOf];try omega)
    ·have J:m.im.take j=m.im:=List.take_of_length_le (by omega)
     rw[J]at C
     have a6:=kF (f:=eG) (K:=24) (l:=m.im) b7
     obtain⟨P3,c7⟩:=Nm (P2++m.im.flatMap eG++digits m.pa.length 1)
     have g0:P3.length<=600:=by rw[c7,GZ8,GZ8,digits_length];omega
     obtain⟨D,hD⟩:=Nm (bsE (digits m.pa.length 1))
     obtain⟨T,q⟩:=Nm (bsE P3)
     have A1:=fA (A:=S) (B:=D) (S:=T) (by rw[C,hD,q,c7]) (by rw[q];show P3.length<=_;omega)
     have cD:=Hp (iQ m.pa.length hD)
     have r6:=(r.cell (p:=⟨w.heap.size,6,none⟩) (by simp;omega)).trans e6
     rw[<-c7]at b0
     have HT:=Hp q
     clear J s r C hD q c7 a6
     go_wp2_with (go_at_call 143;with_reducible refine(cD.out _).mono ?_;rintro e w2 ⟨rfl,z⟩;have B7:=Hp (HB.out.trans (z.mono P)))
     go_loopw [3,7] (fun v i wr=>∃(j:Nat),j<=m.pa.length/\i=.int .i64 j/\v=.string (bsE (P3++(m.pa.take j).flatMap gB))/\Below V.heap.size V wr) (fun _ i _=>m.pa.length -(intOf i).toNat)
     case atStart=>exact⟨0,by omega,rfl,by rw[HT.out];simp,B7.out⟩
     clear A1 cD HB r6 B7 HX r5
     case round=>
      obtain⟨j,hj,rfl,rfl,r⟩:=hrel
      have HB:=Hp r
      have P:=r.size
      have HX:=Hp (show Below w.heap.size w wr from H0.trans (r.mono (by omega)))
      have r6:=(r.cell (p:=⟨w.heap.size,6,none⟩) (by simp;omega)).trans e6
      have s:=kF (f:=gB) (K:=6) (l:=m.pa.take (j+1)) (fun x _=>by rw[lK];omega)
      rw[GY6]at s
      obtain⟨S,C⟩:=Nm (bsE (P3++(m.pa.take j).flatMap gB))
      rw[<-C]
      by_cases n:j<m.pa.length
      ·have d0:(j:Int)<m.pa.length:=by omega
       obtain⟨Z,I,e9,h0,h1,h2,h3⟩:=qE HM.pa.1 HX.out j n
       obtain rfl:pA=some Z:=f6.trans I
       have hE:=Sm (f:=gB) n
       have O:=Gx f2.out (m.pa[j]'n) (GZ9 _)
       obtain⟨x,H⟩:=Nm (m.pa[j]'n)
       rw[<-H]at h0 h1 h2 h3 hE O
       obtain⟨T,q⟩:=Nm (bsE (P3++(m.pa.take (j+1)).flatMap gB))
       obtain⟨Y,hY⟩:=Nm (x.sym+1)
       have q1:IntKind.i64.wrap (x.sym+1)=Y:=by rw[hY];exact IntWalk.i64_in _ (by omega)
       obtain⟨D1,u⟩:=Nm (bsE (digits x.kind 1))
       obtain⟨D2,t⟩:=Nm (bsE (digits x.at_ 2))
       obtain⟨D3,U⟩:=Nm (bsE (digits Y 1))
       obtain⟨D4,R⟩:=Nm (bsE (digits x.add 2))
       obtain⟨E1,G⟩:=Nm (bsE (digits x.kind 1++digits x.at_ 2))
       obtain⟨E2,F⟩:=Nm (bsE (digits x.kind 1++digits x.at_ 2++digits Y 1))
       obtain⟨E,o⟩:=Nm (bsE (gB x))
       have A1:=fA (A:=D1) (B:=D2) (S:=E1) (by rw[u,t,G]) (by rw[G];show(digits x.kind 1++digits x.at_ 2).length<=_;rw[GZ8,digits_length,digits_length];omega)
       have A2:=fA (A:=E1) (B:=D3) (S:=E2) (by rw[G,U,F]) (by rw[F];show(digits x.kind 1++digits x.at_ 2++digits Y 1).length<=_;rw[GZ8,GZ8,digits_length,digits_length,digits_length];omega)
       have A3:=fA (A:=E2) (B:=D4) (S:=E) (by rw[F,R,o,hY];rfl) (by rw[o];show(gB x).length<=_;rw[lK];omega)
       have A4:=fA (A:=S) (B:=E) (S:=T) (by rw[C,o,q,hE];simp) (by rw[q];show(P3++_).length<=_;rw[GZ8];omega)
       have a9:=Hp (iQ x.kind u)
       have a8:=Hp (TW x.at_ t)
       have f1:=Hp (iQ Y U)
       have f0:=Hp (TW x.add R)
       have HT:=Hp q
       obtain⟨M,Q⟩:=Nm (wr.alloc (.cells #[.int .i64 x.kind,.int .i64 x.at_,.int .i64 x.sym,.int .i64 x.add] 180))
       obtain⟨x0,x1,x2,x3,d1,a7⟩:=oJ Q
       have e7:=Q.symm
       have e8:wr.heap.size<M.heap.size:=by omega
       have BX:=Hp (HB.trans (a7.mono P))
       have a0:V.heap.size<=M.heap.size:=by omega
       clear r s hE O H q u t U R G F o C I Q d1 a7 hY
       have g:=Hp (show fI M (fun h=>Below M.heap.size M h/\h.cell? ⟨wr.heap.size,0,none⟩=some (.int .i64 x.kind)/\h.cell? ⟨wr.heap.size,1,none⟩=some (.int .i64 x.at_)/\h.cell? ⟨wr.heap.size,2,none⟩=some (.int .i64 x.sym)/\h.cell? ⟨wr.heap.size,3,none⟩=some (.int .i64 x.add)) from dE (by repeat' first|(with_reducible exact bC.cell (by first|omega|(simp;omega)|(simp only[aA];omega)))|refine bC.and ?_ ?_))
       have a:=Hp (g.now ⟨GZ4 _ _,by assumption,by assumption,by assumption,by assumption⟩)
       have c:=Hp g.D
       have b:=Hp g.S
       have d:=Hp g.A
       have k:=Hp g.X
       have y:=Hp g.L
       go_wp2_with fail
       go_region_held3 (fun h=>Below M.heap.size M h/\h.cell? ⟨wr.heap.size,0,none⟩=some (.int .i64 x.kind)/\h.cell? ⟨wr.heap.size,1,none⟩=some (.int .i64 x.at_)/\h.cell? ⟨wr.heap.size,2,none⟩=some (.int .i64 x.sym)/\h.cell? ⟨wr.heap.size,3,none⟩=some (.int .i64 x.add)) (first|exact a.out|exact c.out _ a.out|exact b.out _ _ (by assumption) (by assumption)|exact b.out _ _ a.out (by assumption)|exact b.out _ _ (c.out _ a.out) (by assumption)|exact b.out _ _ (c.out _ (by assumption)) (by assumption)|exact c.out _ (by assumption)|exact d.out _ _ (by assumption)|exact d.out _ _ a.out|exact d.out _ _ (c.out _ a.out)|exact c.out _ (d.out _ _ (by assumption))|exact d.out _ _ (b.out _ _ a.out (by assumption))|exact d.out _ _ (b.out _ _ (c.out _ a.out) (by assumption))|exact k.out _ _ _ _ (GZ3 _) (by assumption)|exact k.out _ _ _ _ (GZ3 _) (b.out _ _ (d.out _ _ a.out) (by assumption))|exact k.out _ _ _ _ (GZ3 _) (b.out _ _ (c.out _ (d.out _ _ a.out)) (by assumption))|assumption) (first|(go_at_call 143;(first|with_reducible refine(a9.out _).mono ?_|with_reducible refine(a8.out _).mono ?_|with_reducible refine(f1.out _).mono ?_|with_reducible refine(f0.out _).mono ?_);rintro e w2 ⟨rfl,z⟩))
       have B6:=Hp (y.out _ (by assumption))
       clear a c b d y a9 a8 f1 f0 A1 A2 A3 A4
       go_wp2_with fail
       go_roundw
       case rel=>exact⟨j+1,by omega,by go_num,by rw[HT.out],BX.trans (B6.mono a0)⟩
       case measure=>(simp[intOf];try omega)
      ·have J:m.pa.take j=m.pa:=List.take_of_length_le (by omega)
       rw[J]at C
       have f4:=Hp (show S=bsE (dK m) by rw[C,b0.out])
       clear J s r C
       go_wp2_with fail
       go_ret
       exact⟨by rw[<-f4.out];rfl,H0.trans (HB.mono (by omega))⟩
end
section
open Go.RowKit
theorem Ki {w:World}{a:Addr}{v:Value}(h:w.cell? a=some v):a.spot=none:=by
 unfold World.cell? at h
 split at h
 ·split at h
  ·cases h
  ·next b=>simpa using b
 ·cases h
theorem BV {w:World}{A:Option Addr}{l:List ByteArray}(h:Row strCells 1 w A l)(n:0<l.length):∃b a,A=some ⟨b,a,none⟩/\b<w.heap.size/\∀(j:Nat)x,l[j]? =some x->w.cell? ⟨b,a+j,none⟩=some (.string x):=by
 obtain⟨i,rfl,d,g⟩:=nT h (GZ4 _ _) 0 n
 rw[add_zero_]at g
 have m:=Ki g
 obtain⟨b,a,k⟩:=i
 obtain rfl:k=none:=m
 refine⟨b,a,rfl,d,fun j x c=>?_⟩
 obtain⟨o,c⟩:=List.getElem?_eq_some_iff.1 c
 obtain⟨i,e,_,f⟩:=nT h (GZ4 _ _) j o
 obtain rfl:=GY3 e
 rw[c]at f
 rw[<-f]
 congr 1
 unfold Addr.add
 split
 ·next h=>rw[h,Nat.add_zero]
 ·rfl
theorem Cy (l:List ByteArray):Lib.join (l.map (·.data.toList)) (⟨#[]⟩:ByteArray).data.toList=flat l:=by
 cases l with
 |nil=>rfl
 |cons x l=>
  rw[List.map_cons,Lib.join_cons]
  unfold Lib.joinTail flat
  rw[List.flatMap_cons,List.flatMap_def]
  simp
  rfl
theorem wZ :∀n,Lib.repeatL [255] n=List.replicate n 255
 |0=>rfl
 |n+1=>by rw[Lib.repeatL,wZ n,List.replicate_succ];rfl
theorem Co (A:Option Addr)(l:List ByteArray)(c:Nat)(w:World)(h:Row strCells 1 w A l)(p:0<l.length)(t:l.length<=1000000):
  Calls Tryz.prog 149 #[.slice A l.length c] w fun e d=>Below w.heap.size w d/\∃(f:Option Addr)(a:Nat),e=.returned (.slice f l.length a)/\l.length<=a/\dA d w.heap.size (.slice f l.length a) l:=by
 obtain⟨b,g,rfl,u,s⟩:=BV h p
 have o:=Tryz.slices_Clone_string b g l.length c l w (GZ3 _) (by omega) (fun j q=>by
  refine s j _ ?_
  rw[List.getD_eq_getElem?_getD,GY5 q];rfl)
 refine Calls.mono o ?_
 rintro e d ⟨v,r,i,_,m⟩
 rw[List.take_of_length_le (GZ3 _)]at i
 obtain⟨f,a,n,_,k⟩:=dA.form (show dA d w.heap.size v l from i)
 subst n
 exact⟨m,f,a,r,k,i⟩
theorem Lc (w:World):Calls Tryz.prog 148 #[] w fun e c=>e=.returned (.string blank)/\Below w.heap.size w c:=by
 have b:=Hp (fun W=>Tryz.strings_Repeat ⟨#[255]⟩ 128 W (by decide) (by decide))
 have a:(⟨(Lib.repeatL (⟨#[255]⟩:ByteArray).data.toList 128).toArray⟩:ByteArray)=blank:=by
  show(⟨(Lib.repeatL [255] 128).toArray⟩:ByteArray)=_
  rw[wZ];rfl
 rw[a]at b
 obtain⟨B,d⟩:=Nm blank
 rw[<-d]at b ⊢
 clear d a
 go_enter Tryz.func148,Tryz.ntmps148
 go_wp2_with (go_at_call 166;refine(b.out _).mono ?_;rintro e c ⟨rfl,a⟩)
 go_ret
 exact⟨rfl,a⟩
theorem LB (f:Fl)(w:World)(h:f.ok w)(s:bP f.bl=0):Calls Tryz.prog 167 #[f.v] w fun e r=>e=.returned (.string (ofBytes (flat f.bl)))/\Below w.heap.size w r:=by
 obtain⟨D,y⟩:=fP.1 s
 obtain⟨b,i,o,C,t⟩:=BV h.row.row (by omega)
 obtain⟨z,d⟩:=Nm (w.alloc (.cells #[.slice f.a f.bl.length f.c] 29))
 obtain⟨E,A,g⟩:=Ui d
 have k:=d.symm
 have q:=Hp g
 have m:=mP y
 have l:=Hp (Tryz.strings_Join b i f.c f.bl ⟨#[]⟩ z (fun j x B=>(g.cell (p:=⟨b,i+j,none⟩) C).trans (t j x B)) (by omega) (by omega) h.cap (by rw[Cy];omega))
 rw[Cy]at l
 rw[o]at E k
 obtain⟨R,u⟩:=Nm (ofBytes (flat f.bl))
 change Hid (Calls _ _ _ _ fun e r=>e=.returned (.string (ofBytes (flat f.bl)))/\_)at l
 rw[<-u]at l ⊢
 unfold Fl.v
 rw[o]
 clear d g h s D y m u t o
 go_enter Tryz.func167,Tryz.ntmps167
 go_wp2_with (go_at_call 228;refine(l.out).mono ?_;rintro e F ⟨rfl,n⟩)
 go_ret
 exact⟨rfl,q.trans (n.mono (by omega))⟩
theorem Om (c:Nat)(i:c<=32)(w:World):Calls Tryz.prog 211 #[.int .u64 1,.int .u64 c] w fun e a=>e=.returned (.tuple #[.int .u64 0,.int .u64 c])/\w=a:=by
 have h:=Tryz.bits_Mul 1 c (by omega) (by omega) w
 have g:1*c / 18446744073709551616=0:=by omega
 have f:1*c % 18446744073709551616=c:=by omega
 rw[g,f]at h
 exact Calls.mono h fun e a ⟨d,b⟩=>⟨d,b.symm⟩
def filled (s:ByteArray)(c n:Nat):List Value:=List.replicate n (.string s)++List.replicate (c -n) (.string ⟨#[]⟩)
theorem tV {s:ByteArray}{c n:Nat}(h:n<=c):(filled s c n).length=c:=by simp[filled];omega
theorem Hu (s:ByteArray)(c:Nat):madeCells #[Value.string ⟨#[]⟩] c=(filled s c 0).toArray:=by
 apply Array.ext
 ·simp[size_madeCells,filled]
 ·intro i b a
  simp[madeCells,filled,Nat.mod_one]
theorem sV (s:ByteArray)(c n k:Nat)(h:n+k<=c):splice (filled s c n) n (List.replicate k (.string s))=filled s c (n+k):=by
 unfold splice filled
 simp only[List.length_replicate]
 rw[List.take_append_of_le_length (by simp),List.take_of_length_le (by simp),List.drop_append]
 rw[List.drop_eq_nil_of_le (by simp),List.nil_append,List.drop_replicate,List.length_replicate,<-List.append_assoc,List.replicate_append_replicate]
 congr 2
 omega
theorem Ie (s:ByteArray)(c n j:Nat)(h:j<n):(filled s c n)[j]? =some (.string s):=by
 unfold filled
 rw[List.getElem?_append_left (by simpa using h),List.getElem?_replicate,if_pos h]
end
section
open Go.RowKit
theorem jG {w a:World}{v:Value}{t:TypeId}(h:a=w.alloc (.cells #[v] t)):a.cell? ⟨w.heap.size,0,none⟩=some v/\a.heap[w.heap.size]? =some (.cells #[v] t (0,0))/\a.heap.size=w.heap.size+1/\Below w.heap.size w a:=by
 obtain⟨d,c,b⟩:=Ui h
 exact⟨d,by rw[h];exact heap_alloc_new _ _,c,b⟩
theorem Tryz.jI :(Tryz.prog.info? 29).map (·.size)=some 1:=by kernel_rfl
def nV (l:List UInt8)(p:Nat->Nat)(j:Nat):List UInt8:=l.mapIdx fun i x=>if i<j then UInt8.ofNat (x.toNat |||p i)else x
theorem Fu (l:List UInt8)(p:Nat->Nat)(j:Nat):(nV l p j).length=l.length:=by simp[nV]
theorem Kh (l:List UInt8)(p:Nat->Nat):nV l p 0=l:=by
 apply List.ext_getElem
 ·simp[nV]
 ·intro i b a;simp[nV]
theorem OX (l:List UInt8)(p:Nat->Nat):nV l p l.length=Ta l p:=by
 apply List.ext_getElem
 ·simp[nV,Ta]
 ·intro i a b
  have:i<l.length:=by simpa[nV]using a
  simp[nV,Ta,this]
theorem Mo (l:List UInt8)(p:Nat->Nat)(j:Nat):(nV l p j).getD j 0=l.getD j 0:=by
 rw[List.getD_eq_getElem?_getD,List.getD_eq_getElem?_getD]
 unfold nV
 rw[List.getElem?_mapIdx]
 cases l[j]?<;>simp
theorem LH (l:List UInt8)(p:Nat->Nat)(j:Nat):(nV l p j).set j (UInt8.ofNat ((l.getD j 0).toNat |||p j))=nV l p (j+1):=by
 apply List.ext_getElem
 ·simp[nV]
 ·intro i c b
  have a:i<l.length:=by simpa[nV]using b
  rw[List.getElem_set]
  by_cases e:j=i
  ·subst e
   rw[if_pos rfl]
   simp[nV,List.getD_eq_getElem?_getD,GY5 a]
  ·rw[if_neg e]
   simp only[nV,List.getElem_mapIdx]
   by_cases h:i<j
   ·rw[if_pos h,if_pos (by omega)]
   ·rw[if_neg h,if_neg (by omega)]
theorem J7 (A:Option Addr)(c:Nat)(E:List ByteArray)(K P V:Int)(g:Nat)(lb:Array Value)(p:Nat->Nat)(w:World)(eg:∀c8 w,(callFunc g c8).run Tryz.prog w=.ok (.enter g c8) w)
  (h:jK w A E) (hf:bP E=0) (hd:eB E.length ⟨K,P,V⟩=0)
  (hp:∀i W,i<128->Below w.heap.size w W->Calls Tryz.prog g (#[.int .i64 (i:Int)]++lb) W fun e w'=>e=.returned (.int .u8 (p i:Nat))/\w'=W) (a1:∀i,p i<256):
  Calls Tryz.prog 98 #[.agg #[.slice A E.length c],.agg #[.int .i64 K,.int .i64 P,.int .i64 V],.func (.func g) #[] lb] w fun e w'=>Below w.heap.size w w'/\∃(A':Option Addr)(c':Nat),e=.returned (.agg #[.slice A' E.length c'])/\E.length<=c'/\dA w' w.heap.size (.slice A' E.length c') (fB E ⟨K,P,V⟩ p):=by
 obtain⟨g1,h2⟩:=fP.1 hf
 obtain⟨w1,d4⟩:=Nm (w.alloc (.cells #[.slice A E.length c] 29))
 obtain⟨f0,h0,g3⟩:=Ui d4
 obtain⟨w2,d3⟩:=Nm (w1.alloc (.cells #[.int .i64 K,.int .i64 P,.int .i64 V] 60))
 obtain⟨d0,d1,d2,c9,c0⟩:=uE d3
 obtain⟨w3,b4⟩:=Nm (w2.alloc (.cells #[.slice none 0 0] 29))
 obtain⟨r0,b,T⟩:=Ui b4
 rw[h0]at d0 d1 d2 c9 c0
 rw[c9]at b T r0
 have k0:=(T.cell (p:=⟨w.heap.size,0,none⟩) (by simp;omega)).trans ((c0.cell (p:=⟨w.heap.size,0,none⟩) (by simp)).trans f0)
 have b0:=Hp (g3.trans ((c0.mono (by omega)).trans (T.mono (by omega))))
 have f7:=h.row.below b0.out
 have cC:=Hp (Co A E c w3 f7 (by omega) (by omega))
 have hR:w3.heap[w.heap.size+1+1]? =some (.cells #[.slice none 0 0] 29 (0,0)):=by
  have:=heap_alloc_new w2 (.cells #[.slice none 0 0] 29)
  rw[c9]at this
  rw[b4];exact this
 have HR:=Hp hR
 have e0:=(T.cell (p:=⟨w.heap.size+1,0,none⟩) (by simp)).trans d0
 have e1:=(T.cell (p:=⟨w.heap.size+1,1,none⟩) (by simp)).trans d1
 have e2:=(T.cell (p:=⟨w.heap.size+1,2,none⟩) (by simp)).trans d2
 have c3:=d4.symm
 have i0:=d3.symm
 have h9:=b4.symm
 have G:=Hp b
 have HP:=Hp hp
 have g8:=Hp a1
 have H2:=Hp h2
 clear d4 d3 b4 g3 c0 T f0 d0 d1 d2 r0 b hR hp a1 h2 h f7
 rcases xY hd with⟨hk,hn,hj,hP,g5,hV⟩|⟨hk,hn,hP,hV⟩
 ·simp only at hk hn hj hP g5 hV
  obtain⟨N,rfl⟩:∃N:Nat,P=N:=⟨P.toNat,by omega⟩
  obtain⟨U,rfl⟩:∃U:Nat,V=U:=⟨V.toNat,by omega⟩
  subst hk
  obtain⟨n,M⟩:=Nm E.length
  rw[<-M]at cC c3 k0 g1 hn ⊢
  have HN:=Hp M
  clear hd hf g5 hj hP M
  obtain⟨q,hq⟩:∃q:Nat,q=N / 128:=⟨_,rfl⟩
  obtain⟨r,hr⟩:∃r:Nat,r=N % 128:=⟨_,rfl⟩
  have L:q<n:=by omega
  have f8:r<128:=by omega
  have q1:N / 128=q:=hq.symm
  have q2:(N:Int) / 128=q:=by omega
  have r1:N % 128=r:=hr.symm
  have r2:(N:Int) % 128=r:=by omega
  have r3:(N:Int).tmod 128=r:=by rw[Int.tmod_eq_emod_of_nonneg (by omega)];exact r2
  obtain⟨D,s⟩:=Nm (E.getD q ⟨#[]⟩)
  have a5:D.size=128:=by rw[s];exact H2.out _ (TP (by rw[<-HN.out];exact L))
  obtain⟨x,hx⟩:∃x:Nat,x=((bytesOf D).getD r 0).toNat:=⟨_,rfl⟩
  have k:x<256:=by rw[hx];exact kJ _
  have g6:U<256:=by omega
  have qU:IntKind.u8.wrap (U:Int)=U:=by rw[IntKind.wrap_u8'];omega
  obtain⟨m1,b8⟩:=Nm (x&&& (255 -U))
  have b1:=u8_andNot_nat x U k g6
  rw[<-b8]at b1
  have a8:m1<256:=by rw[b8];exact uT k
  obtain⟨p0,b5⟩:=Nm (p 0)
  have c5:p0<256:=by rw[b5];exact g8.out 0
  have g7:((0:Nat):Int)=0:=rfl
  have cP:=Hp (fun W=>HP.out 0 W (by omega))
  rw[g7]at cP
  clear g7
  rw[<-b5]at cP
  obtain⟨m2,b7⟩:=Nm (m1&&& p0)
  have b2:=u8_and_nat m1 p0 a8 c5
  rw[<-b7]at b2
  have c7:m2<256:=by rw[b7];exact uT a8
  obtain⟨m3,b6⟩:=Nm (x&&& (255 -m2))
  have b3:=u8_andNot_nat x m2 k c7
  rw[<-b6]at b3
  have c6:m3<256:=by rw[b6];exact uT k
  have HM:=Hp (show AU x U (p 0)=m3 by rw[b6,b7,b8,b5];rfl)
  obtain⟨t,ht⟩:=Nm (ofBytes ((bytesOf D).set r (UInt8.ofNat m3)))
  have HT:=Hp (show fB E ⟨1,N,U⟩ p=E.set q t by
   unfold fB IC
   rw[if_pos rfl,ht,<-HM.out,hx,s]
   simp only[q2,r2,Int.toNat_natCast])
  have e6:=Hp ht
  clear ht
  obtain⟨F,C,Y⟩:=UY D
  have d9:=fun W=>(Y W).1
  rw[a5]at d9
  have f2:=Hp (fun W=>(Y W).2)
  clear Y
  have HQ:=Hp hq
  have i4:=Hp hr
  have e7:=Hp s
  have HX:=Hp hx
  have i3:=Hp k
  have g9:=Hp c6
  have O:=RB D
  rw[a5]at O
  have Z:=Hp O
  clear hq hr s hx k g6 b8 a8 b5 c5 b7 c7 b6 c6 O
  go_enter Tryz.func98,Tryz.ntmps98
  go_upto_region 5 with(
   go_at_call 149
   refine(cC.out).mono ?_
   rintro e w4 ⟨S,A4,c4,rfl,e3,ho⟩
   obtain⟨B,rfl,d7,d5,H,-,-⟩:=ho.at_ HN.out q L
   rw[<-e7.out]at H
   obtain⟨a,J⟩:=Nm (w4.alloc (.cells #[.slice (some ⟨B,0,none⟩) n c4] 29))
   obtain⟨y0,a9,l,v⟩:=jG J
   have f6:=J.symm
   have b:=G.out
   have a3:=S.size
   have f:=Hp (S.trans (v.mono a3))
   have x0:=(f.cell (p:=⟨w.heap.size+1,0,none⟩) (by simp;omega)).trans e0
   have x1:=(f.cell (p:=⟨w.heap.size+1,1,none⟩) (by simp;omega)).trans e1
   have h1:=(v.cell (p:=⟨B,q,none⟩) d5).trans H
   have f1:=Hp (ho.below v (GZ3 _))
   have h7:=Hp a9
   have e5:=Hp l
   obtain⟨g2,z,u⟩:=f2.out a
   obtain⟨w6,I⟩:=Nm (F a)
   rw[<-I]at z u
   have f5:=I.symm
   have b9:=z.QH r (by rw[Z.out];exact f8)
   rw[<-HX.out]at b9
   have h3:=z.free r (by rw[Z.out];exact f8)
   have z1:=(u.cell (p:=⟨w.heap.size+1,1,none⟩) (by simp;omega)).trans x1
   have z2:=(u.cell (p:=⟨w.heap.size+1,2,none⟩) (by simp;omega)).trans ((f.cell (p:=⟨w.heap.size+1,2,none⟩) (by simp;omega)).trans e2)
   have f4:=Hp z
   have c1:=Hp u
   clear J b l S v a9 ho H I z u)
  have c2:=Hp (b0.trans ((f.trans (c1.mono (by have:=f.size;omega))).mono (by have:=G.out;omega)))
  have h8:=Hp (show Below w.heap.size w w6.drew from below_drewN c2.out 1)
  have i2:(r:Int)<128:=by omega
  have h6:=Hp (cP.out _ h8.out)
  have a0:=Hp (show BytesAt (w6.drew.setCell ⟨a.heap.size,r,none⟩ (.int .u8 (m3:Int))) a.heap.size ((bytesOf D).set r (UInt8.ofNat m3))/\Below a.heap.size a (w6.drew.setCell ⟨a.heap.size,r,none⟩ (.int .u8 (m3:Int))) from
   ⟨(BytesAt.kept (w':=w6.drew) f4.out rfl).Qv r m3 g9.out,(below_drewN c1.out 1).setCell (p:=⟨a.heap.size,r,none⟩) (GZ3 _) _⟩)
  go_cut [9] from 33 to 47 (fun _ wx=>BytesAt wx a.heap.size ((bytesOf D).set r (UInt8.ofNat m3))/\Below a.heap.size a wx)
  case first=>
   go_region_with (with_reducible refine(h6.out).mono ?_;rintro e w' ⟨rfl,rfl⟩)
   all_goals(go_wp2_with fail;go_meet;exact a0.out)
  case rest=>
   obtain⟨w7,rfl⟩:=Nm wc
   obtain⟨a2,d⟩:=hcut
   have b:=G.out
   have l:=e5.out
   have y7:=(d.cell (p:=⟨w4.heap.size,0,none⟩) (by simp;omega)).trans y0
   have x7:=(d.cell (p:=⟨w.heap.size+1,1,none⟩) (by simp;omega)).trans x1
   have Q:=U2 w7 a.heap.size 128 (C a) _ (by rw[List.length_set];exact Z.out) a2
   rw[<-e6.out]at Q
   obtain⟨g',d8,_,_,h5,h4,a6⟩:=(f1.below d (GZ3 _)).at_ HN.out q L
   obtain rfl:B=g':=by injection d8 with h;injection h
   obtain⟨w8,o⟩:=Nm (w7.setCell ⟨B,q,none⟩ (.string t))
   have a4:=o.symm
   have X:=a6 t
   rw[a4]at X
   have y8:w8.cell? ⟨w4.heap.size,0,none⟩=some (.slice (some ⟨B,0,none⟩) n c4):=by
    rw[o,World.cell?_setCell_other _ _ _ _ (by intro h;injection h with h;omega)];exact y7
   have R:Below w3.heap.size w7 w8:=o▸(GZ4 _ _).setCell (p:=⟨B,q,none⟩) d7 _
   have y:w8.heap[w.heap.size+1+1]? =some (.cells #[.slice none 0 0] 29 (0,0)):=by
    rw[R.block _ (by omega),d.block _ (by omega),f.block _ (by omega)];exact HR.out
   have v0:=cell_of_heap y 0
   have vf:=aQ y 0
   simp only[GZ2,GZ0]at v0
   have e8:=Hp y
   have e9:=Hp X
   have f3:=Hp (b0.trans ((f.mono (by omega)).trans ((d.mono (by omega)).trans (R.mono (by omega)))))
   clear o a2 d R y X a6 b l
   go_wp2_with fail
   have e4:(w8.setCell ⟨w.heap.size+1+1,0,none⟩ (.slice (some ⟨B,0,none⟩) n c4)).heap[w.heap.size+1+1]? =some (.cells #[.slice (some ⟨B,0,none⟩) n c4] 29 (0,0)):=
    heap_setCell_same w8 (w.heap.size+1+1) 0 _ _ (.slice (some ⟨B,0,none⟩) n c4) e8.out
   refine bodyPost_ret (results_cell_row rfl _ _ (w.heap.size+1+1) 29 _ (0,0) _ rfl e4 Tryz.underlying29 rfl Tryz.jI) rfl ?_
   refine⟨f3.setCell (p:=⟨w.heap.size+1+1,0,none⟩) (by simp;omega) _,_,_,rfl,e3,?_⟩
   rw[HT.out]
   have b:=G.out
   exact dA.more (ownsRow_setCell_other e9.out (fun h=>by simp[Value.ownBlock]at h;omega) _) (by omega)
 ·simp only at hk hn hP hV
  obtain⟨q,rfl⟩:∃N:Nat,P=N:=⟨P.toNat,by omega⟩
  subst hk hV
  obtain⟨n,M⟩:=Nm E.length
  rw[<-M]at cC c3 k0 g1 hn ⊢
  have HN:=Hp M
  clear hd hf hP M
  have L:q<n:=by omega
  obtain⟨D,s⟩:=Nm (E.getD q ⟨#[]⟩)
  have a5:D.size=128:=by rw[s];exact H2.out _ (TP (by rw[<-HN.out];exact L))
  obtain⟨t,ht⟩:=Nm (ofBytes (Ta (bytesOf D) p))
  have HT:=Hp (show fB E ⟨2,q,0⟩ p=E.set q t by
   unfold fB
   rw[if_neg (show¬((2:Int)=1) by decide),ht,s]
   simp only[Int.toNat_natCast])
  have e6:=Hp ht
  clear ht
  obtain⟨F,C,Y⟩:=UY D
  have d9:=fun W=>(Y W).1
  rw[a5]at d9
  have f2:=Hp (fun W=>(Y W).2)
  clear Y
  have e7:=Hp s
  have O:=RB D
  rw[a5]at O
  have Z:=Hp O
  clear s O hn
  go_enter Tryz.func98,Tryz.ntmps98
  go_wp2_with (
   go_at_call 149
   refine(cC.out).mono ?_
   rintro e w4 ⟨S,A4,c4,rfl,e3,ho⟩
   obtain⟨B,rfl,d7,d5,H,-,-⟩:=ho.at_ HN.out q L
   rw[<-e7.out]at H
   obtain⟨a,J⟩:=Nm (w4.alloc (.cells #[.slice (some ⟨B,0,none⟩) n c4] 29))
   obtain⟨y0,a9,l,v⟩:=jG J
   have f6:=J.symm
   have b:=G.out
   have a3:=S.size
   have f:=Hp (S.trans (v.mono a3))
   have x0:=(f.cell (p:=⟨w.heap.size+1,0,none⟩) (by simp;omega)).trans e0
   have x1:=(f.cell (p:=⟨w.heap.size+1,1,none⟩) (by simp;omega)).trans e1
   have h1:=(v.cell (p:=⟨B,q,none⟩) d5).trans H
   have f1:=Hp (ho.below v (GZ3 _))
   have h7:=Hp a9
   have e5:=Hp l
   obtain⟨g2,z,u⟩:=f2.out a
   obtain⟨w6,I⟩:=Nm (F a)
   rw[<-I]at z u
   have f5:=I.symm
   have f4:=Hp z
   have c1:=Hp u
   clear J b l S v a9 ho H I z u)
  have c2:=Hp (b0.trans (f.mono (by have:=G.out;omega)))
  go_loopw [66] (fun i wr=>∃j:Nat,j<=128/\i=.int .i64 j/\BytesAt wr a.heap.size (nV (bytesOf D) p j)/\Below a.heap.size a wr) (fun i _=>128 -(intOf i).toNat)
  case atStart=>exact⟨0,by omega,rfl,by rw[Kh];exact f4.out,c1.out⟩
  case round=>
   obtain⟨j,hj,rfl,hB,hb⟩:=hrel
   by_cases g0:j<128
   ·have i1:(j:Int)<128:=by omega
    have d6:j<(nV (bytesOf D) p j).length:=by rw[Fu,Z.out];exact g0
    have b9:=hB.QH j d6
    have h3:=hB.free j d6
    rw[Mo]at b9
    obtain⟨x,hx⟩:∃x:Nat,x=((bytesOf D).getD j 0).toNat:=⟨_,rfl⟩
    rw[<-hx]at b9
    have k:x<256:=by rw[hx];exact kJ _
    have cJ:=Hp (HP.out j wr.drew g0 (below_drewN (c2.trans (hb.mono (c2.size))) 1))
    obtain⟨pj,a7⟩:=Nm (p j)
    have a1:pj<256:=by rw[a7];exact g8.out j
    rw[<-a7]at cJ
    obtain⟨m,hm⟩:=Nm (x |||pj)
    have b1:=u8_or_nat x pj k a1
    rw[<-hm]at b1
    have f9:m<256:=by rw[hm];exact Nat.or_lt_two_pow (n:=8) k a1
    have a0:=Hp (show BytesAt (wr.drew.setCell ⟨a.heap.size,j,none⟩ (.int .u8 (m:Int))) a.heap.size (nV (bytesOf D) p (j+1))/\Below a.heap.size a (wr.drew.setCell ⟨a.heap.size,j,none⟩ (.int .u8 (m:Int))) from
     ⟨by have h:=(BytesAt.kept (w':=wr.drew) hB rfl).Qv j m f9;rw[hm,hx,a7,LH]at h;rw[hm,hx,a7];exact h,(below_drewN hb 1).setCell (p:=⟨a.heap.size,j,none⟩) (GZ3 _) _⟩)
    clear hB hb d6 hx k a7 a1 hm f9
    go_upto_region 12 with fail
    go_region_with (with_reducible refine(cJ.out).mono ?_;rintro e w' ⟨rfl,rfl⟩)
    all_goals(
     go_wp2_with fail
     go_roundw
     case rel=>exact⟨j+1,by omega,by go_num,a0.out.1,a0.out.2⟩
     case measure=>(simp[intOf];try omega))
   ·obtain rfl:j=128:=by omega
    obtain⟨w7,rfl⟩:=Nm wr
    have a2:=hB
    have d:=hb
    rw[show nV (bytesOf D) p 128=Ta (bytesOf D) p from by rw[<-Z.out,OX]]at a2
    have b:=G.out
    have l:=e5.out
    have y7:=(d.cell (p:=⟨w4.heap.size,0,none⟩) (by simp;omega)).trans y0
    have x7:=(d.cell (p:=⟨w.heap.size+1,1,none⟩) (by simp;omega)).trans x1
    have Q:=U2 w7 a.heap.size 128 (C a) _ (by rw[sS];exact Z.out) a2
    rw[<-e6.out]at Q
    obtain⟨g',d8,_,_,h5,h4,a6⟩:=(f1.below d (GZ3 _)).at_ HN.out q L
    obtain rfl:B=g':=by injection d8 with h;injection h
    obtain⟨w8,o⟩:=Nm (w7.setCell ⟨B,q,none⟩ (.string t))
    have a4:=o.symm
    have X:=a6 t
    rw[a4]at X
    have y8:w8.cell? ⟨w4.heap.size,0,none⟩=some (.slice (some ⟨B,0,none⟩) n c4):=by
     rw[o,World.cell?_setCell_other _ _ _ _ (by intro h;injection h with h;omega)];exact y7
    have R:Below w3.heap.size w7 w8:=o▸(GZ4 _ _).setCell (p:=⟨B,q,none⟩) d7 _
    have y:w8.heap[w.heap.size+1+1]? =some (.cells #[.slice none 0 0] 29 (0,0)):=by
     rw[R.block _ (by omega),d.block _ (by omega),f.block _ (by omega)];exact HR.out
    have v0:=cell_of_heap y 0
    have vf:=aQ y 0
    simp only[GZ2,GZ0]at v0
    have e8:=Hp y
    have e9:=Hp X
    have f3:=Hp (b0.trans ((f.mono (by omega)).trans ((d.mono (by omega)).trans (R.mono (by omega)))))
    clear o hB hb a2 d R y X a6 b l
    go_wp2_with fail
    have e4:(w8.setCell ⟨w.heap.size+1+1,0,none⟩ (.slice (some ⟨B,0,none⟩) n c4)).heap[w.heap.size+1+1]? =some (.cells #[.slice (some ⟨B,0,none⟩) n c4] 29 (0,0)):=
     heap_setCell_same w8 (w.heap.size+1+1) 0 _ _ (.slice (some ⟨B,0,none⟩) n c4) e8.out
    refine bodyPost_ret (results_cell_row rfl _ _ (w.heap.size+1+1) 29 _ (0,0) _ rfl e4 Tryz.underlying29 rfl Tryz.jI) rfl ?_
    refine⟨f3.setCell (p:=⟨w.heap.size+1+1,0,none⟩) (by simp;omega) _,_,_,rfl,e3,?_⟩
    rw[HT.out]
    have b:=G.out
    exact dA.more (ownsRow_setCell_other e9.out (fun h=>by simp[Value.ownBlock]at h;omega) _) (by omega)
end
end Go.Proofs.YtjiedaialianmaaGreat
