import Derived.Test.YtjiedaialianmaaGreatA13
import Derived.Test.YtjiedaialianmaaGreatA17
set_option maxRecDepth 100000
set_option maxHeartbeats 8000000
namespace Go.Proofs.YtjiedaialianmaaGreat
section
open Go.RowKit
open Gs (Tx)
theorem CK (k:Krn)(A:Option Addr)(c:Nat)(l:List Plc)(w:World)(x:k.ok w)(h:aU w A l):
  Calls Tryz.prog 101 #[k.v,.slice A l.length c] w fun e B=>e=.returned (.int .i64 (aX k l))/\Below w.heap.size w B:=by
 obtain⟨z,g⟩:=Nm (w.alloc (.cells #[.int .i64 k.major,.int .i64 k.minor,.slice k.eA k.ex.length k.eC] 24))
 obtain⟨I,H,G,F,j⟩:=uE g
 have f:=Hp j
 have u:=g.symm
 have q:=Hp (iT k z (x.below j))
 have p:=Hp (fun W(s:Below w.heap.size w W)=>Uf A c l W (h.below s))
 have o:=Hp (fun W(s:Below w.heap.size w W)=>Fe A c l W (h.row.below s) h.len)
 obtain⟨E,d⟩:=Nm (aX k l)
 rw[<-d]
 unfold aX at d
 clear g j x h
 generalize bJ k=ke at*
 generalize RY l=re at*
 generalize dD l=tw at*
 by_cases n:ke=0
 ·obtain rfl:=n
  rw[if_neg (by omega)]at d
  by_cases m:re=0
  ·obtain rfl:=m
   rw[if_neg (by omega)]at d
   cases tw
   ·rw[if_neg (by simp)]at d
    go_enter Tryz.func101,Tryz.ntmps101
    go_wp2_with (first|(go_at_call 17;(with_reducible refine(q.out).mono ?_);rintro e r ⟨rfl,a⟩)|(go_at_call 174;(with_reducible refine(p.out _ (f.out.trans (a.mono (by omega)))).mono ?_);rintro e t ⟨rfl,b⟩)|(go_at_call 175;(with_reducible refine(o.out _ ((f.out.trans (a.mono (by omega))).trans (b.mono (by have:=a.size;omega)))).mono ?_);rintro e y ⟨rfl,i⟩))
    go_ret
    exact⟨aC d.symm,((f.trans (a.mono (by omega))).trans (b.mono (by have:=a.size;omega))).trans (i.mono (by have:=a.size;have:=b.size;omega))⟩
   ·rw[if_pos rfl]at d
    go_enter Tryz.func101,Tryz.ntmps101
    go_wp2_with (first|(go_at_call 17;(with_reducible refine(q.out).mono ?_);rintro e r ⟨rfl,a⟩)|(go_at_call 174;(with_reducible refine(p.out _ (f.out.trans (a.mono (by omega)))).mono ?_);rintro e t ⟨rfl,b⟩)|(go_at_call 175;(with_reducible refine(o.out _ ((f.out.trans (a.mono (by omega))).trans (b.mono (by have:=a.size;omega)))).mono ?_);rintro e y ⟨rfl,i⟩))
    go_ret
    exact⟨aC d.symm,((f.trans (a.mono (by omega))).trans (b.mono (by have:=a.size;omega))).trans (i.mono (by have:=a.size;have:=b.size;omega))⟩
  ·rw[if_pos m]at d
   have C:(re==0)=false:=by simp[m]
   clear m o
   go_enter Tryz.func101,Tryz.ntmps101
   go_wp2_with (first|(go_at_call 17;(with_reducible refine(q.out).mono ?_);rintro e r ⟨rfl,a⟩)|(go_at_call 174;(with_reducible refine(p.out _ (f.out.trans (a.mono (by omega)))).mono ?_);rintro e t ⟨rfl,b⟩))
   go_ret
   exact⟨aC d.symm,(f.trans (a.mono (by omega))).trans (b.mono (by have:=a.size;omega))⟩
 ·rw[if_pos n]at d
  have D:(ke==0)=false:=by simp[n]
  clear n p o
  go_enter Tryz.func101,Tryz.ntmps101
  go_wp2_with (first|(go_at_call 17;(with_reducible refine(q.out).mono ?_);rintro e r ⟨rfl,a⟩))
  go_ret
  exact⟨aC d.symm,f.trans (a.mono (by omega))⟩
def Ko :Value->Nat| .string s=>s.size|_=>0
theorem Ah {n:Nat}{s:Tx}(h:s.length<n):pad n (s++[255])=pad n s:=by
 unfold pad
 rw[List.append_assoc]
 congr 1
 have e:n -s.length=(n -(s++[255]).length)+1:=by simp;omega
 rw[e,List.replicate_succ];rfl
theorem Au {n:Nat}{s:Tx}(h:s.length=n):pad n s=s:=by
 unfold pad;rw[h,Nat.sub_self];simp
theorem FH (t:Tx):bs t++⟨#[255]⟩=bs (t++[255]):=ba_eq (by rw[dY])
theorem Gv (k:Krn)(A:Option Addr)(c:Nat)(l:List Plc)(j:Nat)(w:World)(hj:j<l.length)(hk:k.ok w)(h:aU w A l)(hp:iB k l=0)(P:aL l[j].m=0)(h0:0<=l[j].first)(h1:l[j].first<=16):
  Calls Tryz.prog 177 #[k.v,.slice A l.length c,.int .i64 j] w fun e w'=>e=.returned (.tuple #[.string (bs (fE k l l[j]).1),.int .i64 (fE k l l[j]).2])/\Below w.heap.size w w':=by
 have b4:=h.len
 unfold big at b4
 have h5:(j:Int)<l.length:=by omega
 have KJ:=Hp (fun W(d5:Below w.heap.size w W)=>RS h.row d5 j hj)
 have hx:=h.each l[j] (GZ9 _)
 obtain⟨wk,Q⟩:=Nm (w.alloc (.cells #[.int .i64 k.major,.int .i64 k.minor,.slice k.eA k.ex.length k.eC] 24))
 obtain⟨g0,g1,g2,c5,Y⟩:=uE Q
 obtain⟨ad,rfl,h6,p0,p1,p2,p3,p4,p5,p6,p7⟩:=KJ.out wk Y
 obtain⟨y,hy⟩:=Nm (l[j]'hj)
 rw[<-hy]at P h0 h1 hx p0 p1 p2 p3 p4 p5 p6 p7 ⊢
 simp only[<-hy]at KJ
 obtain⟨w0,U⟩:=Nm (wk.alloc (.cells #[.string y.m.name,.int .i64 y.m.major,.int .i64 y.m.minor,.string y.m.text,.slice y.m.eA y.m.ex.length y.m.eC,.slice y.m.iA y.m.im.length y.m.iC,.slice y.m.pA y.m.pa.length y.m.pC] 70))
 obtain⟨f0,f1,f2,f3,f4,f5,f6,a9,g⟩:=wE U
 rw[c5]at f0 f1 f2 f3 f4 f5 f6 a9 g
 have k0:=(g.cell (p:=⟨w.heap.size,0,none⟩) (by simp)).trans g0
 have k1:=(g.cell (p:=⟨w.heap.size,1,none⟩) (by simp)).trans g1
 have k2:=(g.cell (p:=⟨w.heap.size,2,none⟩) (by simp)).trans g2
 have f:=Y.trans (g.mono (by omega))
 have H0:=Hp f
 have e6:=Q.symm
 have e7:=U.symm
 have F:=aY P
 have d9:=Hp (show∀p∈y.m.pa,p.sym<y.m.im.length from GY P)
 obtain⟨c4,c3,c2⟩:=xC y.m
 have a5:=gK P
 have ht:y.m.text.size<=256:=F.2.2.1
 have d2:y.m.im.length<=6:=F.2.2.2.2.2.2.1
 have h3:y.m.pa.length<=12:=F.2.2.2.2.2.2.2.1
 have cA:=Hp (VG k (some ad) c l y.m.name y.m.text y.m.major y.m.minor y.m.ex y.m.im y.m.pa y.m.eA y.m.iA y.m.pA y.m.eC y.m.iC y.m.pC w0 (hk.below f) (h.below f) (hx.below f).im d2 hp)
 have K:=Hp (Tf (k:=k) (l:=l) (r:=y.m.im))
 have e0:=Hp (show Row Pat.cells 4 w0 y.m.pA y.m.pa from(hx.below f).pa.1)
 have J:fE k l y=if(aN k l y.m.im).2≠0 then([],(aN k l y.m.im).2)else if(bH (aN k l y.m.im).1 (bV y) y.m.pa y.m.text).2≠0 then([],(bH (aN k l y.m.im).1 (bV y) y.m.pa y.m.text).2)else(pad (64*(aH y.m).toNat) (tx (bH (aN k l y.m.im).1 (bV y) y.m.pa y.m.text).1),0):=rfl
 obtain⟨I,b7⟩:=Nm (fE k l y)
 rw[<-b7]at J ⊢
 generalize aN k l y.m.im=ads at*
 obtain⟨B,er⟩:=ads
 simp only at cA K J
 have b6:bV y=4096+64*y.first:=rfl
 have q1:IntKind.i64.wrap (64*y.first)=64*y.first:=IntWalk.i64_in _ (by omega)
 have q2:IntKind.i64.wrap (4096+64*y.first)=bV y:=IntWalk.i64_in _ (by omega)
 clear b7 Q U Y g f g0 g1 g2 hk h hx hp P F hy
 have c7:w.heap.size+1<w0.heap.size:=by omega
 have g5:w.heap.size<w0.heap.size:=by omega
 clear a9
 by_cases te:er=0
 ·subst te
  rw[if_neg (by simp)]at J
  have b2:=K.out rfl
  obtain⟨R,a4⟩:=Nm (bH B (bV y) y.m.pa y.m.text)
  rw[<-a4]at J
  have d7:=Hp a4.symm
  have HI:=Hp J
  have e4:=Hp b2
  have h8:=Hp (show bV y=bV y from rfl)
  generalize bV y=BA at*
  subst b6
  clear J a4 b2 K
  go_enter Tryz.func177,Tryz.ntmps177
  go_wp2_with (go_at_call 230;(with_reducible refine(cA.out).mono ?_);rintro e w2 ⟨⟨sA,sC,rfl,D⟩,a⟩;have d8:=Hp D;have z:=Hp a;obtain⟨d4,d3⟩:=aJ a;have c6:w.heap.size+1<w2.heap.size:=(by have:=a.size;omega);have g4:w.heap.size<w2.heap.size:=(by omega);have f8:(ad.add (j*8)).block<w2.heap.size:=(by rw[aA];omega);obtain⟨_,ea,_,m0,m1,m2,m3,m4,m5,m6,m7⟩:=KJ.out _ (H0.out.trans (a.mono H0.out.size));obtain rfl:=GY3 ea;clear D a)
  have b9:=Hp (e0.below z)
  have x6:=(z.cell (p:=⟨w.heap.size+1,6,none⟩) c7).trans f6
  have d6:=Hp x6
  have o:=Hp (H0.trans (z.mono H0.size))
  clear d4 d3 m0 m1 m2 m3 m4 m5 m6 m7 x6
  go_loopw [10,12,13] (fun cd v i wr=>∃(n:Nat)(s:ByteArray),n<=y.m.pa.length/\cd=.int .i64 0/\v=.string s/\i=.int .i64 n/\s.size=y.m.text.size/\bH B (4096+64*y.first) (y.m.pa.drop n) s=R/\Below w2.heap.size w2 wr) (fun _ _ i _=>y.m.pa.length -(intOf i).toNat)
  case atStart=>exact⟨0,y.m.text,by omega,rfl,rfl,rfl,rfl,d7.out,GZ4 _ _⟩
  case round=>
   obtain⟨n,s,hn,rfl,rfl,rfl,V,hR,Z⟩:=hrel
   have a8:=Hp V
   have HR:=Hp hR
   have C:=Hp Z
   have e8:s.size<=256:=by omega
   have m6:=(Z.cell (p:=⟨w.heap.size+1,6,none⟩) c6).trans d6.out
   have g3:w.heap.size+1<wr.heap.size:=by have:=Z.size;omega
   clear V hR
   by_cases d:n<y.m.pa.length
   ·have f7:(n:Int)<y.m.pa.length:=by omega
    obtain⟨pd,b1,h4,a0,a1,a2,a3⟩:=qE b9.out Z n d
    rw[b1]at m6
    have X:=d9.out y.m.pa[n] (GZ9 _)
    have O:=Hp (fun e=>(U3 (at_:=B) (base:=(4096+64*y.first)) (s:=s) d e).symm.trans HR.out)
    have N:=Hp (fun e=>(sQ (at_:=B) (base:=(4096+64*y.first)) (s:=s) d e).trans HR.out)
    have L:=Hp (show RO s.size y.m.pa[n].kind y.m.pa[n].at_ y.m.pa[n].add (iX B (4096+64*y.first) y.m.pa[n]) (4096+64*y.first)=0->(bS s y.m.pa[n].kind y.m.pa[n].at_ y.m.pa[n].add (iX B (4096+64*y.first) y.m.pa[n]) (4096+64*y.first)).size=s.size from fun e=>Rz e)
    obtain⟨q,hq⟩:=Nm (y.m.pa[n]'d)
    rw[<-hq]at a0 a1 a2 a3 X
    simp only[<-hq]at O N L
    obtain⟨S,H⟩:=Nm (iX B (4096+64*y.first) q)
    simp only[<-H]at O N L
    unfold iX at H
    have cP:=Hp (fun W=>IQ s q.kind q.at_ q.sym q.add S (4096+64*y.first) W (by omega))
    obtain⟨E,hE⟩:=Nm (RO s.size q.kind q.at_ q.add S (4096+64*y.first))
    obtain⟨T,hT⟩:=Nm (bS s q.kind q.at_ q.add S (4096+64*y.first))
    simp only[<-hE,<-hT]at cP O N L
    clear hq hE hT b1
    by_cases t:q.sym<0
    ·rw[if_pos t]at H
     subst H
     have t':decide (0<=q.sym)=false:=by simp;omega
     clear t X Z
     by_cases x:E=0
     ·subst x
      have e2:=Hp (N.out rfl)
      have e3:=Hp ((L.out rfl).trans a8.out)
      clear O N L
      go_wp2_with (go_at_call 231;(with_reducible refine(cP.out _).mono ?_);rintro e w5 ⟨rfl,b⟩)
      go_roundw
      case rel=>exact⟨n+1,T,by omega,by rfl,by rfl,by go_num,e3.out,e2.out,C.trans (b.mono C.size)⟩
      case measure=>(simp[intOf];try omega)
     ·have e1:=Hp (O.out x)
      have c1:(E != 0)=true:=by simp[x]
      have a7:=Hp x
      clear x O N L
      go_wp2_with (go_at_call 231;(with_reducible refine(cP.out _).mono ?_);rintro e w5 ⟨rfl,b⟩)
      go_ret2
      refine⟨?_,o.trans ((C.trans (b.mono C.size)).mono o.size)⟩
      rw[HI.out,<-e1.out,if_pos a7.out];rfl
    ·rw[if_neg t]at H
     obtain⟨m,P⟩:∃m:Nat,q.sym=m:=⟨q.sym.toNat,by omega⟩
     have b3:m<B.length:=by have:=e4.out;omega
     have e9:(m:Int)<B.length:=by omega
     rw[P]at H a2 cP
     rw[Int.toNat_natCast,List.getD_eq_getElem?_getD,GY5 b3,Option.getD_some]at H
     obtain⟨sa,c9,h2,i0⟩:=KR d8.out Z m b3
     rw[<-H]at i0
     subst c9
     clear t X Z H P
     by_cases x:E=0
     ·subst x
      have e2:=Hp (N.out rfl)
      have e3:=Hp ((L.out rfl).trans a8.out)
      clear O N L
      go_wp2_with (go_at_call 231;(with_reducible refine(cP.out _).mono ?_);rintro e w5 ⟨rfl,b⟩)
      go_roundw
      case rel=>exact⟨n+1,T,by omega,by rfl,by rfl,by go_num,e3.out,e2.out,C.trans (b.mono C.size)⟩
      case measure=>(simp[intOf];try omega)
     ·have e1:=Hp (O.out x)
      have c1:(E != 0)=true:=by simp[x]
      have a7:=Hp x
      clear x O N L
      go_wp2_with (go_at_call 231;(with_reducible refine(cP.out _).mono ?_);rintro e w5 ⟨rfl,b⟩)
      go_ret2
      refine⟨?_,o.trans ((C.trans (b.mono C.size)).mono o.size)⟩
      rw[HI.out,<-e1.out,if_pos a7.out];rfl
   ·have e1:=Hp ((U9 (at_:=B) (base:=4096+64*y.first) (s:=s) d).symm.trans HR.out)
    obtain rfl:n=y.m.pa.length:=by omega
    obtain⟨M,a6⟩:∃M:Nat,aH y.m=M:=⟨(aH y.m).toNat,by omega⟩
    obtain⟨G,hG⟩:=Nm (pad (64*M) (tx s))
    have HG:=Hp hG.symm
    have e5:=Hp (show I=(G,0) by rw[HI.out,<-e1.out,if_neg (by simp),a6,hG];rfl)
    rw[a6]at c4 c3 a5
    have g8:(tx s).length=s.size:=rfl
    have h7:=Hp (show(bs (tx s))=s from rfl)
    have V:=a8.out
    clear d hG a6 c2
    go_wp2_with fail
    go_loopw [12] (fun v wz=>∃u:Tx,v=.string (bs u)/\u.length<=64*M/\64*M<u.length+64/\pad (64*M) u=G/\Below wr.heap.size wr wz) (fun v _=>64*M -Ko v)
    case atStart=>exact⟨tx s,rfl,by omega,by omega,HG.out,GZ4 _ _⟩
    case round=>
     obtain⟨u,rfl,g7,g6,b0,b5⟩:=hrel
     have b8:=Hp b0
     have c0:=Hp b5
     have c8:(bs u).size=u.length:=rfl
     clear b0 b5
     by_cases d1:u.length<64*M
     ·have d0:0<(u.length:Int) % 64:=by omega
      have g9:∀W,(Op.stringOp .add (bs u) ⟨#[255]⟩).run Tryz.prog W=.ok (.string (bs u++⟨#[255]⟩)) W:=fun W=>run_string_add_sum _ _ _ (by rw[c8];show _+1<=_;omega)
      rw[FH]at g9
      go_wp2_with fail
      go_roundw
      case rel=>exact⟨u++[255],rfl,by simp;omega,by simp;omega,(Ah d1).trans b8.out,c0.out⟩
      case measure=>(simp only[Ko];show _ -(u++[255]).length<_ -u.length;simp;omega)
     ·have d0:(u.length:Int) % 64=0:=by omega
      have HU:=Hp ((Au (show u.length=64*M by omega)).symm.trans b8.out)
      go_wp2_with fail
      go_ret2
      refine⟨?_,o.trans ((C.trans (c0.mono C.size)).mono o.size)⟩
      rw[e5.out,HU.out]
      rfl
 ·rw[if_pos te]at J
  have f9:(er != 0)=true:=by simp[te]
  have HI:=Hp J
  clear J te K
  go_enter Tryz.func177,Tryz.ntmps177
  go_wp2_with (go_at_call 230;(with_reducible refine(cA.out).mono ?_);rintro e w2 ⟨⟨sA,sC,rfl,D⟩,a⟩;have z:=Hp a;clear D a)
  go_ret2
  exact⟨by rw[HI.out];rfl,H0.trans (z.mono H0.size)⟩
theorem Ij (k:Krn)(A:Option Addr)(c:Nat)(l:List Plc)(w:World)(hk:k.ok w)(h:aU w A l)(hL:aX k l=0):
  Calls Tryz.prog 103 #[k.v,.slice A l.length c] w fun e w'=>e=.returned (.tuple #[.string (bs (TL k l)),.int .i64 (iP k l)])/\Below w.heap.size w w':=by
 have S:=h.len
 unfold big at S
 have hE:iP k l=(bU k l l 0).2:=by unfold iP;rw[if_neg (by omega)]
 have hT:TL k l=(bU k l l 0).1:=by unfold TL;rw[if_neg (by omega)]
 rw[hE,hT]
 obtain⟨w0,B⟩:=Nm (w.alloc (.cells #[.int .i64 k.major,.int .i64 k.minor,.slice k.eA k.ex.length k.eC] 24))
 obtain⟨g0,g1,g2,hz,V⟩:=uE B
 have z:w.heap.size<w0.heap.size:=by omega
 have H0:=Hp V
 have b6:=B.symm
 have HP:=Hp h
 have HK:=Hp hk
 have a7:=Hp (dM hL).2.2.2
 have a5:=Hp (cZ (dM hL).2.1).2.2
 have b5:=Hp (Uc hL)
 obtain⟨R,J⟩:=Nm (bU k l l 0)
 rw[<-J]
 have a6:=Hp J.symm
 have b0:=Hp g0
 have a9:=Hp g1
 have a8:=Hp g2
 clear B V hz hL h hk hE hT J g0 g1 g2
 go_enter Tryz.func103,Tryz.ntmps103
 go_wp2_with fail
 go_loopw [6,7] (fun v i wr=>∃(j:Nat)(a:Int)(pre:Tx),j<=l.length/\i=.int .i64 j/\v=.string (bs pre)/\0<=a/\a<=16/\bW a (l.drop j)/\(pre.length:Int)=64*a/\qK pre (bU k l (l.drop j) a)=R/\Below w0.heap.size w0 wr) (fun _ i _=>l.length -(intOf i).toNat)
 case atStart=>exact⟨0,0,[],by omega,rfl,rfl,by omega,by omega,a5.out,rfl,by rw[Dk];exact a6.out,GZ4 _ _⟩
 case round=>
  obtain⟨j,a,pre,hj,rfl,rfl,c6,c5,P,D,hR,I⟩:=hrel
  have HB:=Hp I
  have HR:=Hp hR
  have b9:=Hp D
  have Y:=Hp P
  have Q:pre.length<=1024:=by omega
  have C:(bs pre).size=pre.length:=rfl
  clear hR P
  by_cases b:j<l.length
  ·have b7:(j:Int)<l.length:=by omega
   obtain⟨r1,r2,r3,r4⟩:=Fp Y.out b
   obtain⟨q1,q2,q3⟩:=b5.out l[j] (GZ9 _)
   have H:=H0.trans (I.mono H0.size)
   obtain⟨ad,rfl,c4,f0,f1,f2,f3,f4,f5,f6,f7⟩:=RS HP.row H j b
   have KJ:=Hp (fun W(a3:Below w.heap.size w W)=>RS HP.row a3 j b)
   have m0:=(I.cell (p:=⟨w.heap.size,0,none⟩) z).trans b0.out
   have m1:=(I.cell (p:=⟨w.heap.size,1,none⟩) z).trans a9.out
   have m2:=(I.cell (p:=⟨w.heap.size,2,none⟩) z).trans a8.out
   have c2:=I.size
   have c1:w.heap.size<wr.heap.size:=by omega
   have E1:=Hp (fun e=>(IU (k:=k) (pre:=pre) (a:=a) b e).symm.trans HR.out)
   have O:=Hp (fun e=>(Cs (k:=k) (pre:=pre) (a:=a) b e).trans HR.out)
   have E3:=Hp (fun(e:(fE k l (l[j]'b)).2=0)=>wH (k:=k) (l:=l) (x:=l[j]'b) e)
   have cI:=Hp (fun W(hW:Below w.heap.size w W)=>Gv k (some ad) c l j W b (HK.below hW) (HP.below hW) a7.out q1 q2 q3)
   have L:aR l[j]=l[j].first+aH l[j].m:=rfl
   have T:=bW.le r4
   obtain⟨y,hy⟩:=Nm (l[j]'b)
   simp only[<-hy]at f0 f1 f2 f3 f4 f5 f6 f7 E1 O E3 cI L T r1 r2 r3 r4 q2 q3 KJ
   have R4:=Hp r4
   have f:=Hp H
   clear I H hy q1 r4
   obtain⟨⟨G,ge⟩,M⟩:∃G,G=fE k l y:=⟨_,rfl⟩
   simp only[<-M]at cI E1 O E3
   clear M
   by_cases tE:ge=0
   ·subst tE
    have e2:=O.out rfl
    have e3:=E3.out rfl
    have b3:=Hp e3
    have b8:G.length<=256:=by omega
    have U:(bs G).size=G.length:=rfl
    obtain⟨N,hN⟩:∃N:Nat,N=(64*y.first).toNat:=⟨_,rfl⟩
    have K:(N:Int)=64*y.first:=by omega
    obtain⟨G0,t⟩:=Nm (pre++List.replicate (64*(y.first -a)).toNat 255)
    have b4:=Hp (show pad N pre=G0 by rw[t];unfold pad;congr 2;omega)
    have c9:=Hp (show G0.length=N by rw[t,GZ8,List.length_replicate];omega)
    rw[<-List.append_assoc,<-t]at e2
    have a2:pre.length<=N:=by omega
    have O:=Hp e2
    have q4:IntKind.i64.wrap (64*y.first)=N:=by rw[K];exact IntWalk.i64_in _ (by omega)
    have HN:=Hp K
    have c7:N<=1024:=by omega
    have c8:=Hp C
    clear e2 e3 E1 E3 f0 f1 f2 f3 f4 f5 f6 f7 t hN K D C
    go_wp2_with (go_at_call 177;(with_reducible refine(cI.out _ f.out).mono ?_);rintro e w5 ⟨rfl,o⟩;have g:=Hp o;clear o)
    have a0:=Hp (f.trans (g.mono f.size))
    have c3:w0.heap.size<=w5.heap.size:=by have:=g.size;omega
    have Z:=Hp L
    have b2:=Hp U
    clear L U
    go_loopw [6] (fun v wz=>∃u:Tx,v=.string (bs u)/\u.length<=N/\pad N u=G0/\Below w5.heap.size w5 wz) (fun v _=>N -Ko v)
    case atStart=>exact⟨pre,rfl,a2,b4.out,GZ4 _ _⟩
    case round=>
     obtain⟨u,rfl,a1,n,d⟩:=hrel
     have q:=Hp n
     have r:=Hp d
     have s:(bs u).size=u.length:=rfl
     obtain⟨_,ea,_,f0,f1,f2,f3,f4,f5,f6,f7⟩:=KJ.out _ (a0.trans (d.mono a0.size))
     obtain rfl:=GY3 ea
     clear n d
     by_cases F:u.length<N
     ·have E:(u.length:Int)<N:=by omega
      have X:∀W,(Op.stringOp .add (bs u) ⟨#[255]⟩).run Tryz.prog W=.ok (.string (bs u++⟨#[255]⟩)) W:=fun W=>run_string_add_sum _ _ _ (by rw[s];show _+1<=_;omega)
      rw[FH]at X
      go_wp2_with fail
      go_roundw
      case rel=>exact⟨u++[255],rfl,by simp;omega,(Ah F).trans q.out,r.out⟩
      case measure=>(simp only[Ko];show _ -(u++[255]).length<_ -u.length;simp;omega)
     ·have E:¬(u.length:Int)<N:=by omega
      have a4:=(Au (show u.length=N by omega)).symm.trans q.out
      subst a4
      have X:∀W,(Op.stringOp .add (bs u) (bs G)).run Tryz.prog W=.ok (.string (bs u++bs G)) W:=fun W=>run_string_add_sum _ _ _ (by rw[s,b2.out];omega)
      rw[show bs u++bs G=bs (u++G) from ba_eq (by rw[dY])]at X
      go_wp2_with fail
      go_roundw
      case rel=>exact⟨j+1,aR y,u++G,by omega,by go_num,rfl,by have:=Z.out;omega,T,R4.out,by rw[GZ8];have:=Z.out;have:=b3.out;have:=HN.out;omega,O.out,HB.trans ((g.trans (r.mono g.size)).mono HB.size)⟩
      case measure=>(simp[intOf];try omega)
   ·have e1:=Hp (E1.out tE)
    have c0:(ge != 0)=true:=by simp[tE]
    clear O E3 tE
    go_wp2_with (go_at_call 177;(with_reducible refine(cI.out _ f.out).mono ?_);rintro e w5 ⟨rfl,o⟩;have g:=Hp o;clear o)
    go_ret2
    refine⟨?_,f.trans (g.mono f.size)⟩
    rw[<-e1.out]
    rfl
  ·have e1:=Hp ((IW (k:=k) (pre:=pre) (a:=a) b).symm.trans HR.out)
   obtain rfl:j=l.length:=by omega
   obtain⟨G,M⟩:=Nm (pad 1024 pre)
   have HG:=Hp M.symm
   have b1:=Hp (show R=(G,0) by
    rw[<-e1.out,M,pad,show(64*(16 -a)).toNat=1024 -pre.length by omega])
   clear b M C D
   go_wp2_with fail
   go_loopw [6] (fun v wz=>∃u:Tx,v=.string (bs u)/\u.length<=1024/\pad 1024 u=G/\Below wr.heap.size wr wz) (fun v _=>1024 -Ko v)
   case atStart=>exact⟨pre,rfl,Q,HG.out,GZ4 _ _⟩
   case round=>
    obtain⟨u,rfl,a1,n,d⟩:=hrel
    have q:=Hp n
    have r:=Hp d
    have s:(bs u).size=u.length:=rfl
    clear n d
    by_cases F:u.length<1024
    ·have E:(u.length:Int)<1024:=by omega
     have X:∀W,(Op.stringOp .add (bs u) ⟨#[255]⟩).run Tryz.prog W=.ok (.string (bs u++⟨#[255]⟩)) W:=fun W=>run_string_add_sum _ _ _ (by rw[s];show _+1<=_;omega)
     rw[FH]at X
     go_wp2_with fail
     go_roundw
     case rel=>exact⟨u++[255],rfl,by simp;omega,(Ah F).trans q.out,r.out⟩
     case measure=>(simp only[Ko];show _ -(u++[255]).length<_ -u.length;simp;omega)
    ·have E:¬(u.length:Int)<1024:=by omega
     have HU:=Hp ((Au (show u.length=1024 by omega)).symm.trans q.out)
     go_wp2_with fail
     go_ret2
     refine⟨?_,H0.trans ((HB.trans (r.mono HB.size)).mono H0.size)⟩
     rw[b1.out,HU.out]
     rfl
end
section
open Go.RowKit
open Gs (Tx)
open Gr (Tab)
theorem OE (l:List Plc):tM l.length (Tab.mk (kV l) l.length) l.length=yP l:=rfl
theorem Le (A:Option Addr)(c:Nat)(l:List Plc)(w:World)(h:aU w A l)(h8:l.length<=8):
  Calls Tryz.prog 176 #[.slice A l.length c] w fun e w'=>(∃v,e=.returned v/\Qu w' w.heap.size v l.length (yP l))/\Below w.heap.size w w':=by
 have HP:=Hp h
 clear h
 go_enter Tryz.func176,Tryz.ntmps176
 go_wp2_with fail
 go_loopw [3,4] (fun v i wr=>∃j:Nat,j<=l.length/\i=.int .i64 j/\vF l w v j wr) (fun _ i _=>l.length -(intOf i).toNat)
 case atStart=>exact⟨0,by omega,rfl,vF.start l w⟩
 case round=>
  obtain⟨j,hj,rfl,hO⟩:=hrel
  have E:=Hp hO
  obtain⟨F,a9⟩:=Nm wr
  subst a9
  clear hO
  by_cases x:j<l.length
  ·have d0:(j:Int)<l.length:=by omega
   go_wp2_with fail
   go_loopw [5,6] (fun v5 i wr=>∃k:Nat,k<=l.length/\i=.int .i64 k/\BR wr F.heap.size v5 (vU l j k)/\Below F.heap.size F wr) (fun _ i _=>l.length -(intOf i).toNat)
   case atStart=>exact⟨0,by omega,rfl,World.ownsRow_nil _ _ _ _,GZ4 _ _⟩
   case round=>
    obtain⟨k,hk,rfl,hB,y⟩:=hrel
    have HB:=Hp hB
    have HW:=Hp y
    have B:=y.size
    by_cases f:k<l.length
    ·have L:(k:Int)<l.length:=by omega
     have hD:=CE A c l j k wr (HP.below (E.bel.trans (y.mono E.bel.size))) x f
     rw[<-Oc x f]at hD
     have e1:=Hp (L8 l j k)
     have HL:=Hp (show(vU l j k).length<=1000000 by rw[Tv];omega)
     generalize kV l j k=d at*
     have c1:=Hp hD
     clear hD hB y
     go_wp2_with (first
      |(go_at_call 109;refine(c1.out).mono ?_;rintro e w3 ⟨rfl,a⟩
        have o:=Hp (own_below HB a (GZ3 _))
        have b7:=Hp (HW.trans (a.mono B))
        have b5:=Hp (GY1 B a.size)
        clear a)
      |(at_builtin;refine Gd w3 rfl _ _ rfl F.heap.size _ (vU l j k) d rfl rfl (by exact o.out) HL.out b5.out ?_;intro v' w4 G Q
        have c7:=Hp G
        have b6:=Hp (b7.trans Q)
        clear G Q))
     go_roundw
     case rel=>exact⟨k+1,by omega,by go_num,by rw[e1.out];exact c7.out,b6.out⟩
     case measure=>(simp[intOf];try omega)
    ·obtain rfl:k=l.length:=by omega
     obtain⟨g,d2,hv,_⟩:=(show wr.ownsRow F.heap.size 4 1 _ l.length ((vU l j l.length).map Value.bool) from by have:=hB;unfold BR at this;rwa [Tv]at this).form (by omega)
     subst hv
     obtain⟨R,C,ho,hr,N,M⟩:=E.rows
     have c2:=Hp ho
     have b8:=Hp hr
     have c5:=Hp N
     have c4:=Hp M
     have c0:=Hp (own_below ho y (GZ3 _))
     have HZ:=Hp (GY1 E.bel.size B)
     have HJ:=Hp (show j<=1000000 by omega)
     clear hB y ho hr N M
     go_wp2_with (at_builtin;refine Gf wr rfl _ _ rfl w.heap.size _ l.length j R C _ rfl rfl rfl (by exact c0.out) HJ.out HZ.out ?_;intro v' w4 I P J;have b9:=Hp I;have c6:=Hp P;have c3:=Hp J;clear I P J)
     go_roundw
     case rel=>exact⟨j+1,by omega,by go_num,vF.step E.bel c2.out b8.out c5.out c4.out HW.out HB.out b9.out c6.out c3.out⟩
     case measure=>(simp[intOf];try omega)
  ·obtain rfl:j=l.length:=by omega
   obtain⟨A',c',rfl,hM⟩:=E.mat
   have a0:=Hp E.bel
   by_cases hn:l.length=0
   ·have HN:=Hp hn
    clear hM x hn
    go_wp2_with fail
    go_loopw [7] (fun i wr=>∃m:Nat,m<=l.length/\i=.int .i64 m/\Below w.heap.size w wr) (fun i _=>l.length -(intOf i).toNat)
    case atStart=>exact⟨0,by omega,rfl,a0.out⟩
    case round=>
     obtain⟨m,hm,rfl,y⟩:=hrel
     obtain rfl:m=l.length:=by have:=HN.out;omega
     have HB:=Hp y
     clear y
     go_wp2_with fail
     go_ret
     exact⟨⟨_,rfl,A',c',rfl,fun h=>absurd HN.out (by omega)⟩,HB.out⟩
   ·obtain⟨O,R,C,rfl,K⟩:=hM (by omega)
    have Z:=Hp K
    have HE:=Hp (OE l)
    clear hM K x
    obtain⟨t0,H⟩:=Nm (Tab.mk (kV l) l.length)
    rw[<-H]at Z HE
    obtain⟨n,d1⟩:=Nm l.length
    clear H
    go_wp2_with fail
    go_loopw [7] (fun i wr=>∃m:Nat,m<=l.length/\i=.int .i64 m/\Mat wr w.heap.size l.length O R C (tM l.length t0 m)/\Below w.heap.size w wr) (fun i _=>l.length -(intOf i).toNat)
    case atStart=>exact⟨0,by omega,rfl,Z.out,a0.out⟩
    case round=>
     obtain⟨m,hm,rfl,W,t⟩:=hrel
     have Y:=Hp W
     have a8:=Hp t
     have TM:=Hp (PK l.length t0 m)
     obtain⟨w1,b4⟩:=Nm wr
     subst b4
     clear W t
     by_cases D:m<l.length
     ·have c9:(m:Int)<l.length:=by omega
      generalize tM l.length t0 m=t1 at*
      go_wp2_with fail
      go_loopw [8] (fun i wr=>∃q:Nat,q<=l.length/\i=.int .i64 q/\Mat wr w.heap.size l.length O R C (tI l.length m t1 q)/\Below w.heap.size w wr) (fun i _=>l.length -(intOf i).toNat)
      case atStart=>exact⟨0,by omega,rfl,Y.out,a8.out⟩
      case round=>
       obtain⟨q,hq,rfl,V,s⟩:=hrel
       have X:=Hp V
       have a7:=Hp s
       have TI:=Hp (PS l.length m t1 q)
       obtain⟨w2,b0⟩:=Nm wr
       subst b0
       clear V s
       by_cases r:q<l.length
       ·have c8:(q:Int)<l.length:=by omega
        generalize tI l.length m t1 q=t2 at*
        go_wp2_with fail
        go_loopw [9] (fun i wr=>∃k:Nat,k<=l.length/\i=.int .i64 k/\Mat wr w.heap.size l.length O R C (tK m q t2 k)/\Below w.heap.size w wr) (fun i _=>l.length -(intOf i).toNat)
        case atStart=>exact⟨0,by omega,rfl,X.out,a7.out⟩
        case round=>
         obtain⟨k,hk,rfl,U,a⟩:=hrel
         have b:=Hp U
         have o:=Hp a
         have TK:=Hp (Pv m q t2 k)
         clear U a
         by_cases f:k<l.length
         ·have L:(k:Int)<l.length:=by omega
          generalize tK m q t2 k=t3 at*
          have a1:=b.row q r
          have a2:=b.cell q k r f
          have a3:=b.cell q m r D
          have a4:=b.row m D
          have a5:=b.cell m k D f
          have a6:=b.free q k r f
          have u:=Hp (b.off q r)
          have z:=Hp (fun v hv=>b.fill (m:=m) r f (v:=v) hv)
          obtain⟨Rq,S⟩:=Nm (R q)
          obtain⟨Rm,T⟩:=Nm (R m)
          rw[<-S]at a1 a2 a3 a6 u z
          rw[<-T]at a4 a5
          obtain⟨b1,t⟩:=Nm (t3.at q k)
          obtain⟨b2,s⟩:=Nm (t3.at q m)
          obtain⟨b3,a⟩:=Nm (t3.at m k)
          rw[<-t]at a2 z
          rw[<-s]at a3 z
          rw[<-a]at a5 z
          clear t s a S T
          go_wp2_with fail
          cases b1
          ·cases b2
           ·go_big_region
            go_wp2_with fail
            go_roundw
            case rel=>exact⟨k+1,by omega,by go_num,by rw[TK.out];exact(z.out false (by simp)).drew,(o.setCell (p:=⟨Rq,k,none⟩) u.out.2 _).drew⟩
            case measure=>(simp[intOf];try omega)
           ·cases b3
            ·go_big_region
             go_wp2_with fail
             go_roundw
             case rel=>exact⟨k+1,by omega,by go_num,by rw[TK.out];exact(z.out false (by simp)).drew,(o.setCell (p:=⟨Rq,k,none⟩) u.out.2 _).drew⟩
             case measure=>(simp[intOf];try omega)
            ·go_big_region
             go_wp2_with fail
             go_roundw
             case rel=>exact⟨k+1,by omega,by go_num,by rw[TK.out];exact(z.out true (by simp)).drew,(o.setCell (p:=⟨Rq,k,none⟩) u.out.2 _).drew⟩
             case measure=>(simp[intOf];try omega)
          ·go_big_region
           go_wp2_with fail
           go_roundw
           case rel=>exact⟨k+1,by omega,by go_num,by rw[TK.out];exact(z.out true (by simp)).drew,(o.setCell (p:=⟨Rq,k,none⟩) u.out.2 _).drew⟩
           case measure=>(simp[intOf];try omega)
         ·obtain rfl:k=l.length:=by omega
          go_wp2_with fail
          go_roundw
          case rel=>exact⟨q+1,by omega,by go_num,by rw[TI.out];exact b.out,o.out⟩
          case measure=>(simp[intOf];try omega)
       ·obtain rfl:q=l.length:=by omega
        go_wp2_with fail
        go_roundw
        case rel=>exact⟨m+1,by omega,by go_num,by rw[TM.out];exact X.out,a7.out⟩
        case measure=>(simp[intOf];try omega)
     ·obtain rfl:m=l.length:=by omega
      go_wp2_with fail
      go_ret
      exact⟨⟨_,rfl,_,_,rfl,fun _=>⟨O,R,C,rfl,by rw[<-HE.out];exact Y.out⟩⟩,a8.out⟩
end
section
open Go.RowKit
open Gs (Tx)
open Gr (Tab)
theorem Mat.get {w:World}{e n O:Nat}{R C:Nat->Nat}{t:Tab}(h:Mat w e n O R C t){i k:Nat}(a:i<n)(c:k<n):
  ∃b d,w.cell? ⟨O,i,none⟩=some (.slice (some ⟨b,0,none⟩) n d)/\w.cell? ⟨b,k,none⟩=some (.bool (t.at i k)):=⟨R i,C i,h.row i a,h.cell i k a c⟩
theorem Hw (A:Option Addr)(c:Nat)(l:List Plc)(w:World)(h:aU w A l)(D:l.length<=8):
  Calls Tryz.prog 102 #[.slice A l.length c] w fun e z=>e=.returned (.bool (eH l))/\Below w.heap.size w z:=by
 have E:=Hp (Le A c l w h D)
 have s:=Hp (show eH l=(List.range l.length).any (fun i=>(yP l).at i i) from rfl)
 generalize eH l=R0 at*
 generalize yP l=t at*
 clear h
 go_enter Tryz.func102,Tryz.ntmps102
 go_wp2_with (go_at_call 176;refine(E.out).mono ?_;rintro e y ⟨⟨v,rfl,L,I,rfl,r⟩,d⟩;have F:=Hp r;have x:=Hp d;clear r d)
 go_loopw [4] (fun i wr=>∃j:Nat,j<=l.length/\i=.int .i64 j/\(∀k,k<j->t.at k k=false)/\wr=y) (fun i _=>l.length -(intOf i).toNat)
 case atStart=>exact⟨0,by omega,rfl,by omega,rfl⟩
 case round=>
  obtain⟨j,H,rfl,q,rfl⟩:=hrel
  have u:=Hp q
  clear q
  by_cases a:j<l.length
  ·have p:(j:Int)<l.length:=by omega
   obtain⟨O,R,C,rfl,o⟩:=F.out (by omega)
   obtain⟨J,K,G,B⟩:=o.get a a
   obtain⟨b,m⟩:=Nm (t.at j j)
   rw[<-m]at B
   have f:=Hp m
   clear o m
   cases b
   ·go_wp2_with fail
    go_roundw
    case rel=>exact⟨j+1,by omega,by go_num,fun k g=>by rcases Nat.lt_succ_iff_lt_or_eq.1 g with h|rfl;exact u.out k h;exact f.symm,trivial⟩
    case measure=>(simp[intOf];try omega)
   ·have n:=Hp (show R0=true by rw[s.out];exact List.any_eq_true.2 ⟨j,List.mem_range.2 a,f.symm⟩)
    go_wp2_with fail
    go_ret
    exact⟨aV n.symm,x.out⟩
  ·have n:=Hp (show R0=false by
    rw[s.out,List.any_eq_false]
    intro k g
    have:=List.mem_range.1 g
    rw[u.out k (by omega)];simp)
   go_wp2_with fail
   go_ret
   exact⟨aV n.symm,x.out⟩
end
section
open Go.RowKit
open Gs (Tx)
abbrev rgV (k:Krn)(A:Option Addr)(l:List Plc)(c:Nat):Value:=.agg #[.int .i64 k.major,.int .i64 k.minor,.slice k.eA k.ex.length k.eC,.slice A l.length c]
theorem FR (A:Option Addr)(c:Nat)(l:List Plc)(w:World)(h:aU w A l)(i:l.length<=8){b:Bool}(f:(rT l).isSome=b):
  Calls Tryz.prog 87 #[.slice A l.length c] w fun e a=>(∃d,e=.returned (.tuple #[d,.bool b]))/\Below w.heap.size w a:=
 (Ii A c l w h i).mono fun e a ⟨⟨v,j,_⟩,g⟩=>⟨⟨v,by rw[j,f]⟩,g⟩
theorem jE (k:Krn)(A:Option Addr)(c:Nat)(l:List Plc)(w:World)(v:k.ok w)(h:aU w A l):
  Calls Tryz.prog 23 #[rgV k A l c] w fun e O=>e=.returned (.int .i64 (aZ k l))/\Below w.heap.size w O:=by
 obtain⟨N,n⟩:=Nm (w.alloc (.cells #[.int .i64 k.major,.int .i64 k.minor,.slice k.eA k.ex.length k.eC,.slice A l.length c] 39))
 obtain⟨L,K,J,I,Y,r⟩:=oJ n
 have b:w.heap.size<N.heap.size:=by omega
 have m:=Hp r
 have G:=n.symm
 have z:=Hp (fun W(o:Below w.heap.size w W)=>uI k A c l W (v.below o) (h.below o))
 have y:=Hp (fun(e:aX k l=0)W(o:Below w.heap.size w W)=>FR A c l W (h.below o) (cZ (dM e).2.1).1 (Fg e))
 have u:=Hp (fun W(o:Below w.heap.size w W)=>Bo k A c l W (v.below o) (h.below o))
 have i:aX k l=0->iP k l=(bU k l l 0).2:=fun e=>by unfold iP;rw[if_neg (by omega)]
 obtain⟨E,j⟩:=Nm (aZ k l)
 rw[<-j]
 unfold aZ at j
 obtain⟨T,H⟩:=Nm (bs (TL k l))
 simp only[<-H]at u
 clear n r v h H
 generalize aX k l=le at*
 by_cases t:le=0
 ·subst t
  have d2:=Hp (y.out rfl)
  clear y
  have i:=i rfl
  rw[if_neg (by omega)]at j
  rw[i]at u
  clear i
  generalize eH l=rd at*
  generalize(bU k l l 0).2=ae at*
  cases rd
  ·rw[if_neg (by simp)]at j
   rw[Bool.not_false]at d2
   go_enter Tryz.func23,Tryz.ntmps23
   go_wp2_with (first
    |(go_at_call 86;(with_reducible refine(z.out _ m.out).mono ?_);rintro e s ⟨rfl,a⟩
      have f:=Hp (m.trans (a.mono m.size))
      have F:=(a.cell (p:=⟨w.heap.size,0,none⟩) b).trans L
      have D:=(a.cell (p:=⟨w.heap.size,1,none⟩) b).trans K
      have C:=(a.cell (p:=⟨w.heap.size,2,none⟩) b).trans J
      have B:=(a.cell (p:=⟨w.heap.size,3,none⟩) b).trans I
      have g:w.heap.size<s.heap.size:=(by have:=a.size;omega)
      clear a)
    |(go_at_call 87;(with_reducible refine(d2.out _ f.out).mono ?_);rintro e M ⟨⟨Q,rfl⟩,d⟩
      have q:=Hp (f.trans (d.mono f.size))
      have X:=(d.cell (p:=⟨w.heap.size,0,none⟩) g).trans F
      have V:=(d.cell (p:=⟨w.heap.size,1,none⟩) g).trans D
      have U:=(d.cell (p:=⟨w.heap.size,2,none⟩) g).trans C
      have S:=(d.cell (p:=⟨w.heap.size,3,none⟩) g).trans B
      clear d)
    |(go_at_call 24;(with_reducible refine(u.out _ q.out).mono ?_);rintro e R ⟨rfl,x⟩))
   go_ret
   exact⟨aC j.symm,q.trans (x.mono q.size)⟩
  ·rw[if_pos rfl]at j
   rw[Bool.not_true]at d2
   go_enter Tryz.func23,Tryz.ntmps23
   go_wp2_with (first
    |(go_at_call 86;(with_reducible refine(z.out _ m.out).mono ?_);rintro e s ⟨rfl,a⟩
      have f:=Hp (m.trans (a.mono m.size))
      have F:=(a.cell (p:=⟨w.heap.size,0,none⟩) b).trans L
      have D:=(a.cell (p:=⟨w.heap.size,1,none⟩) b).trans K
      have C:=(a.cell (p:=⟨w.heap.size,2,none⟩) b).trans J
      have B:=(a.cell (p:=⟨w.heap.size,3,none⟩) b).trans I
      have g:w.heap.size<s.heap.size:=(by have:=a.size;omega)
      clear a)
    |(go_at_call 87;(with_reducible refine(d2.out _ f.out).mono ?_);rintro e M ⟨⟨Q,rfl⟩,d⟩))
   go_ret
   exact⟨aC j.symm,f.trans (d.mono f.size)⟩
 ·rw[if_pos t]at j
  have P:(le != 0)=true:=by simp[t]
  clear t y u i
  go_enter Tryz.func23,Tryz.ntmps23
  go_wp2_with (go_at_call 86;(with_reducible refine(z.out _ m.out).mono ?_);rintro e s ⟨rfl,a⟩)
  go_ret
  exact⟨aC j.symm,m.trans (a.mono m.size)⟩
theorem gH (k:Krn)(A:Option Addr)(c:Nat)(l:List Plc)(w:World)(v:k.ok w)(h:aU w A l):
  Calls Tryz.prog 38 #[rgV k A l c] w fun e O=>e=.returned (.int .i64 (aZ k l))/\Below w.heap.size w O:=by
 obtain⟨N,n⟩:=Nm (w.alloc (.cells #[.int .i64 k.major,.int .i64 k.minor,.slice k.eA k.ex.length k.eC,.slice A l.length c] 39))
 obtain⟨L,K,J,I,X,r⟩:=oJ n
 have b:w.heap.size<N.heap.size:=by omega
 have m:=Hp r
 have G:=n.symm
 have z:=Hp (fun W(o:Below w.heap.size w W)=>CK k A c l W (v.below o) (h.below o))
 have y:=Hp (fun(e:aX k l=0)W(o:Below w.heap.size w W)=>Hw A c l W (h.below o) (cZ (dM e).2.1).1)
 have u:=Hp (fun(e:aX k l=0)W(o:Below w.heap.size w W)=>Ij k A c l W (v.below o) (h.below o) e)
 have i:aX k l=0->iP k l=(bU k l l 0).2:=fun e=>by unfold iP;rw[if_neg (by omega)]
 obtain⟨E,j⟩:=Nm (aZ k l)
 rw[<-j]
 unfold aZ at j
 obtain⟨T,H⟩:=Nm (bs (TL k l))
 simp only[<-H]at u
 clear n r v h H
 generalize aX k l=le at*
 by_cases t:le=0
 ·subst t
  have d2:=Hp (y.out rfl)
  clear y
  have d3:=Hp (u.out rfl)
  clear u
  have i:=i rfl
  rw[if_neg (by omega)]at j
  rw[i]at d3
  clear i
  generalize eH l=rd at*
  generalize(bU k l l 0).2=ae at*
  cases rd
  ·rw[if_neg (by simp)]at j
   go_enter Tryz.func38,Tryz.ntmps38
   go_wp2_with (first
    |(go_at_call 101;(with_reducible refine(z.out _ m.out).mono ?_);rintro e s ⟨rfl,a⟩
      have f:=Hp (m.trans (a.mono m.size))
      have F:=(a.cell (p:=⟨w.heap.size,0,none⟩) b).trans L
      have D:=(a.cell (p:=⟨w.heap.size,1,none⟩) b).trans K
      have C:=(a.cell (p:=⟨w.heap.size,2,none⟩) b).trans J
      have B:=(a.cell (p:=⟨w.heap.size,3,none⟩) b).trans I
      have g:w.heap.size<s.heap.size:=(by have:=a.size;omega)
      clear a)
    |(go_at_call 102;(with_reducible refine(d2.out _ f.out).mono ?_);rintro e M ⟨rfl,d⟩
      have q:=Hp (f.trans (d.mono f.size))
      have V:=(d.cell (p:=⟨w.heap.size,0,none⟩) g).trans F
      have U:=(d.cell (p:=⟨w.heap.size,1,none⟩) g).trans D
      have S:=(d.cell (p:=⟨w.heap.size,2,none⟩) g).trans C
      have R:=(d.cell (p:=⟨w.heap.size,3,none⟩) g).trans B
      clear d)
    |(go_at_call 103;(with_reducible refine(d3.out _ q.out).mono ?_);rintro e Q ⟨rfl,x⟩))
   go_ret
   exact⟨aC j.symm,q.trans (x.mono q.size)⟩
  ·rw[if_pos rfl]at j
   go_enter Tryz.func38,Tryz.ntmps38
   go_wp2_with (first
    |(go_at_call 101;(with_reducible refine(z.out _ m.out).mono ?_);rintro e s ⟨rfl,a⟩
      have f:=Hp (m.trans (a.mono m.size))
      have F:=(a.cell (p:=⟨w.heap.size,0,none⟩) b).trans L
      have D:=(a.cell (p:=⟨w.heap.size,1,none⟩) b).trans K
      have C:=(a.cell (p:=⟨w.heap.size,2,none⟩) b).trans J
      have B:=(a.cell (p:=⟨w.heap.size,3,none⟩) b).trans I
      have g:w.heap.size<s.heap.size:=(by have:=a.size;omega)
      clear a)
    |(go_at_call 102;(with_reducible refine(d2.out _ f.out).mono ?_);rintro e M ⟨rfl,d⟩))
   go_ret
   exact⟨aC j.symm,f.trans (d.mono f.size)⟩
 ·rw[if_pos t]at j
  have P:(le==0)=false:=by simp[t]
  clear t y u i
  go_enter Tryz.func38,Tryz.ntmps38
  go_wp2_with (go_at_call 101;(with_reducible refine(z.out _ m.out).mono ?_);rintro e s ⟨rfl,a⟩)
  go_ret
  exact⟨aC j.symm,m.trans (a.mono m.size)⟩
end
end Go.Proofs.YtjiedaialianmaaGreat
