import Derived.Test.YtjiedaialianmaaGreatA11
import Derived.Test.YtjiedaialianmaaGreatA12
set_option maxRecDepth 100000
set_option maxHeartbeats 8000000
namespace Go.Proofs.YtjiedaialianmaaGreat
section
open Go.RowKit
open Gs (Tx)
def ffs (n:Nat):ByteArray:=⟨(List.replicate n 255).toArray⟩
theorem Aj (n:Nat):(ffs n).size=n:=by simp[ffs,ByteArray.size]
theorem Ck :∀n,Lib.repeatL [255] n=List.replicate n 255
 |0=>rfl
 |n+1=>by rw[Lib.repeatL,Ck n,List.replicate_succ];rfl
theorem uQ (n:Nat)(w:World)(hn:n<=16):Calls Tryz.prog 90 #[.int .i64 n] w fun e w'=>e=.returned (.string (ffs (64*n)))/\Below w.heap.size w w':=by
 have cR:=Hp (fun W=>Tryz.strings_Repeat ⟨#[255]⟩ (64*n) W (by omega) (by show 1*(64*n)<=_;omega))
 have hb:(⟨(Lib.repeatL (⟨#[255]⟩:ByteArray).data.toList (64*n)).toArray⟩:ByteArray)=ffs (64*n):=by
  show(⟨(Lib.repeatL [255] (64*n)).toArray⟩:ByteArray)=_
  rw[Ck];rfl
 rw[hb]at cR
 have e1:(((64*n:Nat)):Int)=(n:Int)*64:=by omega
 rw[e1]at cR
 generalize ffs (64*n)=B at*
 clear hb e1
 go_enter Tryz.func90,Tryz.ntmps90
 go_wp2_with (go_at_call 166;refine(cR.out _).mono ?_;rintro e w' ⟨rfl,hb⟩)
 go_ret
 exact⟨rfl,hb⟩
theorem uI (k:Krn)(A:Option Addr)(c:Nat)(l:List Plc)(w:World)(hk:k.ok w)(h:aU w A l):
  Calls Tryz.prog 86 #[k.v,.slice A l.length c] w fun e w'=>e=.returned (.int .i64 (aX k l))/\Below w.heap.size w w':=by
 obtain⟨w0,hw0⟩:=Nm (w.alloc (.cells #[.int .i64 k.major,.int .i64 k.minor,.slice k.eA k.ex.length k.eC] 24))
 obtain⟨g0,g1,g2,hz,hb0⟩:=uE hw0
 have H0:=Hp hb0
 have hw0':=hw0.symm
 have c1:=Hp (Br k w0 (hk.below hb0))
 have c2:=Hp (fun W(hb:Below w.heap.size w W)=>Ji A c l W (h.below hb))
 have c3:=Hp (fun(e:RY l=0)W(hb:Below w.heap.size w W)=>LQ A c l W (h.row.below hb) (cZ e).1)
 obtain⟨E,hE⟩:=Nm (aX k l)
 rw[<-hE]
 unfold aX at hE
 clear hw0 hb0 hk h
 generalize bJ k=ke at*
 generalize RY l=re at*
 generalize dD l=tw at*
 by_cases t1:ke=0
 ·obtain rfl:=t1
  rw[if_neg (by omega)]at hE
  by_cases t2:re=0
  ·obtain rfl:=t2
   rw[if_neg (by omega)]at hE
   have c4:=Hp (c3.out rfl)
   cases tw
   ·rw[if_neg (by simp)]at hE
    go_enter Tryz.func86,Tryz.ntmps86
    go_wp2_with (first|(go_at_call 84;(with_reducible refine(c1.out).mono ?_);rintro e w1 ⟨rfl,hb1⟩)|(go_at_call 137;(with_reducible refine(c2.out _ (H0.out.trans (hb1.mono (by omega)))).mono ?_);rintro e w2 ⟨rfl,hb2⟩)|(go_at_call 155;(with_reducible refine(c4.out _ ((H0.out.trans (hb1.mono (by omega))).trans (hb2.mono (by have:=hb1.size;omega)))).mono ?_);rintro e w3 ⟨rfl,hb3⟩))
    go_ret
    exact⟨aC hE.symm,((H0.trans (hb1.mono (by omega))).trans (hb2.mono (by have:=hb1.size;omega))).trans (hb3.mono (by have:=hb1.size;have:=hb2.size;omega))⟩
   ·rw[if_pos rfl]at hE
    go_enter Tryz.func86,Tryz.ntmps86
    go_wp2_with (first|(go_at_call 84;(with_reducible refine(c1.out).mono ?_);rintro e w1 ⟨rfl,hb1⟩)|(go_at_call 137;(with_reducible refine(c2.out _ (H0.out.trans (hb1.mono (by omega)))).mono ?_);rintro e w2 ⟨rfl,hb2⟩)|(go_at_call 155;(with_reducible refine(c4.out _ ((H0.out.trans (hb1.mono (by omega))).trans (hb2.mono (by have:=hb1.size;omega)))).mono ?_);rintro e w3 ⟨rfl,hb3⟩))
    go_ret
    exact⟨aC hE.symm,((H0.trans (hb1.mono (by omega))).trans (hb2.mono (by have:=hb1.size;omega))).trans (hb3.mono (by have:=hb1.size;have:=hb2.size;omega))⟩
  ·rw[if_pos t2]at hE
   have t2':(re==0)=false:=by simp[t2]
   clear t2 c3
   go_enter Tryz.func86,Tryz.ntmps86
   go_wp2_with (first|(go_at_call 84;(with_reducible refine(c1.out).mono ?_);rintro e w1 ⟨rfl,hb1⟩)|(go_at_call 137;(with_reducible refine(c2.out _ (H0.out.trans (hb1.mono (by omega)))).mono ?_);rintro e w2 ⟨rfl,hb2⟩))
   go_ret
   exact⟨aC hE.symm,(H0.trans (hb1.mono (by omega))).trans (hb2.mono (by have:=hb1.size;omega))⟩
 ·rw[if_pos t1]at hE
  have t1':(ke==0)=false:=by simp[t1]
  clear t1 c2 c3
  go_enter Tryz.func86,Tryz.ntmps86
  go_wp2_with (first|(go_at_call 84;(with_reducible refine(c1.out).mono ?_);rintro e w1 ⟨rfl,hb1⟩))
  go_ret
  exact⟨aC hE.symm,H0.trans (hb1.mono (by omega))⟩
def Cu (x:Plc)(sA:Option Addr)(n sC:Nat)(s:ByteArray):Array Value:=
 #[.string x.m.name,.int .i64 x.m.major,.int .i64 x.m.minor,.string x.m.text,.slice x.m.eA x.m.ex.length x.m.eC,.slice x.m.iA x.m.im.length x.m.iC,.slice x.m.pA x.m.pa.length x.m.pC,.int .i64 x.first,.slice sA n sC,.string s]
def Lk (w:World)(p:Nat)(x:Plc)(sA:Option Addr)(n sC:Nat)(s:ByteArray):Prop:=w.heap[p]? =some (.cells (Cu x sA n sC s) 207 (0,0))
section
variable {w w':World} {p:Nat} {x:Plc} {sA:Option Addr} {n sC:Nat} {s:ByteArray}
theorem Lk.cell (h:Lk w p x sA n sC s)(i:Nat):w.cell? ⟨p,i,none⟩=(Cu x sA n sC s)[i]?:=cell_of_row _ _ _ _ _ _ h
theorem Lk.lt (h:Lk w p x sA n sC s):p<w.heap.size:=by
 rcases Nat.lt_or_ge p w.heap.size with h'|h'
 ·exact h'
 ·unfold Lk at h;rw[Array.getElem?_eq_none h']at h;cases h
theorem Lk.frozen (h:Lk w p x sA n sC s)(i:Nat):w.frozen? ⟨p,i,none⟩=false:=frozen_of_row _ _ _ _ _ h
theorem Lk.kept (h:Lk w p x sA n sC s)(hb:Below w.heap.size w w'):Lk w' p x sA n sC s:=(hb.block p h.lt).trans h
theorem Lk.put (h:Lk w p x sA n sC s)(t:ByteArray):Lk (w.setCell ⟨p,9,none⟩ (.string t)) p x sA n sC t:=heap_setCell_same w p 9 _ _ _ h
end
theorem VL (x:Plc)(p:Nat)(w:World)(h:w.cell? ⟨p,7,none⟩=some (.int .i64 x.first))(h0:0<=x.first)(h1:x.first<=16):
  Calls Tryz.prog 222 #[.pointer (some ⟨p,0,none⟩)] w fun e w'=>e=.returned (.int .i64 (bV x))/\w=w':=by
 have q1:IntKind.i64.wrap (x.first*64)=x.first*64:=IntWalk.i64_in _ (by omega)
 have q2:IntKind.i64.wrap (4096+x.first*64)=4096+x.first*64:=IntWalk.i64_in _ (by omega)
 have e1:=Hp (show 4096+x.first*64=bV x by unfold bV;omega)
 go_enter Tryz.func222,Tryz.ntmps222
 go_wp2_with fail
 go_ret
 exact⟨aC e1.out,rfl⟩
end
section
open Go.RowKit
open Gs (Tx)
theorem Ai (w:World)(b i:Nat)(v:Value):w.grownBy (w.setCell ⟨b,i,none⟩ v) (some b):=⟨rfl,rfl,rfl,by simp,fun k _ hne=>Below.heap_setCell _ _ _ _ (fun e=>hne (by rw[e]))⟩
theorem KR {w w':World}{A:Option Addr}{l:List Int}(h:AB w A l)(hb:Below w.heap.size w w')(i:Nat)(hi:i<l.length):∃ad,A=some ad/\ad.block<w.heap.size/\w'.cell? (ad.add i)=some (iv l[i]):=by
 obtain⟨ad,rfl,hab,hc⟩:=Row.at_ (enc:=fun n=>[iv n]) (k:=1) (fun _=>rfl) h i hi
 have e0:=hc 0 _ rfl
 rw[add_zero_,Nat.mul_one]at e0
 exact⟨ad,rfl,hab,(hb.cell (by rw[aA];exact hab)).trans e0⟩
theorem JF (x:Plc)(p:Nat)(sA:Option Addr)(sC:Nat)(ns:List Int)(s:ByteArray)(q:Pat)(w:World)(h:Lk w p x sA ns.length sC s)(hr:AB w sA ns)(hs:s.size<=140737488351232)(h0:0<=x.first)(h1:x.first<=16)(hq:q.sym<ns.length):
  Calls Tryz.prog 163 #[.pointer (some ⟨p,0,none⟩),.agg #[.int .i64 q.kind,.int .i64 q.at_,.int .i64 q.sym,.int .i64 q.add]] w fun e w'=>
   e=.returned (.int .i64 (RO s.size q.kind q.at_ q.add (iX ns (bV x) q) (bV x)))/\Lk w' p x sA ns.length sC (bS s q.kind q.at_ q.add (iX ns (bV x) q) (bV x))/\w.grownBy w' (some p):=by
 obtain⟨w0,hw0⟩:=Nm (w.alloc (.cells #[.int .i64 q.kind,.int .i64 q.at_,.int .i64 q.sym,.int .i64 q.add] 180))
 obtain⟨q0,q1,q2,q3,hz0,hb0⟩:=oJ hw0
 have hplt:=h.lt
 have hL0:=h.kept hb0
 have HR0:=Hp (hr.below hb0)
 have HL0:=Hp hL0
 have H0:=Hp hb0
 have HZ0:=Hp hz0
 have z7:w0.cell? ⟨p,7,none⟩=some (.int .i64 x.first):=hL0.cell 7
 have z8:w0.cell? ⟨p,8,none⟩=some (.slice sA ns.length sC):=hL0.cell 8
 have z9:w0.cell? ⟨p,9,none⟩=some (.string s):=hL0.cell 9
 have hw0':=hw0.symm
 have cB0:=Hp (VL x p w0 z7 h0 h1)
 obtain⟨B,hBB⟩:=Nm (bV x)
 obtain⟨S,hSS⟩:=Nm (iX ns (bV x) q)
 have hS:=hSS
 unfold iX at hS
 have cA:=Hp (fun W=>LZ s q.kind q.at_ q.sym q.add S B W hs)
 rw[<-hSS,<-hBB]
 rw[<-hBB]at hS cB0
 have HBO:=Hp hBB.symm
 obtain⟨E,hEE⟩:=Nm (RO s.size q.kind q.at_ q.add S B)
 obtain⟨T,hTT⟩:=Nm (bS s q.kind q.at_ q.add S B)
 simp only[<-hEE,<-hTT]at cA ⊢
 clear hSS hEE hTT hBB hw0 hb0 hL0 hr h
 by_cases t:q.sym<0
 ·rw[if_pos t]at hS
  subst hS
  have t':decide (0<=q.sym)=false:=by simp;omega
  clear t hq
  have HZ:=Hp (show Below w0.heap.size w0 w0/\w0.cell? ⟨p,9,none⟩=some (.string s)/\w0.cell? ⟨p,7,none⟩=some (.int .i64 x.first)/\w0.cell? ⟨w.heap.size,0,none⟩=some (.int .i64 q.kind)/\w0.cell? ⟨w.heap.size,1,none⟩=some (.int .i64 q.at_)/\w0.cell? ⟨w.heap.size,2,none⟩=some (.int .i64 q.sym)/\w0.cell? ⟨w.heap.size,3,none⟩=some (.int .i64 q.add) from⟨GZ4 _ _,z9,z7,q0,q1,q2,q3⟩)
  have hwp:p<w0.heap.size:=by omega
  have hwb:w.heap.size<w0.heap.size:=by omega
  clear z7 z8 hz0
  go_enter Tryz.func163,Tryz.ntmps163
  go_wp2_with (go_at_call 222;(with_reducible refine(cB0.out).mono ?_);rintro e w' ⟨rfl,rfl⟩)
  obtain⟨wz,hwz⟩:=Nm w0
  subst hwz
  have HGZ:=Hp (kM H0 (some p))
  have HLZ:=HL0
  clear z9 q0 q1 q2 q3
  obtain⟨hBZ,z9,z7,q0,q1,q2,q3⟩:=HZ.out
  have z7':=z7
  have HCH:=Hp (show fI wz (fun W'=>Below wz.heap.size wz W'/\W'.cell? ⟨p,9,none⟩=some (.string s)/\W'.cell? ⟨p,7,none⟩=some (.int .i64 x.first)/\W'.cell? ⟨w.heap.size,0,none⟩=some (.int .i64 q.kind)/\W'.cell? ⟨w.heap.size,1,none⟩=some (.int .i64 q.at_)/\W'.cell? ⟨w.heap.size,2,none⟩=some (.int .i64 q.sym)/\W'.cell? ⟨w.heap.size,3,none⟩=some (.int .i64 q.add)) from dE (by repeat' first|(with_reducible exact bC.cell (by first|omega|(simp;omega)|(simp only[aA];omega)))|refine bC.and ?_ ?_))
  have HC0:=Hp (HCH.now ⟨GZ4 _ _,by assumption,by assumption,by assumption,by assumption,by assumption,by assumption⟩)
  have HCD:=Hp HCH.D
  have HCS:=Hp HCH.S
  have HCA:=Hp HCH.A
  have HCX:=Hp HCH.X
  have HCL:=Hp HCH.L
  have cB:=Hp (fun W(h:W.cell? ⟨p,7,none⟩=some (.int .i64 x.first))=>VL x p W h h0 h1)
  rw[HBO.out]at cB
  clear z9 z7 q0 q1 q2 q3 z7' hBZ
  go_region_held3 (fun W'=>Below wz.heap.size wz W'/\W'.cell? ⟨p,9,none⟩=some (.string s)/\W'.cell? ⟨p,7,none⟩=some (.int .i64 x.first)/\W'.cell? ⟨w.heap.size,0,none⟩=some (.int .i64 q.kind)/\W'.cell? ⟨w.heap.size,1,none⟩=some (.int .i64 q.at_)/\W'.cell? ⟨w.heap.size,2,none⟩=some (.int .i64 q.sym)/\W'.cell? ⟨w.heap.size,3,none⟩=some (.int .i64 q.add)) (first|exact HC0.out|exact HCD.out _ HC0.out|exact HCS.out _ _ (by assumption) (by assumption)|exact HCS.out _ _ HC0.out (by assumption)|exact HCS.out _ _ (HCD.out _ HC0.out) (by assumption)|exact HCS.out _ _ (HCD.out _ (by assumption)) (by assumption)|exact HCD.out _ (by assumption)|exact HCA.out _ _ (by assumption)|exact HCA.out _ _ HC0.out|exact HCA.out _ _ (HCD.out _ HC0.out)|exact HCD.out _ (HCA.out _ _ (by assumption))|exact HCA.out _ _ (HCS.out _ _ HC0.out (by assumption))|exact HCA.out _ _ (HCS.out _ _ (HCD.out _ HC0.out) (by assumption))|exact HCX.out _ _ _ _ (GZ3 _) (by assumption)|exact HCX.out _ _ _ _ (GZ3 _) (HCS.out _ _ (HCA.out _ _ HC0.out) (by assumption))|exact HCX.out _ _ _ _ (GZ3 _) (HCS.out _ _ (HCD.out _ (HCA.out _ _ HC0.out)) (by assumption))|assumption) (first|(go_at_call 222;(with_reducible refine(cB.out _ ?_).mono ?_);(first|exact HC0.out.2.2.1|exact(HCD.out _ HC0.out).2.2.1|exact(And.right (And.right (by assumption))).1);rintro e w' ⟨rfl,rfl⟩)|(go_at_call 223;(with_reducible refine(cA.out _).mono ?_);rintro e w3 ⟨rfl,hb3⟩))
  have hB:=HCL.out _ (by assumption)
  have HBZ:=Hp hB
  have hLq:=Hp (HLZ.kept hB)
  have z9:w3.cell? ⟨p,9,none⟩=some (.string s):=hLq.cell 9
  have z9f:=hLq.frozen 9
  clear hB
  go_wp2_with fail
  go_ret
  exact⟨rfl,hLq.put _,HGZ.trans ((kM HBZ.out (some p)).trans (Ai _ p 9 _))⟩
 ·rw[if_neg t]at hS
  obtain⟨m,hm⟩:∃m:Nat,q.sym=m:=⟨q.sym.toNat,by omega⟩
  have hml:m<ns.length:=by omega
  have hml':(m:Int)<ns.length:=by omega
  rw[hm]at hS q2 t hw0'
  have t':decide (0<=(m:Int))=true:=by simp
  rw[Int.toNat_natCast,List.getD_eq_getElem?_getD,GY5 hml,Option.getD_some]at hS
  obtain⟨ad,rfl,hab,i0⟩:=KR HR0.out (GZ4 _ _) m hml
  rw[<-hS]at i0
  rw[hm]at cA ⊢
  have hwp:p<w0.heap.size:=by omega
  have hwb:w.heap.size<w0.heap.size:=by omega
  have HQ:=Hp (And.intro z9 (And.intro z7 (And.intro q0 (And.intro q1 (And.intro q2 q3)))))
  clear z7 z9 hz0 hS hq t hm q0 q1 q3
  go_enter Tryz.func163,Tryz.ntmps163
  go_wp2_with (go_at_call 222;(with_reducible refine(cB0.out).mono ?_);rintro e w' ⟨rfl,rfl⟩)
  go_quiet (fail)
  go_wp2_with fail
  obtain⟨wz,hwz⟩:=Nm (w0.drewN nq)
  rw[<-hwz]
  have HGZ:=Hp (show w.grownBy wz (some p) from hwz▸(kM (below_drewN H0.out nq) (some p)))
  have HLZ:=Hp (show Lk wz p x (some ad) ns.length sC s from hwz▸HL0.out)
  have HZ:=Hp (show Below wz.heap.size wz wz/\wz.cell? ⟨p,9,none⟩=some (.string s)/\wz.cell? ⟨p,7,none⟩=some (.int .i64 x.first)/\wz.cell? ⟨w.heap.size,0,none⟩=some (.int .i64 q.kind)/\wz.cell? ⟨w.heap.size,1,none⟩=some (.int .i64 q.at_)/\wz.cell? ⟨w.heap.size,2,none⟩=some (.int .i64 m)/\wz.cell? ⟨w.heap.size,3,none⟩=some (.int .i64 q.add) from⟨GZ4 _ _,by subst hwz;exact HQ.out⟩)
  have hwp':p<wz.heap.size:=by rw[hwz];exact hwp
  have hwb':w.heap.size<wz.heap.size:=by rw[hwz];exact hwb
  clear hwz i0 z8 q2
  obtain⟨hBZ,z9,z7,q0,q1,q2,q3⟩:=HZ.out
  have z7':=z7
  have HCH:=Hp (show fI wz (fun W'=>Below wz.heap.size wz W'/\W'.cell? ⟨p,9,none⟩=some (.string s)/\W'.cell? ⟨p,7,none⟩=some (.int .i64 x.first)/\W'.cell? ⟨w.heap.size,0,none⟩=some (.int .i64 q.kind)/\W'.cell? ⟨w.heap.size,1,none⟩=some (.int .i64 q.at_)/\W'.cell? ⟨w.heap.size,2,none⟩=some (.int .i64 m)/\W'.cell? ⟨w.heap.size,3,none⟩=some (.int .i64 q.add)) from dE (by repeat' first|(with_reducible exact bC.cell (by first|omega|(simp;omega)|(simp only[aA];omega)))|refine bC.and ?_ ?_))
  have HC0:=Hp (HCH.now ⟨GZ4 _ _,by assumption,by assumption,by assumption,by assumption,by assumption,by assumption⟩)
  have HCD:=Hp HCH.D
  have HCS:=Hp HCH.S
  have HCA:=Hp HCH.A
  have HCX:=Hp HCH.X
  have HCL:=Hp HCH.L
  have cB:=Hp (fun W(h:W.cell? ⟨p,7,none⟩=some (.int .i64 x.first))=>VL x p W h h0 h1)
  rw[HBO.out]at cB
  clear z9 z7 q0 q1 q2 q3 z7' hBZ
  go_region_held3 (fun W'=>Below wz.heap.size wz W'/\W'.cell? ⟨p,9,none⟩=some (.string s)/\W'.cell? ⟨p,7,none⟩=some (.int .i64 x.first)/\W'.cell? ⟨w.heap.size,0,none⟩=some (.int .i64 q.kind)/\W'.cell? ⟨w.heap.size,1,none⟩=some (.int .i64 q.at_)/\W'.cell? ⟨w.heap.size,2,none⟩=some (.int .i64 m)/\W'.cell? ⟨w.heap.size,3,none⟩=some (.int .i64 q.add)) (first|exact HC0.out|exact HCD.out _ HC0.out|exact HCS.out _ _ (by assumption) (by assumption)|exact HCS.out _ _ HC0.out (by assumption)|exact HCS.out _ _ (HCD.out _ HC0.out) (by assumption)|exact HCS.out _ _ (HCD.out _ (by assumption)) (by assumption)|exact HCD.out _ (by assumption)|exact HCA.out _ _ (by assumption)|exact HCA.out _ _ HC0.out|exact HCA.out _ _ (HCD.out _ HC0.out)|exact HCD.out _ (HCA.out _ _ (by assumption))|exact HCA.out _ _ (HCS.out _ _ HC0.out (by assumption))|exact HCA.out _ _ (HCS.out _ _ (HCD.out _ HC0.out) (by assumption))|exact HCX.out _ _ _ _ (GZ3 _) (by assumption)|exact HCX.out _ _ _ _ (GZ3 _) (HCS.out _ _ (HCA.out _ _ HC0.out) (by assumption))|exact HCX.out _ _ _ _ (GZ3 _) (HCS.out _ _ (HCD.out _ (HCA.out _ _ HC0.out)) (by assumption))|assumption) (first|(go_at_call 222;(with_reducible refine(cB.out _ ?_).mono ?_);(first|exact HC0.out.2.2.1|exact(HCD.out _ HC0.out).2.2.1|exact(And.right (And.right (by assumption))).1);rintro e w' ⟨rfl,rfl⟩)|(go_at_call 223;(with_reducible refine(cA.out _).mono ?_);rintro e w3 ⟨rfl,hb3⟩))
  have hB:=HCL.out _ (by assumption)
  have HBZ:=Hp hB
  have hLq:=Hp (HLZ.kept hB)
  have z9:w3.cell? ⟨p,9,none⟩=some (.string s):=hLq.cell 9
  have z9f:=hLq.frozen 9
  clear hB
  go_wp2_with fail
  go_ret
  exact⟨rfl,hLq.put _,HGZ.trans ((kM HBZ.out (some p)).trans (Ai _ p 9 _))⟩
end
section
open Go.RowKit
open Gs (Tx)
theorem Tf {k:Krn}{l:List Plc}:∀{r:List Imp},(aN k l r).2=0->(aN k l r).1.length=r.length
 | [],_=>rfl
 |i::r,h=>by
  unfold aN at h ⊢
  by_cases h1:(addrOf k l i).2=0
  ·rw[if_neg (by omega)]at h ⊢
   by_cases h2:(aN k l r).2=0
   ·rw[if_neg (by omega)]
    simp[Tf h2]
   ·rw[if_pos h2]at h;exact absurd h h2
  ·rw[if_pos h1]at h;exact absurd h h1
theorem KN {z ni:Int}:∀{l:List Pat}{e:Int},Rp z ni e l=0->∀p∈l,p.sym<ni
 |p::l,e,h,q,hq=>by
  unfold Rp at h
  by_cases h1:iM z ni e p=0
  ·rw[if_neg (by omega)]at h
   rcases List.mem_cons.1 hq with rfl|hq
   ·unfold iM at h1
    split at h1
    ·omega
    ·split at h1
     ·omega
     ·omega
   ·exact KN h q hq
  ·rw[if_pos h1]at h;exact absurd h h1
theorem GY {m:Mod}(h:aL m=0):∀p∈m.pa,p.sym<m.im.length:=by
 have hf:=aY h
 have h5:=hf.2.2.2.2.2.2.2.2.1
 have h6:=hf.2.2.2.2.2.2.2.2.2.1
 unfold aL at h
 obtain⟨a1,a2,a3,a4,a5,a6,a7,a8,_,_,a9⟩:=hf
 rw[if_neg (by simp[a1,a2]),if_neg (by omega),if_neg (by omega),if_neg (by omega),if_neg (by omega),if_neg (by omega)]at h
 exact KN h
theorem U3 {at_:List Int}{base:Int}{pa:List Pat}{s:ByteArray}{j:Nat}(h:j<pa.length)(e:RO s.size pa[j].kind pa[j].at_ pa[j].add (iX at_ base pa[j]) base≠0):
  bH at_ base (pa.drop j) s=(⟨#[]⟩,RO s.size pa[j].kind pa[j].at_ pa[j].add (iX at_ base pa[j]) base):=by
 rw[GY4 h,bH,if_pos e]
theorem sQ {at_:List Int}{base:Int}{pa:List Pat}{s:ByteArray}{j:Nat}(h:j<pa.length)(e:RO s.size pa[j].kind pa[j].at_ pa[j].add (iX at_ base pa[j]) base=0):
  bH at_ base (pa.drop (j+1)) (bS s pa[j].kind pa[j].at_ pa[j].add (iX at_ base pa[j]) base)=bH at_ base (pa.drop j) s:=by
 conv=>rhs;rw[GY4 h,bH,if_neg (by omega)]
theorem U9 {at_:List Int}{base:Int}{pa:List Pat}{s:ByteArray}{j:Nat}(h:¬j<pa.length):bH at_ base (pa.drop j) s=(s,0):=by
 rw[List.drop_eq_nil_of_le (by omega)];rfl
theorem Ll (n:Nat)(s:ByteArray):s++(ffs n).extract s.size (ffs n).size=bs (pad n (tx s)):=by
 refine ba_eq ?_
 rw[dY]
 rw[Lib.extract_to_end]
 show tx s++((List.replicate n 255).toArray.toList.drop s.size)=(pad n (tx s)).toArray.toList
 simp only[pad,List.drop_replicate]
 rfl
theorem Dc (k:Krn)(A:Option Addr)(c:Nat)(l:List Plc)(x:Plc)(w:World)(hk:k.ok w)(h:aU w A l)(hx:x.m.ok w)(hp:iB k l=0)(hm:aL x.m=0)(h0:0<=x.first)(h1:x.first<=16):
  Calls Tryz.prog 88 #[k.v,.slice A l.length c,x.v] w fun e w'=>e=.returned (.tuple #[.string (bs (fE k l x).1),.int .i64 (fE k l x).2])/\Below w.heap.size w w':=by
 obtain⟨X,hX⟩:=Nm x
 obtain⟨⟨nm,mj,mn,tt,ex,im,pa,eA,eC,iA,iC,pA,pC⟩,fi⟩:=x
 obtain⟨wk,hwk⟩:=Nm (w.alloc (.cells #[.int .i64 k.major,.int .i64 k.minor,.slice k.eA k.ex.length k.eC] 24))
 obtain⟨g0,g1,g2,hzk,hbk⟩:=uE hwk
 obtain⟨w0,hw0⟩:=Nm (wk.alloc (.cells #[.string nm,.int .i64 mj,.int .i64 mn,.string tt,.slice eA ex.length eC,.slice iA im.length iC,.slice pA pa.length pC,.int .i64 fi] 83))
 obtain⟨f0,f1,f2,f3,f4,f5,f6,f7,hz0,hb0⟩:=zH hw0
 rw[hzk]at f0 f1 f2 f3 f4 f5 f6 f7 hz0 hb0
 have k0:=(hb0.cell (p:=⟨w.heap.size,0,none⟩) (by simp)).trans g0
 have k1:=(hb0.cell (p:=⟨w.heap.size,1,none⟩) (by simp)).trans g1
 have k2:=(hb0.cell (p:=⟨w.heap.size,2,none⟩) (by simp)).trans g2
 have hbw:=hbk.trans (hb0.mono (by omega))
 have H0:=Hp hbw
 have hwk':=hwk.symm
 have hw0':=hw0.symm
 have hfm:=aY hm
 have HPS:=Hp (show∀p∈pa,p.sym<im.length from GY hm)
 obtain⟨mt1,mt2,mt3⟩:(tt.size:Int)<=64*aH X.m/\64*aH X.m<tt.size+64/\0<=aH X.m:=by rw[hX];exact xC _
 have hMany:1<=aH X.m/\aH X.m<=4:=by rw[hX];exact gK hm
 have ht:tt.size<=256:=hfm.2.2.1
 have hi6:im.length<=6:=hfm.2.2.2.2.2.2.1
 have hpl:pa.length<=12:=hfm.2.2.2.2.2.2.2.1
 have hf0:0<=X.first:=by rw[hX];exact h0
 have hf1:X.first<=16:=by rw[hX];exact h1
 have cA:=Hp (CZ k A c l nm tt mj mn ex im pa eA iA pA eC iC pC w0 (hk.below hbw) (h.below hbw) (hx.below hbw).im hi6 hp)
 have cM:=Hp (show∀W,Calls Tryz.prog 164 #[.agg #[.string nm,.int .i64 mj,.int .i64 mn,.string tt,.slice eA ex.length eC,.slice iA im.length iC,.slice pA pa.length pC]] W fun e w'=>e=.returned (.int .i64 (aH X.m))/\Below W.heap.size W w' from fun W=>by rw[hX];exact qG ⟨nm,mj,mn,tt,ex,im,pa,eA,eC,iA,iC,pA,pC⟩ W (show tt.size<=big by unfold big;omega))
 have HAL:=Hp (Tf (k:=k) (l:=l) (r:=im))
 have HPA:=Hp (show Row Pat.cells 4 w0 pA pa from(hx.below hbw).pa.1)
 have HLK:=Hp (show∀(W:World)sA n sC,Lk (W.alloc (.cells #[.string nm,.int .i64 mj,.int .i64 mn,.string tt,.slice eA ex.length eC,.slice iA im.length iC,.slice pA pa.length pC,.int .i64 fi,.slice sA n sC,.string tt] 207)) W.heap.size X sA n sC tt from fun W sA n sC=>by rw[hX];exact heap_alloc_new _ _)
 have hI:fE k l X=if(aN k l im).2≠0 then([],(aN k l im).2)else if(bH (aN k l im).1 (bV X) pa tt).2≠0 then([],(bH (aN k l im).1 (bV X) pa tt).2)else(pad (64*(aH X.m).toNat) (tx (bH (aN k l im).1 (bV X) pa tt).1),0):=by rw[hX];rfl
 change Calls Tryz.prog 88 #[k.v,.slice A l.length c,.agg #[.string nm,.int .i64 mj,.int .i64 mn,.string tt,.slice eA ex.length eC,.slice iA im.length iC,.slice pA pa.length pC,.int .i64 fi]] w _
 rw[<-hX]
 obtain⟨I,hII⟩:=Nm (fE k l X)
 rw[<-hII]at hI ⊢
 generalize aN k l im=ad at*
 obtain⟨ns,er⟩:=ad
 simp only at cA HAL hI
 clear hII hwk hw0 hbk hb0 hbw g0 g1 g2 hk h hx hp hm hfm h0 h1 hX
 have hz1:w.heap.size+1<w0.heap.size:=by omega
 have hz2:w.heap.size<w0.heap.size:=by omega
 clear hz0
 by_cases te:er=0
 ·subst te
  rw[if_neg (by simp)]at hI
  have hnl:=HAL.out rfl
  obtain⟨R,hRR⟩:=Nm (bH ns (bV X) pa tt)
  rw[<-hRR]at hI
  have HRR:=Hp hRR.symm
  have HI:=Hp hI
  have HNL:=Hp hnl
  clear hI hRR hnl HAL
  go_enter Tryz.func88,Tryz.ntmps88
  go_wp2_with (go_at_call 135;(with_reducible refine(cA.out).mono ?_);rintro e w2 ⟨⟨sA,sC,rfl,hr2⟩,hb2⟩;have HR2:=Hp hr2;have HB2:=Hp hb2;obtain⟨hc2,hf2⟩:=aJ hb2;have hz3:w.heap.size+1<w2.heap.size:=(by have:=hb2.size;omega);have hz4:w.heap.size<w2.heap.size:=(by omega);clear hr2 hb2)
  have HL0:=Hp (HLK.out w2 sA ns.length sC)
  have HAL0:=Hp (fun cs=>(GZ4 w2.heap.size w2).alloc (GZ3 _) (.cells cs 207))
  have HPA2:=Hp (HPA.below HB2)
  clear hc2 hf2
  go_loopw [37] (fun i wr=>∃(j:Nat)(s:ByteArray),j<=pa.length/\i=.int .i64 j/\Lk wr w2.heap.size X sA ns.length sC s/\s.size=tt.size/\bH ns (bV X) (pa.drop j) s=R/\Below w2.heap.size w2 wr) (fun i _=>pa.length -(intOf i).toNat)
  case atStart=>exact⟨0,tt,by omega,rfl,HL0.out,rfl,HRR.out,HAL0.out _⟩
  case round=>
   obtain⟨j,s,hj,rfl,hL,hsz,hR,hb⟩:=hrel
   have HL:=Hp hL
   have HSZ:=Hp hsz
   have HR:=Hp hR
   have HB:=Hp hb
   have hsz9:s.size<=256:=by omega
   clear hL hsz hR
   by_cases hlt:j<pa.length
   ·have hlt':(j:Int)<pa.length:=by omega
    obtain⟨pd,rfl,hpb,a0,a1,a2,a3⟩:=qE HPA2.out hb j hlt
    have hsy:=HPS.out pa[j] (GZ9 _)
    have E1:=Hp (fun e=>(U3 (at_:=ns) (base:=bV X) (s:=s) hlt e).symm.trans HR.out)
    have E2:=Hp (fun e=>(sQ (at_:=ns) (base:=bV X) (s:=s) hlt e).trans HR.out)
    have E3:=Hp (show RO s.size pa[j].kind pa[j].at_ pa[j].add (iX ns (bV X) pa[j]) (bV X)=0->(bS s pa[j].kind pa[j].at_ pa[j].add (iX ns (bV X) pa[j]) (bV X)).size=s.size from fun e=>Rz e)
    obtain⟨q,hq⟩:=Nm (pa[j]'hlt)
    rw[<-hq]at a0 a1 a2 a3 hsy
    simp only[<-hq]at E1 E2 E3
    obtain⟨wq,hwq⟩:=Nm (wr.alloc (.cells #[.int .i64 q.kind,.int .i64 q.at_,.int .i64 q.sym,.int .i64 q.add] 180))
    obtain⟨y0,y1,y2,y3,hzq,hbq⟩:=oJ hwq
    have hwq':=hwq.symm
    have hwz:wr.heap.size<wq.heap.size:=by omega
    have cP:=Hp (JF X w2.heap.size sA sC ns s q wq (HL.kept hbq) ((HR2.below hb).below hbq) (by omega) hf0 hf1 (by have:=HNL.out;omega))
    have HBQ:=Hp (hb.trans (hbq.mono hb.size))
    obtain⟨E,hE⟩:=Nm (RO s.size q.kind q.at_ q.add (iX ns (bV X) q) (bV X))
    obtain⟨T,hT⟩:=Nm (bS s q.kind q.at_ q.add (iX ns (bV X) q) (bV X))
    simp only[<-hE,<-hT]at cP E1 E2 E3
    clear hq hwq hzq hbq hE hT hb hsy
    by_cases tE:E=0
    ·subst tE
     have e2:=Hp (E2.out rfl)
     have e3:=Hp ((E3.out rfl).trans HSZ.out)
     go_wp2_with (go_at_call 163;(with_reducible refine(cP.out).mono ?_);rintro e w5 ⟨rfl,hL5,hg5⟩;have HL5:=Hp hL5;have HG5:=Hp hg5;clear hL5 hg5)
     go_roundw
     case rel=>exact⟨j+1,T,by omega,by go_num,HL5.out,e3.out,e2.out,HBQ.grown HG5.out HBQ.size (fun g hg=>by injection hg with hg;omega)⟩
     case measure=>(simp[intOf];try omega)
    ·have e1:=Hp (E1.out tE)
     have tE':(E != 0)=true:=by simp[tE]
     have HTE:=Hp tE
     clear tE
     go_wp2_with (go_at_call 163;(with_reducible refine(cP.out).mono ?_);rintro e w5 ⟨rfl,hL5,hg5⟩;have HL5:=Hp hL5;have HG5:=Hp hg5;clear hL5 hg5)
     go_ret2
     refine⟨?_,H0.trans ((HB2.trans ((HBQ.grown HG5.out HBQ.size (fun g hg=>by injection hg with hg;omega)).mono HB2.size)).mono H0.size)⟩
     rw[HI.out,<-e1.out,if_pos HTE.out];rfl
   ·have e1:=Hp ((U9 (at_:=ns) (base:=bV X) (s:=s) hlt).symm.trans HR.out)
    obtain rfl:j=pa.length:=by omega
    have HBW:=Hp (H0.trans ((HB2.trans (hb.mono HB2.size)).mono H0.size))
    have hb0:=HB2.trans (hb.mono HB2.size)
    have m0:=(hb0.cell (p:=⟨w.heap.size+1,0,none⟩) hz1).trans f0
    have m1:=(hb0.cell (p:=⟨w.heap.size+1,1,none⟩) hz1).trans f1
    have m2:=(hb0.cell (p:=⟨w.heap.size+1,2,none⟩) hz1).trans f2
    have m3:=(hb0.cell (p:=⟨w.heap.size+1,3,none⟩) hz1).trans f3
    have m4:=(hb0.cell (p:=⟨w.heap.size+1,4,none⟩) hz1).trans f4
    have m5:=(hb0.cell (p:=⟨w.heap.size+1,5,none⟩) hz1).trans f5
    have m6:=(hb0.cell (p:=⟨w.heap.size+1,6,none⟩) hz1).trans f6
    obtain⟨M,hMM⟩:∃M:Nat,aH X.m=M:=⟨(aH X.m).toNat,by omega⟩
    have cB:=Hp (fun W=>uQ M W (by omega))
    have HPB:=Hp (Ll (64*M) s)
    have HFS:=Hp (Aj (64*M))
    rw[hMM]at cM mt1 mt2
    have HMN:=Hp (show(aH X.m).toNat=M by omega)
    have hM4:M<=4:=by omega
    have hs9:s.size<=64*M:=by have:=HSZ.out;omega
    clear hb hb0 hlt f0 f1 f2 f3 f4 f5 f6 f7 k0 k1 k2 mt3 hMany hMM
    go_wp2_with (go_at_call 164;(with_reducible refine(cM.out _).mono ?_);rintro e w6 ⟨rfl,hb6⟩;have HB6:=Hp hb6;have hL6:=HL.out.kept hb6;have z9:w6.cell? ⟨w2.heap.size,9,none⟩=some (.string s):=hL6.cell 9;have hlt6:=hL6.lt;clear hb6 hL6 m0 m1 m2 m3 m4 m5 m6)
    have HCH:=Hp (show fI w6 (fun W'=>Below w6.heap.size w6 W'/\W'.cell? ⟨w2.heap.size,9,none⟩=some (.string s)) from dE (by repeat' first|(with_reducible exact bC.cell (by first|omega|(simp;omega)|(simp only[aA];omega)))|refine bC.and ?_ ?_))
    have HC0:=Hp (HCH.now ⟨GZ4 _ _,by assumption⟩)
    have HCD:=Hp HCH.D
    have HCS:=Hp HCH.S
    have HCA:=Hp HCH.A
    have HCX:=Hp HCH.X
    have HCL:=Hp HCH.L
    generalize ffs (64*M)=F at*
    have g1:s.size<=F.size:=by rw[HFS.out];exact hs9
    have g2:F.size<=256:=by rw[HFS.out];omega
    have g3:∀W,(Op.stringOp .add s (F.extract s.size F.size)).run Tryz.prog W=.ok (.string (s++F.extract s.size F.size)) W:=fun W=>run_string_add_sum _ _ _ (by rw[ByteArray.size_extract];omega)
    clear z9
    go_region_held3 (fun W'=>Below w6.heap.size w6 W'/\W'.cell? ⟨w2.heap.size,9,none⟩=some (.string s)) (first|exact HC0.out|exact HCD.out _ HC0.out|exact HCS.out _ _ (by assumption) (by assumption)|exact HCS.out _ _ HC0.out (by assumption)|exact HCS.out _ _ (HCD.out _ HC0.out) (by assumption)|exact HCS.out _ _ (HCD.out _ (by assumption)) (by assumption)|exact HCD.out _ (by assumption)|exact HCA.out _ _ (by assumption)|exact HCA.out _ _ HC0.out|exact HCA.out _ _ (HCD.out _ HC0.out)|exact HCD.out _ (HCA.out _ _ (by assumption))|exact HCA.out _ _ (HCS.out _ _ HC0.out (by assumption))|exact HCA.out _ _ (HCS.out _ _ (HCD.out _ HC0.out) (by assumption))|exact HCX.out _ _ _ _ (GZ3 _) (by assumption)|exact HCX.out _ _ _ _ (GZ3 _) (HCS.out _ _ (HCA.out _ _ HC0.out) (by assumption))|exact HCX.out _ _ _ _ (GZ3 _) (HCS.out _ _ (HCD.out _ (HCA.out _ _ HC0.out)) (by assumption))|assumption) (first|(go_at_call 90;(with_reducible refine(cB.out _).mono ?_);rintro e w7 ⟨rfl,hb7⟩))
    have hB:=Hp (HCL.out _ (by assumption))
    go_wp2_with fail
    go_ret2
    refine⟨?_,HBW.trans ((HB6.trans (hB.mono HB6.size)).mono HBW.size)⟩
    rw[HI.out,<-e1.out,if_neg (by simp),HMN.out]
    show _=Ending.returned (.tuple #[.string (bs (pad (64*M) (tx s))),.int .i64 0])
    rw[<-HPB.out];rfl
 ·rw[if_pos te]at hI
  have te':(er != 0)=true:=by simp[te]
  have HI:=Hp hI
  clear hI te HAL
  go_enter Tryz.func88,Tryz.ntmps88
  go_wp2_with (go_at_call 135;(with_reducible refine(cA.out).mono ?_);rintro e w2 ⟨⟨sA,sC,rfl,hr2⟩,hb2⟩;have HB2:=Hp hb2;clear hr2 hb2)
  go_ret2
  exact⟨by rw[HI.out];rfl,H0.trans (HB2.mono H0.size)⟩
end
section
open Go.RowKit
open Gs (Tx)
theorem Uc {k:Krn}{l:List Plc}(h:aX k l=0):∀x∈l,aL x.m=0/\0<=x.first/\x.first<=16:=fun x hx=>by
 obtain⟨_,h2,_,_⟩:=dM h
 obtain⟨_,hall,_⟩:=cZ h2
 obtain⟨e1,e2⟩:=hall x hx
 have:=gK e1
 simp only[kE,Bool.and_eq_true,decide_eq_true_eq]at e2
 exact⟨e1,by omega,by omega⟩
def qK (pre:Tx)(r:Tx×Int):Tx×Int:=if r.2≠0 then([],r.2)else(pre++r.1,0)
theorem J5 {k:Krn}{l:List Plc}:∀{r:List Plc}{a:Int},(bU k l r a).2≠0->(bU k l r a).1=[]
 | [],a,h=>absurd rfl h
 |x::r,a,h=>by
  unfold bU at h ⊢
  split
  ·rfl
  ·rename_i h1
   rw[if_neg h1]at h
   split
   ·rfl
   ·rename_i h2
    rw[if_neg h2]at h
    exact absurd rfl h
theorem Dk {k:Krn}{l r:List Plc}{a:Int}:qK [] (bU k l r a)=bU k l r a:=by
 unfold qK
 split
 ·rename_i h;rw[<-J5 h]
 ·rename_i h
  have h':(bU k l r a).2=0:=by omega
  rw[<-h'];rfl
theorem IU {k:Krn}{l:List Plc}{pre:Tx}{a:Int}{j:Nat}(hj:j<l.length)(e:(fE k l l[j]).2≠0):qK pre (bU k l (l.drop j) a)=([],(fE k l l[j]).2):=by
 rw[GY4 hj]
 unfold bU
 rw[if_pos e]
 unfold qK
 rw[if_pos e]
theorem Cs {k:Krn}{l:List Plc}{pre:Tx}{a:Int}{j:Nat}(hj:j<l.length)(e:(fE k l l[j]).2=0):
  qK (pre++(List.replicate (64*(l[j].first -a)).toNat 255++(fE k l l[j]).1)) (bU k l (l.drop (j+1)) (aR l[j]))=qK pre (bU k l (l.drop j) a):=by
 rw[GY4 hj]
 conv=>rhs;unfold bU
 rw[if_neg (by omega)]
 unfold qK
 by_cases h:(bU k l (l.drop (j+1)) (aR l[j])).2=0
 ·simp only[h,ne_eq,not_true_eq_false,if_false,List.append_assoc]
 ·simp only[ne_eq,h,not_false_eq_true,if_true]
theorem IW {k:Krn}{l:List Plc}{pre:Tx}{a:Int}{j:Nat}(hj:¬j<l.length):qK pre (bU k l (l.drop j) a)=(pre++List.replicate (64*(16 -a)).toNat 255,0):=by
 rw[List.drop_eq_nil_of_le (by omega)]
 unfold bU qK
 rw[if_neg (by simp)]
theorem PE (n:Nat)(t:Tx):(ffs n++bs t).data.toList=List.replicate n 255++t:=by
 rw[dY];rfl
theorem Q9 :Holds 137:=⟨by kernel_rfl,by decide⟩
theorem Fp {l:List Plc}{a:Int}{j:Nat}(h:bW a (l.drop j))(hj:j<l.length):a<=l[j].first/\1<=aH l[j].m/\aH l[j].m<=4/\bW (aR l[j]) (l.drop (j+1)):=by
 rw[GY4 hj]at h
 exact h
theorem Bo (k:Krn)(A:Option Addr)(c:Nat)(l:List Plc)(w:World)(hk:k.ok w)(h:aU w A l):
  Calls Tryz.prog 24 #[k.v,.slice A l.length c] w fun e w'=>e=.returned (.tuple #[.string (bs (TL k l)),.int .i64 (iP k l)])/\Below w.heap.size w w':=by
 obtain⟨w0,hw0⟩:=Nm (w.alloc (.cells #[.int .i64 k.major,.int .i64 k.minor,.slice k.eA k.ex.length k.eC] 24))
 obtain⟨g0,g1,g2,hz,hb0⟩:=uE hw0
 have hz0:w.heap.size<w0.heap.size:=by omega
 have H0:=Hp hb0
 have hw0':=hw0.symm
 have c1:=Hp (uI k A c l w0 (hk.below hb0) (h.below hb0))
 have hlen:=h.len
 unfold big at hlen
 have HP:=Hp h
 have HK:=Hp hk
 have HPL:=Hp (fun(e:aX k l=0)=>(dM e).2.2.2)
 have HRW:=Hp (fun(e:aX k l=0)=>(cZ (dM e).2.1).2.2)
 have HEA:=Hp (fun(e:aX k l=0)=>Uc e)
 obtain⟨T,hT⟩:=Nm (TL k l)
 obtain⟨E,hE⟩:=Nm (iP k l)
 rw[<-hT,<-hE]
 unfold TL at hT
 unfold iP at hE
 obtain⟨L,hL⟩:=Nm (aX k l)
 simp only[<-hL]at c1 HPL HRW HEA hT hE
 clear hw0 hb0 hz hL h hk
 by_cases t1:L=0
 ·subst t1
  rw[if_neg (by omega)]at hT hE
  obtain⟨R,hRR⟩:=Nm (bU k l l 0)
  rw[<-hRR]at hT hE
  have HRR:=Hp hRR.symm
  have HTE:=Hp (show R=(T,E) by rw[hT,hE])
  have HRW1:=Hp (HRW.out rfl)
  have HPL1:=Hp (HPL.out rfl)
  have HEA1:=Hp (HEA.out rfl)
  clear hT hE hRR
  go_enter Tryz.func24,Tryz.ntmps24
  go_wp2_with (go_at_call 86;(with_reducible refine(c1.out).mono ?_);rintro e w1 ⟨rfl,hb1⟩;have HB1:=Hp (H0.out.trans (hb1.mono (by omega)));have k0:=(hb1.cell (p:=⟨w.heap.size,0,none⟩) hz0).trans g0;have k1:=(hb1.cell (p:=⟨w.heap.size,1,none⟩) hz0).trans g1;have k2:=(hb1.cell (p:=⟨w.heap.size,2,none⟩) hz0).trans g2;have hz1:w.heap.size<w1.heap.size:=(by have:=hb1.size;omega);clear hb1)
  have HN0:=Hp (Lib.fresh_isBuilder 137 5 w1)
  have HAL0:=Hp (fun cs=>(GZ4 w1.heap.size w1).alloc (GZ3 _) (.cells cs 137))
  have HK0:=Hp k0
  have HK1:=Hp k1
  have HK2:=Hp k2
  clear g0 g1 g2 k0 k1 k2
  go_loopw [8,21] (fun v i wr=>∃(j:Nat)(a:Int)(pre:Tx),j<=l.length/\i=.int .i64 j/\v=.int .i64 a/\0<=a/\a<=16/\bW a (l.drop j)/\(pre.length:Int)=64*a/\Bld 137 w1.heap.size pre wr/\qK pre (bU k l (l.drop j) a)=R/\Below w1.heap.size w1 wr) (fun _ i _=>l.length -(intOf i).toNat)
  case atStart=>exact⟨0,0,[],by omega,rfl,rfl,by omega,by omega,HRW1.out,rfl,HN0.out,by rw[Dk];exact HRR.out,HAL0.out _⟩
  case round=>
   obtain⟨j,a,pre,hj,rfl,rfl,ha0,ha1,hrw,hpl,hB,hR,hb⟩:=hrel
   have HB:=Hp hb
   have HBL:=Hp hB
   have hpb:=hB.lt
   have HR:=Hp hR
   have HPL2:=Hp hpl
   have HRW2:=Hp hrw
   have hpre:pre.length<=1024:=by omega
   clear hB hR hpl hrw
   by_cases hlt:j<l.length
   ·have hlt':(j:Int)<l.length:=by omega
    obtain⟨r1,r2,r3,r4⟩:=Fp HRW2.out hlt
    obtain⟨q1,q2,q3⟩:=HEA1.out l[j] (GZ9 _)
    have hb9:=HB1.trans (hb.mono HB1.size)
    obtain⟨ad,rfl,hab,f0,f1,f2,f3,f4,f5,f6,f7⟩:=RS HP.row hb9 j hlt
    have m0:=(hb.cell (p:=⟨w.heap.size,0,none⟩) hz1).trans HK0.out
    have m1:=(hb.cell (p:=⟨w.heap.size,1,none⟩) hz1).trans HK1.out
    have m2:=(hb.cell (p:=⟨w.heap.size,2,none⟩) hz1).trans HK2.out
    have E1:=Hp (fun e=>(IU (k:=k) (pre:=pre) (a:=a) hlt e).symm.trans HR.out)
    have E2:=Hp (fun e=>(Cs (k:=k) (pre:=pre) (a:=a) hlt e).trans HR.out)
    have E3:=Hp (fun(e:(fE k l (l[j]'hlt)).2=0)=>wH (k:=k) (l:=l) (x:=l[j]'hlt) e)
    have cI:=Hp (fun W(hW:Below w.heap.size w W)=>Dc k (some ad) c l l[j] W (HK.below hW) (HP.below hW) ((HP.each l[j] (GZ9 _)).below hW) HPL1.out q1 q2 q3)
    have ht:=(aY q1).2.2.1
    have cE:=Hp (fun W=>zR l[j] W ht q2 q3)
    have hEn:aR l[j]=l[j].first+aH l[j].m:=rfl
    have hle:=bW.le r4
    obtain⟨y,hy⟩:=Nm (l[j]'hlt)
    simp only[<-hy]at f0 f1 f2 f3 f4 f5 f6 f7 E1 E2 E3 cI cE hEn hle r1 r2 r3 r4 q2 q3
    have R4:=Hp r4
    obtain⟨wq,hwq⟩:=Nm (wr.alloc (.cells #[.string y.m.name,.int .i64 y.m.major,.int .i64 y.m.minor,.string y.m.text,.slice y.m.eA y.m.ex.length y.m.eC,.slice y.m.iA y.m.im.length y.m.iC,.slice y.m.pA y.m.pa.length y.m.pC,.int .i64 y.first] 83))
    obtain⟨y0,y1,y2,y3,y4,y5,y6,y7,hzq,hbq⟩:=zH hwq
    have hhq:wq.heap[wr.heap.size]? =some (.cells #[.string y.m.name,.int .i64 y.m.major,.int .i64 y.m.minor,.string y.m.text,.slice y.m.eA y.m.ex.length y.m.eC,.slice y.m.iA y.m.im.length y.m.iC,.slice y.m.pA y.m.pa.length y.m.pC,.int .i64 y.first] 83 (0,0)):=by rw[hwq];exact heap_alloc_new _ _
    have HHQ:=Hp hhq
    have hwq':=hwq.symm
    have hwz:wr.heap.size<wq.heap.size:=by omega
    have n0:=(hbq.cell (p:=⟨w.heap.size,0,none⟩) (show w.heap.size<wr.heap.size by omega)).trans m0
    have n1:=(hbq.cell (p:=⟨w.heap.size,1,none⟩) (show w.heap.size<wr.heap.size by omega)).trans m1
    have n2:=(hbq.cell (p:=⟨w.heap.size,2,none⟩) (show w.heap.size<wr.heap.size by omega)).trans m2
    have HBQ:=Hp hbq
    have HB9:=Hp (hb9.trans (hbq.mono hb9.size))
    clear hb hb9 hy hwq hzq hbq hhq m0 m1 m2 q1 ht r4
    obtain⟨⟨G,ge⟩,hG⟩:∃G,G=fE k l y:=⟨_,rfl⟩
    simp only[<-hG]at cI E1 E2 E3
    clear hG
    by_cases tE:ge=0
    ·subst tE
     have e2:=Hp (E2.out rfl)
     have e3:=E3.out rfl
     obtain⟨n,hn⟩:∃n:Nat,y.first -a=n:=⟨(y.first -a).toNat,by omega⟩
     have cB:=Hp (fun W=>uQ n W (by omega))
     have hgs:(bs G).size=G.length:=rfl
     have hfs:=Aj (64*n)
     have g9:∀W,(Op.stringOp .add (ffs (64*n)) (bs G)).run Tryz.prog W=.ok (.string (ffs (64*n)++bs G)) W:=fun W=>run_string_add_sum _ _ _ (by rw[hgs,hfs];omega)
     have HXL:=Hp (PE (64*n) G)
     have hxs:(ffs (64*n)++bs G).size<=2048:=by rw[ByteArray.size_append,hgs,hfs];omega
     have HN:=Hp (show(64*(y.first -a)).toNat=64*n by omega)
     have HGL:=Hp e3
     obtain⟨X,hX⟩:=Nm (ffs (64*n)++bs G)
     rw[<-hX]at hxs
     simp only[<-hX]at g9 HXL
     have cW:=Hp (fun W hW=>jW 137 w1.heap.size Q9 pre X W hW (by omega))
     generalize ffs (64*n)=F at*
     clear hgs hfs hX e3
     go_wp2_with (first
      |(go_at_call 88;(with_reducible refine(cI.out _ HB9.out).mono ?_);rintro e w5 ⟨rfl,hb5⟩
        have HB5:=Hp hb5
        have z7:=(hb5.cell (p:=⟨wr.heap.size,7,none⟩) hwz).trans y7
        have hz5:=hb5.size
        clear hb5)
      |(go_at_call 90;(with_reducible refine(cB.out _).mono ?_);rintro e w6 ⟨rfl,hb6⟩
        have HB6:=Hp hb6
        have HW6:=Hp (((HBL.below HBQ).below HB5).below hb6)
        have HH6:=Hp ((hb6.block _ (by omega)).trans ((HB5.block _ hwz).trans HHQ.out))
        clear hb6 z7)
      |(go_at_call 89;(with_reducible refine(cW.out _ HW6.out).mono ?_);rintro e w7 ⟨⟨u,rfl⟩,hB7,hb7,hk7⟩
        have hh7:=hk7.heap HH6.out (by omega) (by decide)
        have c0:w7.cell? ⟨wr.heap.size,0,none⟩=some (.string y.m.name):=by rw[Lib.cell_of_heap hh7];rfl
        have c1:w7.cell? ⟨wr.heap.size,1,none⟩=some (.int .i64 y.m.major):=by rw[Lib.cell_of_heap hh7];rfl
        have c2:w7.cell? ⟨wr.heap.size,2,none⟩=some (.int .i64 y.m.minor):=by rw[Lib.cell_of_heap hh7];rfl
        have c3:w7.cell? ⟨wr.heap.size,3,none⟩=some (.string y.m.text):=by rw[Lib.cell_of_heap hh7];rfl
        have c4:w7.cell? ⟨wr.heap.size,4,none⟩=some (.slice y.m.eA y.m.ex.length y.m.eC):=by rw[Lib.cell_of_heap hh7];rfl
        have c5:w7.cell? ⟨wr.heap.size,5,none⟩=some (.slice y.m.iA y.m.im.length y.m.iC):=by rw[Lib.cell_of_heap hh7];rfl
        have c6:w7.cell? ⟨wr.heap.size,6,none⟩=some (.slice y.m.pA y.m.pa.length y.m.pC):=by rw[Lib.cell_of_heap hh7];rfl
        have c7:w7.cell? ⟨wr.heap.size,7,none⟩=some (.int .i64 y.first):=by rw[Lib.cell_of_heap hh7];rfl
        have HB7:=Hp hb7
        have HW7:=Hp hB7
        have hlt7:wr.heap.size<w7.heap.size:=(ZL hh7)
        clear hB7 hb7 hk7 hh7)
      |(go_at_call 91;(with_reducible refine(cE.out _).mono ?_);rintro e w8 ⟨rfl,hb8⟩))
     go_roundw
     case rel=>
      refine⟨j+1,aR y,pre++X.data.toList,by omega,by go_num,rfl,by omega,hle,R4.out,?_,HW7.below hb8,?_,?_⟩
      ·rw[HXL.out,GZ8,GZ8,List.length_replicate]
       have:=HPL2.out
       have:=HGL.out
       omega
      ·rw[HXL.out,<-HN.out];exact e2.out
      ·exact HB.trans ((HBQ.mono (by omega)).trans ((HB5.mono (by omega)).trans ((HB6.mono (by omega)).trans (HB7.trans (hb8.mono (by omega))))))
     case measure=>(simp[intOf];try omega)
    ·have e1:=Hp (E1.out tE)
     have tE':(ge != 0)=true:=by simp[tE]
     clear E2 E3 tE
     go_wp2_with (go_at_call 88;(with_reducible refine(cI.out _ HB9.out).mono ?_);rintro e w5 ⟨rfl,hb5⟩;have HB5:=Hp hb5;clear hb5)
     go_ret2
     refine⟨?_,HB9.trans (HB5.mono HB9.size)⟩
     have:=e1.trans HTE.out
     obtain⟨rfl,rfl⟩:=Prod.mk.inj this
     rfl
   ·have e1:=Hp ((IW (k:=k) (pre:=pre) (a:=a) hlt).symm.trans HR.out)
    obtain rfl:j=l.length:=by omega
    obtain⟨n,hn⟩:∃n:Nat,16 -a=n:=⟨(16 -a).toNat,by omega⟩
    have cB:=Hp (fun W=>uQ n W (by omega))
    have cS:=Hp (fun W hW hs=>Tryz.Builder_String_any w1.heap.size w1.heap.size pre W hW hs)
    have hgs:(bs pre).size=pre.length:=rfl
    have hfs:=Aj (64*n)
    have g9:∀W,(Op.stringOp .add (bs pre) (ffs (64*n))).run Tryz.prog W=.ok (.string (bs pre++ffs (64*n))) W:=fun W=>run_string_add_sum _ _ _ (by rw[hgs,hfs];omega)
    have HX:=Hp (show bs pre++ffs (64*n)=bs (pre++List.replicate (64*n) 255) from ba_eq (by rw[dY];rfl))
    have HN:=Hp (show(64*(16 -a)).toNat=64*n by omega)
    generalize ffs (64*n)=F at*
    clear hgs hfs hlt
    go_wp2_with (first
     |(go_at_call 92;(with_reducible refine(cS.out _ HBL.out (by omega)).mono ?_);rintro e w5 ⟨rfl,hb5⟩;have HB5:=Hp hb5;clear hb5)
     |(go_at_call 90;(with_reducible refine(cB.out _).mono ?_);rintro e w6 ⟨rfl,hb6⟩))
    go_ret2
    refine⟨?_,HB1.trans ((HB.trans (HB5.trans (hb6.mono (by have:=HB5.size;omega)))).mono HB1.size)⟩
    have:=e1.trans HTE.out
    rw[HN.out]at this
    obtain⟨rfl,rfl⟩:=Prod.mk.inj this
    rw[<-HX.out]
    rfl
 ·rw[if_pos t1]at hT hE
  have t1':(L != 0)=true:=by simp[t1]
  have t1'':(L==0)=false:=by simp[t1]
  subst hT hE
  clear t1
  go_enter Tryz.func24,Tryz.ntmps24
  go_wp2_with (go_at_call 86;(with_reducible refine(c1.out).mono ?_);rintro e w1 ⟨rfl,hb1⟩)
  go_ret2
  exact⟨rfl,H0.trans (hb1.mono (by omega))⟩
end
end Go.Proofs.YtjiedaialianmaaGreat
