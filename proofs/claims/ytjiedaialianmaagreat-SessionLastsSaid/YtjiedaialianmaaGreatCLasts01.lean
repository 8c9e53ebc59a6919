import Derived.Test.YtjiedaialianmaaGreatA10
import Derived.Test.YtjiedaialianmaaGreatA16
import Derived.Test.YtjiedaialianmaaGreatA18
import Derived.Test.YtjiedaialianmaaGreatKTiny
namespace Go.Proofs.YtjiedaialianmaaGreat
section
open Go
open Gs (Tx)
def qI (k:Krn) (l:List Plc) (nm:ByteArray):Int:=if aX k l≠0 then aX k l else match l.find? (named nm)with
 |none=>5
 |some x=>(fE k l x).2
def BL (k:Krn) (l:List Plc) (nm:ByteArray):Tx:=if aX k l≠0 then[]else match l.find? (named nm)with
 |none=>[]
 |some x=>(fE k l x).1
end
section
set_option maxRecDepth 100000
set_option maxHeartbeats 4000000
open Go.RowKit
open Gs (Tx)
theorem LG (k:Krn) (A:Option Addr) (c:Nat) (l:List Plc) (nm:ByteArray) (w:World) (hk:k.ok w) (h:aU w A l):
  Calls Tryz.prog 71 #[k.v,.slice A l.length c,.string nm] w fun e w'=>e=.returned (.tuple #[.string (bs (BL k l nm)),.int .i64 (qI k l nm)])/\Below w.heap.size w w':=by
 obtain⟨w0,hw0⟩:=Nm (w.alloc (.cells #[.int .i64 k.major,.int .i64 k.minor,.slice k.eA k.ex.length k.eC] 24))
 obtain⟨g0,g1,g2,hz,hb0⟩:=uE hw0
 have hz0:w.heap.size<w0.heap.size:=by omega
 have H0:=Hp hb0
 have hw0':=hw0.symm
 have c1:=Hp (uI k A c l w0 (hk.below hb0) (h.below hb0))
 have c2:=Hp (fun W (hb:Below w.heap.size w W)=>SY A c l nm W (h.row.below hb) h.len)
 have hlen:=h.len
 unfold big at hlen
 have HP:=Hp h
 have HK:=Hp hk
 have HPL:=Hp (fun(e:aX k l=0)=>(dM e).2.2.2)
 have HEA:=Hp (fun(e:aX k l=0)=>Uc e)
 obtain⟨T,hT⟩:=Nm (BL k l nm)
 obtain⟨E,hE⟩:=Nm (qI k l nm)
 rw[<-hT,<-hE]
 unfold BL at hT
 unfold qI at hE
 obtain⟨L,hL⟩:=Nm (aX k l)
 simp only[<-hL]at c1 HPL HEA hT hE
 clear hw0 hb0 hz hL h hk
 by_cases t1:L=0
 ·subst t1
  rw[if_neg (by omega)]at hT hE
  rcases gW (named nm) l with⟨e1,e2⟩|⟨j,hj,e1,e2⟩
  ·rw[e2]at hT hE
   simp only at hT hE
   rw[e1]at c2
   subst hT hE
   clear e1 e2
   go_enter Tryz.func71,Tryz.ntmps71
   go_wp2_with (first|(go_at_call 86;(with_reducible refine(c1.out).mono ?_);rintro e w1 ⟨rfl,hb1⟩)|(go_at_call 124;(with_reducible refine(c2.out _ (H0.out.trans (hb1.mono (by omega)))).mono ?_);rintro e w2 ⟨rfl,hb2⟩))
   go_ret2
   exact⟨rfl,(H0.out.trans (hb1.mono (by omega))).trans (hb2.mono (by have:=hb1.size;omega))⟩
  ·rw[e2]at hT hE
   simp only at hT hE
   rw[e1]at c2
   have hj':(j:Int)<l.length:=by omega
   obtain⟨q1,q2,q3⟩:=HEA.out rfl l[j] (List.getElem_mem _)
   have cI:=Hp (fun W (hb:Below w.heap.size w W)=>Dc k A c l l[j] W (HK.out.below hb) (HP.out.below hb) ((HP.out.each l[j] (List.getElem_mem _)).below hb) (HPL.out rfl) q1 q2 q3)
   rw[<-hT,<-hE]at cI
   have KJ:=Hp (fun W (hbW:Below w.heap.size w W)=>RS HP.out.row hbW j hj)
   obtain⟨ad,rfl,hab,_⟩:=RS HP.out.row (Below.refl _ _) j hj
   obtain⟨y,hy⟩:=Nm (l[j]'hj)
   simp only[<-hy]at cI KJ
   clear e1 e2 hT hE q1 q2 q3 hy
   go_enter Tryz.func71,Tryz.ntmps71
   go_wp2_with (first
    |(go_at_call 86;(with_reducible refine(c1.out).mono ?_);rintro e w1 ⟨rfl,hb1⟩
      have HB1:=Hp (H0.out.trans (hb1.mono (by omega)))
      have HX1:=Hp hb1
      clear hb1)
    |(go_at_call 124;(with_reducible refine(c2.out _ HB1.out).mono ?_);rintro e w2 ⟨rfl,hb2⟩
      have HB2:=Hp (HB1.out.trans (hb2.mono HB1.out.size))
      have hb3:=HX1.out.trans (hb2.mono HX1.out.size)
      obtain⟨_,ea,_,m0,m1,m2,m3,m4,m5,m6,m7⟩:=KJ.out _ HB2.out
      obtain rfl:=Option.some.inj ea
      have k0:=(hb3.cell (p:=⟨w.heap.size,0,none⟩) hz0).trans g0
      have k1:=(hb3.cell (p:=⟨w.heap.size,1,none⟩) hz0).trans g1
      have k2:=(hb3.cell (p:=⟨w.heap.size,2,none⟩) hz0).trans g2
      have hz2:w.heap.size<w2.heap.size:=(by have:=hb3.size;omega)
      clear hb2 hb3))
   have hab2:(ad.add (j*8)).block<w2.heap.size:=by rw[aA];omega
   have HCH:=Hp (show fI w2 (fun W'=>Below w2.heap.size w2 W'/\W'.cell? ⟨w.heap.size,0,none⟩=some (.int .i64 k.major)/\W'.cell? ⟨w.heap.size,1,none⟩=some (.int .i64 k.minor)/\W'.cell? ⟨w.heap.size,2,none⟩=some (.slice k.eA k.ex.length k.eC)/\W'.cell? (ad.add (j*8))=some (.string y.m.name)/\W'.cell? ⟨(ad.add (j*8)).block,(ad.add (j*8)).off+1,none⟩=some (.int .i64 y.m.major)/\W'.cell? ⟨(ad.add (j*8)).block,(ad.add (j*8)).off+2,none⟩=some (.int .i64 y.m.minor)/\W'.cell? ⟨(ad.add (j*8)).block,(ad.add (j*8)).off+3,none⟩=some (.string y.m.text)/\W'.cell? ⟨(ad.add (j*8)).block,(ad.add (j*8)).off+4,none⟩=some (.slice y.m.eA y.m.ex.length y.m.eC)/\W'.cell? ⟨(ad.add (j*8)).block,(ad.add (j*8)).off+5,none⟩=some (.slice y.m.iA y.m.im.length y.m.iC)/\W'.cell? ⟨(ad.add (j*8)).block,(ad.add (j*8)).off+6,none⟩=some (.slice y.m.pA y.m.pa.length y.m.pC)/\W'.cell? ⟨(ad.add (j*8)).block,(ad.add (j*8)).off+7,none⟩=some (.int .i64 y.first)) from dE (by repeat' first|(with_reducible exact bC.cell (by first|omega|(simp;omega)|(simp only[aA];omega)))|refine bC.and ?_ ?_))
   have HC0:=Hp (HCH.out.now ⟨Below.refl _ _,by assumption,by assumption,by assumption,by assumption,by assumption,by assumption,by assumption,by assumption,by assumption,by assumption,by assumption⟩)
   have HCD:=Hp HCH.out.D
   have HCS:=Hp HCH.out.S
   have HCA:=Hp HCH.out.A
   have HCX:=Hp HCH.out.X
   have HCL:=Hp HCH.out.L
   clear k0 k1 k2 m0 m1 m2 m3 m4 m5 m6 m7 g0 g1 g2
   go_region_held3 (fun W'=>Below w2.heap.size w2 W'/\W'.cell? ⟨w.heap.size,0,none⟩=some (.int .i64 k.major)/\W'.cell? ⟨w.heap.size,1,none⟩=some (.int .i64 k.minor)/\W'.cell? ⟨w.heap.size,2,none⟩=some (.slice k.eA k.ex.length k.eC)/\W'.cell? (ad.add (j*8))=some (.string y.m.name)/\W'.cell? ⟨(ad.add (j*8)).block,(ad.add (j*8)).off+1,none⟩=some (.int .i64 y.m.major)/\W'.cell? ⟨(ad.add (j*8)).block,(ad.add (j*8)).off+2,none⟩=some (.int .i64 y.m.minor)/\W'.cell? ⟨(ad.add (j*8)).block,(ad.add (j*8)).off+3,none⟩=some (.string y.m.text)/\W'.cell? ⟨(ad.add (j*8)).block,(ad.add (j*8)).off+4,none⟩=some (.slice y.m.eA y.m.ex.length y.m.eC)/\W'.cell? ⟨(ad.add (j*8)).block,(ad.add (j*8)).off+5,none⟩=some (.slice y.m.iA y.m.im.length y.m.iC)/\W'.cell? ⟨(ad.add (j*8)).block,(ad.add (j*8)).off+6,none⟩=some (.slice y.m.pA y.m.pa.length y.m.pC)/\W'.cell? ⟨(ad.add (j*8)).block,(ad.add (j*8)).off+7,none⟩=some (.int .i64 y.first)) (first|exact HC0.out|exact HCD.out _ HC0.out|exact HCS.out _ _ (by assumption) (by assumption)|exact HCS.out _ _ HC0.out (by assumption)|exact HCS.out _ _ (HCD.out _ HC0.out) (by assumption)|exact HCS.out _ _ (HCD.out _ (by assumption)) (by assumption)|exact HCD.out _ (by assumption)|exact HCA.out _ _ (by assumption)|exact HCA.out _ _ HC0.out|exact HCA.out _ _ (HCD.out _ HC0.out)|exact HCD.out _ (HCA.out _ _ (by assumption))|exact HCA.out _ _ (HCS.out _ _ HC0.out (by assumption))|exact HCA.out _ _ (HCS.out _ _ (HCD.out _ HC0.out) (by assumption))|exact HCX.out _ _ _ _ (Nat.le_refl _) (by assumption)|exact HCX.out _ _ _ _ (Nat.le_refl _) (HCS.out _ _ (HCA.out _ _ HC0.out) (by assumption))|exact HCX.out _ _ _ _ (Nat.le_refl _) (HCS.out _ _ (HCD.out _ (HCA.out _ _ HC0.out)) (by assumption))|assumption) (first|(go_at_call 88;(with_reducible refine(cI.out _ (HB2.out.trans ((HCL.out _ (by assumption)).mono HB2.out.size))).mono ?_);rintro e w5 ⟨rfl,hb5⟩))
   have hB:=Hp (HCL.out _ (by assumption))
   go_wp2_with fail
   go_ret2
   exact⟨rfl,HB2.out.trans (hB.out.mono HB2.out.size)⟩
 ·rw[if_pos t1]at hT hE
  have t1':(L != 0)=true:=by simp[t1]
  have t1'':(L==0)=false:=by simp[t1]
  subst hT hE
  clear t1
  go_enter Tryz.func71,Tryz.ntmps71
  go_wp2_with (first|(go_at_call 86;(with_reducible refine(c1.out).mono ?_);rintro e w1 ⟨rfl,hb1⟩)|(go_at_call 124;(with_reducible refine(c2.out _ (H0.out.trans (hb1.mono (by omega)))).mono ?_);rintro e w2 ⟨rfl,hb2⟩))
  go_ret2
  exact⟨rfl,(H0.out.trans (hb1.mono (by omega))).trans (hb2.mono (by have:=hb1.size;omega))⟩
end
section
open Go.RowKit
theorem QP {W:World} {b:Nat} {c0 c1 c2 c3 c4 c5 c6 c7:Value} {t:TypeId} (h:W.heap[b]? =some (.cells #[c0,c1,c2,c3,c4,c5,c6,c7] t (0,0))) (x0 x1 x2 x3 x4 x5 x6 x7:Value):
  ((((((((W.setCell ⟨b,0,none⟩ x0).setCell ⟨b,1,none⟩ x1).setCell ⟨b,2,none⟩ x2).setCell ⟨b,3,none⟩ x3).setCell ⟨b,4,none⟩ x4).setCell ⟨b,5,none⟩ x5).setCell ⟨b,6,none⟩ x6).setCell ⟨b,7,none⟩ x7).heap[b]? =some (.cells #[x0,x1,x2,x3,x4,x5,x6,x7] t (0,0))/\Only b W ((((((((W.setCell ⟨b,0,none⟩ x0).setCell ⟨b,1,none⟩ x1).setCell ⟨b,2,none⟩ x2).setCell ⟨b,3,none⟩ x3).setCell ⟨b,4,none⟩ x4).setCell ⟨b,5,none⟩ x5).setCell ⟨b,6,none⟩ x6).setCell ⟨b,7,none⟩ x7):=by
 have h1:(W.setCell ⟨b,0,none⟩ x0).heap[b]? =some (.cells #[x0,c1,c2,c3,c4,c5,c6,c7] t (0,0)):=heap_setCell_same W b 0 _ _ x0 h
 have h2:((W.setCell ⟨b,0,none⟩ x0).setCell ⟨b,1,none⟩ x1).heap[b]? =some (.cells #[x0,x1,c2,c3,c4,c5,c6,c7] t (0,0)):=heap_setCell_same (W.setCell ⟨b,0,none⟩ x0) b 1 _ _ x1 h1
 have h3:(((W.setCell ⟨b,0,none⟩ x0).setCell ⟨b,1,none⟩ x1).setCell ⟨b,2,none⟩ x2).heap[b]? =some (.cells #[x0,x1,x2,c3,c4,c5,c6,c7] t (0,0)):=heap_setCell_same ((W.setCell ⟨b,0,none⟩ x0).setCell ⟨b,1,none⟩ x1) b 2 _ _ x2 h2
 have h4:((((W.setCell ⟨b,0,none⟩ x0).setCell ⟨b,1,none⟩ x1).setCell ⟨b,2,none⟩ x2).setCell ⟨b,3,none⟩ x3).heap[b]? =some (.cells #[x0,x1,x2,x3,c4,c5,c6,c7] t (0,0)):=heap_setCell_same (((W.setCell ⟨b,0,none⟩ x0).setCell ⟨b,1,none⟩ x1).setCell ⟨b,2,none⟩ x2) b 3 _ _ x3 h3
 have h5:(((((W.setCell ⟨b,0,none⟩ x0).setCell ⟨b,1,none⟩ x1).setCell ⟨b,2,none⟩ x2).setCell ⟨b,3,none⟩ x3).setCell ⟨b,4,none⟩ x4).heap[b]? =some (.cells #[x0,x1,x2,x3,x4,c5,c6,c7] t (0,0)):=heap_setCell_same ((((W.setCell ⟨b,0,none⟩ x0).setCell ⟨b,1,none⟩ x1).setCell ⟨b,2,none⟩ x2).setCell ⟨b,3,none⟩ x3) b 4 _ _ x4 h4
 have h6:((((((W.setCell ⟨b,0,none⟩ x0).setCell ⟨b,1,none⟩ x1).setCell ⟨b,2,none⟩ x2).setCell ⟨b,3,none⟩ x3).setCell ⟨b,4,none⟩ x4).setCell ⟨b,5,none⟩ x5).heap[b]? =some (.cells #[x0,x1,x2,x3,x4,x5,c6,c7] t (0,0)):=heap_setCell_same (((((W.setCell ⟨b,0,none⟩ x0).setCell ⟨b,1,none⟩ x1).setCell ⟨b,2,none⟩ x2).setCell ⟨b,3,none⟩ x3).setCell ⟨b,4,none⟩ x4) b 5 _ _ x5 h5
 have h7:(((((((W.setCell ⟨b,0,none⟩ x0).setCell ⟨b,1,none⟩ x1).setCell ⟨b,2,none⟩ x2).setCell ⟨b,3,none⟩ x3).setCell ⟨b,4,none⟩ x4).setCell ⟨b,5,none⟩ x5).setCell ⟨b,6,none⟩ x6).heap[b]? =some (.cells #[x0,x1,x2,x3,x4,x5,x6,c7] t (0,0)):=heap_setCell_same ((((((W.setCell ⟨b,0,none⟩ x0).setCell ⟨b,1,none⟩ x1).setCell ⟨b,2,none⟩ x2).setCell ⟨b,3,none⟩ x3).setCell ⟨b,4,none⟩ x4).setCell ⟨b,5,none⟩ x5) b 6 _ _ x6 h6
 have h8:((((((((W.setCell ⟨b,0,none⟩ x0).setCell ⟨b,1,none⟩ x1).setCell ⟨b,2,none⟩ x2).setCell ⟨b,3,none⟩ x3).setCell ⟨b,4,none⟩ x4).setCell ⟨b,5,none⟩ x5).setCell ⟨b,6,none⟩ x6).setCell ⟨b,7,none⟩ x7).heap[b]? =some (.cells #[x0,x1,x2,x3,x4,x5,x6,x7] t (0,0)):=heap_setCell_same (((((((W.setCell ⟨b,0,none⟩ x0).setCell ⟨b,1,none⟩ x1).setCell ⟨b,2,none⟩ x2).setCell ⟨b,3,none⟩ x3).setCell ⟨b,4,none⟩ x4).setCell ⟨b,5,none⟩ x5).setCell ⟨b,6,none⟩ x6) b 7 _ _ x7 h7
 exact⟨h8,((((((((Only.set 0 x0).trans (Only.set 1 x1)).trans (Only.set 2 x2)).trans (Only.set 3 x3)).trans (Only.set 4 x4)).trans (Only.set 5 x5)).trans (Only.set 6 x6)).trans (Only.set 7 x7))⟩
end
section
set_option maxRecDepth 100000
set_option maxHeartbeats 8000000
open Go.RowKit Go.Lib
def NU :Plc:=⟨jB,0⟩
theorem IL (W:World):jB.ok W:=⟨⟨Row.nil,Nat.zero_le _,by simp[jB]⟩,⟨Row.nil,Nat.zero_le _,by simp[jB]⟩,⟨Row.nil,Nat.zero_le _⟩,Nat.zero_le _,Nat.zero_le _⟩
def jZ (k:Krn) (l:List Plc) (nm:ByteArray):Int:=if aZ k l≠0 then aZ k l else if idxOf (named nm) l<0 then 5 else 0
def E8 (k:Krn) (l:List Plc) (nm:ByteArray) (W:World) (base:Nat) (X:Plc):Prop:=
 (jZ k l nm≠0->X=NU)/\(jZ k l nm=0->∀j (hj:j<l.length),idxOf (named nm) l=j->X.first=l[j].first/\gI X.m l[j].m/\X.m.own W base)/\X.m.ok W
theorem JR {W:World} {b:Nat} {v0 v1 v2 v3 v4 v5 v6 v7:Value} {t:TypeId} (h:W.heap[b]? =some (.cells #[v0,v1,v2,v3,v4,v5,v6,v7] t (0,0))):
  (W.cell? ⟨b,0,none⟩=some v0/\W.cell? ⟨b,1,none⟩=some v1/\W.cell? ⟨b,2,none⟩=some v2/\W.cell? ⟨b,3,none⟩=some v3/\W.cell? ⟨b,4,none⟩=some v4/\W.cell? ⟨b,5,none⟩=some v5/\W.cell? ⟨b,6,none⟩=some v6/\W.cell? ⟨b,7,none⟩=some v7)/\
  (W.frozen? ⟨b,0,none⟩=false/\W.frozen? ⟨b,1,none⟩=false/\W.frozen? ⟨b,2,none⟩=false/\W.frozen? ⟨b,3,none⟩=false/\W.frozen? ⟨b,4,none⟩=false/\W.frozen? ⟨b,5,none⟩=false/\W.frozen? ⟨b,6,none⟩=false/\W.frozen? ⟨b,7,none⟩=false):=
 ⟨⟨heap_cell h 0,heap_cell h 1,heap_cell h 2,heap_cell h 3,heap_cell h 4,heap_cell h 5,heap_cell h 6,heap_cell h 7⟩,heap_free h 0,heap_free h 1,heap_free h 2,heap_free h 3,heap_free h 4,heap_free h 5,heap_free h 6,heap_free h 7⟩
theorem Dp (k:Krn) (A:Option Addr) (c:Nat) (l:List Plc) (nm:ByteArray) (w:World) (hk:k.ok w) (h:aU w A l):
  Calls Tryz.prog 54 #[rgV k A l c,.string nm] w fun e w'=>(∃X:Plc,e=.returned (.tuple #[X.v,.int .i64 (jZ k l nm)])/\E8 k l nm w' w.heap.size X)/\Below w.heap.size w w':=by
 obtain⟨w0,hw0⟩:=Nm (w.alloc (.cells #[.int .i64 k.major,.int .i64 k.minor,.slice k.eA k.ex.length k.eC,.slice A l.length c] 39))
 obtain⟨g0,g1,g2,g3,hz0,hb0⟩:=oJ hw0
 obtain⟨x0,hx0⟩:=Nm (w0.alloc (.cells #[.string ⟨#[]⟩,.int .i64 0,.int .i64 0,.string ⟨#[]⟩,.slice none 0 0,.slice none 0 0,.slice none 0 0,.int .i64 0] 83))
 have hR:x0.heap[w.heap.size+1]? =some (.cells #[.string ⟨#[]⟩,.int .i64 0,.int .i64 0,.string ⟨#[]⟩,.slice none 0 0,.slice none 0 0,.slice none 0 0,.int .i64 0] 83 (0,0)):=by rw[hx0,<-hz0];exact heap_alloc_new w0 _
 have hbx:Below w0.heap.size w0 x0:=hx0▸(Below.refl _ _).alloc (Nat.le_refl _) _
 have hzx:x0.heap.size=w.heap.size+2:=by rw[hx0];simp;omega
 have f0:=(hbx.cell (p:=⟨w.heap.size,0,none⟩) (by simp;omega)).trans g0
 have f1:=(hbx.cell (p:=⟨w.heap.size,1,none⟩) (by simp;omega)).trans g1
 have f2:=(hbx.cell (p:=⟨w.heap.size,2,none⟩) (by simp;omega)).trans g2
 have f3:=(hbx.cell (p:=⟨w.heap.size,3,none⟩) (by simp;omega)).trans g3
 have HX:=Hp (hb0.trans (hbx.mono hb0.size))
 have HR:=Hp hR
 have HZ:=Hp hzx
 have hw0':=hw0.symm
 have hx0':=hx0.symm
 have c1:=Hp (fun W (hb:Below w.heap.size w W)=>jE k A c l W (hk.below hb) (h.below hb))
 have c2:=Hp (fun W (hb:Below w.heap.size w W)=>SY A c l nm W (h.row.below hb) h.len)
 have HP:=Hp h
 have hzz:w.heap.size<x0.heap.size:=by omega
 have hzz1:w.heap.size+1<x0.heap.size:=by omega
 clear hw0 hx0 hb0 hbx hR hzx hk h g0 g1 g2 g3
 obtain⟨E,hE⟩:=Nm (jZ k l nm)
 rw[<-hE]
 unfold jZ at hE
 have HF:=Hp (show∀(W:World) (b:Nat) (X:Plc),E8 k l nm W b X↔E8 k l nm W b X from fun _ _ _=>Iff.rfl)
 by_cases t1:aZ k l=0
 ·rw[if_neg (by omega)]at hE
  rw[t1]at c1
  rcases gW (named nm) l with⟨e1,e2⟩|⟨j,hj,e1,e2⟩
  ·rw[e1]at hE c2
   rw[if_pos (by omega)]at hE
   have HFE:=Hp (show jZ k l nm≠0 by unfold jZ;rw[if_neg (by omega),e1,if_pos (by omega)];omega)
   clear e1 e2 HF t1
   go_enter Tryz.func54,Tryz.ntmps54
   go_wp2_with (first
    |(go_at_call 23;(with_reducible refine(c1.out _ HX.out).mono ?_);rintro e w1 ⟨rfl,hb1⟩
      have HB1:=Hp (HX.out.trans (hb1.mono HX.out.size))
      have k3:=(hb1.cell (p:=⟨w.heap.size,3,none⟩) hzz).trans f3
      have HR1:=Hp ((hb1.block (w.heap.size+1) hzz1).trans HR.out)
      clear hb1)
    |(go_at_call 124;(with_reducible refine(c2.out _ HB1.out).mono ?_);rintro e w2 ⟨rfl,hb2⟩
      have HB2:=Hp (HB1.out.trans (hb2.mono HB1.out.size))
      have HR2:=Hp ((hb2.block (w.heap.size+1) (Array.getElem?_eq_some_iff.1 HR1.out).1).trans HR1.out)
      obtain⟨⟨r0,r1,r2,r3,r4,r5,r6,r7⟩,q0,q1,q2,q3,q4,q5,q6,q7⟩:=JR HR2.out
      clear hb2))
   obtain⟨hg,ho⟩:=QP HR2.out (.string ⟨#[]⟩) (.int .i64 0) (.int .i64 0) (.string ⟨#[]⟩) (.slice none 0 0) (.slice none 0 0) (.slice none 0 0) (.int .i64 0)
   refine bodyPost_ret (results_cell_tmp rfl _ _ (w.heap.size+1) 83 _ (0,0) _ rfl hg Tryz.underlying83 rfl Tryz.T9) rfl ?_
   refine⟨⟨NU,by rw[hE];rfl,fun _=>rfl,fun e=>absurd e HFE.out,IL _⟩,HB2.out.trans ((ho.below (by have:=(Array.getElem?_eq_some_iff.1 HR2.out).1;omega)).mono (by omega))⟩
  ·rw[e1]at hE c2
   rw[if_neg (by omega)]at hE
   have HFE:=Hp (show jZ k l nm=0 by unfold jZ;rw[if_neg (by omega),e1,if_neg (by omega)])
   have HJ:=Hp e1
   have hm:=Uc (Sz t1).1 l[j] (List.getElem_mem _)
   have hlen:=HP.out.len
   unfold big at hlen
   have hj':(j:Int)<l.length:=by omega
   have KJ:=Hp (fun W (hbW:Below w.heap.size w W)=>RS HP.out.row hbW j hj)
   have hx:=HP.out.each l[j] (List.getElem_mem _)
   have HSP:=Hp (show∀j2 (hj2:j2<l.length),idxOf (named nm) l=j2->l[j2]=l[j] from fun j2 hj2 h2=>by
    have:j2=j:=by omega
    subst this;rfl)
   obtain⟨y,hy⟩:=Nm (l[j]'hj)
   simp only[<-hy]at hm KJ hx HSP
   have cO:=Hp (fun W (hb:Below w.heap.size w W)=>Ei y.m W (hx.below hb) (xQ hm.1))
   have HXO:=Hp hx
   obtain⟨ad,rfl,hab,_⟩:=KJ.out _ (Below.refl _ _)
   clear e1 e2 HF t1 hm hx hy
   go_enter Tryz.func54,Tryz.ntmps54
   go_wp2_with (first
    |(go_at_call 23;(with_reducible refine(c1.out _ HX.out).mono ?_);rintro e w1 ⟨rfl,hb1⟩
      have HB1:=Hp (HX.out.trans (hb1.mono HX.out.size))
      have k3:=(hb1.cell (p:=⟨w.heap.size,3,none⟩) hzz).trans f3
      have hz1:w.heap.size<w1.heap.size:=(by have:=hb1.size;omega)
      have HR1:=Hp ((hb1.block (w.heap.size+1) hzz1).trans HR.out)
      clear hb1)
    |(go_at_call 124;(with_reducible refine(c2.out _ HB1.out).mono ?_);rintro e w2 ⟨rfl,hb2⟩
      have HB2:=Hp (HB1.out.trans (hb2.mono HB1.out.size))
      have m3:=(hb2.cell (p:=⟨w.heap.size,3,none⟩) hz1).trans k3
      have HR2:=Hp ((hb2.block (w.heap.size+1) (Array.getElem?_eq_some_iff.1 HR1.out).1).trans HR1.out)
      obtain⟨_,ea,_,p0,p1,p2,p3,p4,p5,p6,p7⟩:=KJ.out _ HB2.out
      obtain rfl:=Option.some.inj ea
      clear hb2))
   obtain⟨w3,hw3⟩:=Nm (w2.alloc (.cells #[.string y.m.name,.int .i64 y.m.major,.int .i64 y.m.minor,.string y.m.text,.slice y.m.eA y.m.ex.length y.m.eC,.slice y.m.iA y.m.im.length y.m.iC,.slice y.m.pA y.m.pa.length y.m.pC,.int .i64 y.first] 83))
   rw[<-hw3]
   obtain⟨d0,d1,d2,d3,d4,d5,d6,d7,hz3,hb3⟩:=zH hw3
   have HB3:=Hp (HB2.out.trans (hb3.mono HB2.out.size))
   have hR3:w3.heap[w.heap.size+1]? =_:=(hb3.block (w.heap.size+1) (Array.getElem?_eq_some_iff.1 HR2.out).1).trans HR2.out
   have HR3:=Hp hR3
   have HZ3:=Hp hz3
   clear hw3 hb3 hR3 hz3 m3 k3 p0 p1 p2 p3 p4 p5 p6 p7 f0 f1 f2 f3
   go_region_with (first
    |(go_at_call 125;(with_reducible refine(cO.out _ HB3.out.drew).mono ?_);rintro e w4 ⟨⟨m',rfl,hs,ho⟩,hb4⟩
      have HB4:=Hp (HB3.out.drew.trans (hb4.mono HB3.out.size))
      have n7:=(hb4.cell (p:=⟨w2.heap.size,7,none⟩) (by have:=HZ3.out;simp;omega)).trans d7
      have HR4:=Hp ((hb4.block (w.heap.size+1) (Array.getElem?_eq_some_iff.1 HR3.out).1).trans HR3.out)
      obtain⟨⟨r0,r1,r2,r3,r4,r5,r6,r7⟩,q0,q1,q2,q3,q4,q5,q6,q7⟩:=JR HR4.out
      have HSM:=Hp hs
      have HOM:=Hp ho
      clear hb4 hs ho))
   all_goals(
    go_wp2_with fail
    obtain⟨hg,ho⟩:=QP HR4.out (.string m'.name) (.int .i64 m'.major) (.int .i64 m'.minor) (.string m'.text) (.slice m'.eA m'.ex.length m'.eC) (.slice m'.iA m'.im.length m'.iC) (.slice m'.pA m'.pa.length m'.pC) (.int .i64 y.first)
    refine bodyPost_ret (results_cell_tmp rfl _ _ (w.heap.size+1) 83 _ (0,0) _ rfl hg Tryz.underlying83 rfl Tryz.T9) rfl ?_
    have hown:m'.own _ w.heap.size:=(HOM.out.kp (ho.kp HR4.out (ts:=[83]) (by simp)) (by decide) (by decide) (by decide)).le HB3.out.size
    refine⟨⟨⟨m',y.first⟩,by rw[hE];rfl,fun e=>absurd HFE.out e,fun _ j2 hj2 e2=>by rw[HSP.out j2 hj2 e2];exact⟨rfl,HSM.out,hown⟩,hown.ok HSM.out HXO.out⟩,HB4.out.trans ((ho.below (Nat.le_of_lt (Array.getElem?_eq_some_iff.1 HR4.out).1)).mono (by omega))⟩)
 ·rw[if_pos t1]at hE
  have t1':(aZ k l != 0)=true:=by simp[t1]
  have HFE:=Hp (show jZ k l nm≠0 by unfold jZ;rw[if_pos t1];exact t1)
  rw[<-hE]at c1 t1'
  clear c2 HF t1 hE
  go_enter Tryz.func54,Tryz.ntmps54
  go_wp2_with (first
   |(go_at_call 23;(with_reducible refine(c1.out _ HX.out).mono ?_);rintro e w1 ⟨rfl,hb1⟩
     have HB1:=Hp (HX.out.trans (hb1.mono HX.out.size))
     have HR2:=Hp ((hb1.block (w.heap.size+1) hzz1).trans HR.out)
     obtain⟨⟨r0,r1,r2,r3,r4,r5,r6,r7⟩,q0,q1,q2,q3,q4,q5,q6,q7⟩:=JR HR2.out
     clear hb1))
  obtain⟨hg,ho⟩:=QP HR2.out (.string ⟨#[]⟩) (.int .i64 0) (.int .i64 0) (.string ⟨#[]⟩) (.slice none 0 0) (.slice none 0 0) (.slice none 0 0) (.int .i64 0)
  refine bodyPost_ret (results_cell_tmp rfl _ _ (w.heap.size+1) 83 _ (0,0) _ rfl hg Tryz.underlying83 rfl Tryz.T9) rfl ?_
  refine⟨⟨NU,rfl,fun _=>rfl,fun e=>absurd e HFE.out,IL _⟩,HB1.out.trans ((ho.below (by have:=(Array.getElem?_eq_some_iff.1 HR2.out).1;omega)).mono (by omega))⟩
end
section
set_option maxRecDepth 100000
set_option maxHeartbeats 1000000
open Go.RowKit
theorem wF (w:World):Calls Tryz.prog 72 #[] w fun e w'=>(∃A c a1 a2 a3 a4 a5 a6 b1 b2 b3 b4 b5 b6,e=.returned (.slice A 2 c)/\aU w' A [⟨TH a1 a2 a3 a4 a5 a6,1⟩,⟨lW b1 b2 b3 b4 b5 b6,4⟩])/\Below w.heap.size w w':=by
 go_enter Tryz.func72,Tryz.ntmps72
 go_wp2_with (first|(go_at_call 114;refine(Jr _).mono ?_;rintro e w1 ⟨⟨a1,a2,a3,a4,a5,a6,rfl,hok1⟩,hb1⟩)|(go_at_call 112;refine(KF _).mono ?_;rintro e w2 ⟨⟨b1,b2,b3,b4,b5,b6,rfl,hok2⟩,hb2⟩))
 go_ret
 have hs1:=hb1.size
 have hs2:=hb2.size
 have hb3:=fun cs=>(Below.refl w2.heap.size w2).alloc (Nat.le_refl _) (.cells cs 83)
 refine⟨⟨some ⟨w2.heap.size,0,none⟩,2,a1,a2,a3,a4,a5,a6,b1,b2,b3,b4,b5,b6,rfl,Ry (enc:=Plc.cells) (k:=8) (fun _=>rfl) (heap_alloc_new w2 _) rfl,by unfold big;simp,?_⟩,(hb1.trans (hb2.mono hs1)).trans ((hb3 _).mono (by omega))⟩
 intro x hx
 simp only[List.mem_cons,List.not_mem_nil,or_false]at hx
 rcases hx with rfl|rfl
 ·exact(hok1.below hb2).below (hb3 _)
 ·exact hok2.below (hb3 _)
end
section
set_option maxRecDepth 100000
set_option maxHeartbeats 4000000
open Go.RowKit
open Gs (Tx)
abbrev gX (a1 a2 a3 b1 b2 b3:Option Addr) (a4 a5 a6 b4 b5 b6:Nat):List Plc:=[⟨TH a1 a2 a3 a4 a5 a6,1⟩,⟨lW b1 b2 b3 b4 b5 b6,4⟩]
def imB :Tx:=[5,17,0,0,223,247,255,46]++List.replicate 56 255
def arB :Tx:=List.replicate 64 255++imB++List.replicate 128 255++([97,98,99,100,101,102,103,104]++List.replicate 56 255)++List.replicate 704 255
section
variable (A:Option Addr) (c:Nat) (a1 a2 a3 b1 b2 b3:Option Addr) (a4 a5 a6 b4 b5 b6:Nat)
theorem UB :aX (RU A c) (gX a1 a2 a3 b1 b2 b3 a4 a5 a6 b4 b5 b6)=0:=by
 unfold aX
 have h0:bJ (RU A c)=0:=by kernel_rfl
 have h1:RY (gX a1 a2 a3 b1 b2 b3 a4 a5 a6 b4 b5 b6)=0:=by kernel_rfl
 have h2:dD (gX a1 a2 a3 b1 b2 b3 a4 a5 a6 b4 b5 b6)=false:=by
  cases e:dD (gX a1 a2 a3 b1 b2 b3 a4 a5 a6 b4 b5 b6)
  ·rfl
  ·rw[SQ]at e
   exact absurd (show([[97,112,112],[108,105,98]]:List Tx).Nodup by decide) e
 rw[h0,h1,h2];rfl
theorem P8 :qI (RU A c) (gX a1 a2 a3 b1 b2 b3 a4 a5 a6 b4 b5 b6) ⟨#[97,112,112]⟩=0:=by
 unfold qI;rw[UB];kernel_rfl
theorem QR :BL (RU A c) (gX a1 a2 a3 b1 b2 b3 a4 a5 a6 b4 b5 b6) ⟨#[97,112,112]⟩=imB:=by
 unfold BL;rw[UB];kernel_rfl
theorem Mf :iP (RU A c) (gX a1 a2 a3 b1 b2 b3 a4 a5 a6 b4 b5 b6)=0:=by
 unfold iP;rw[UB];kernel_rfl
theorem O9 :TL (RU A c) (gX a1 a2 a3 b1 b2 b3 a4 a5 a6 b4 b5 b6)=arB:=by
 unfold TL;rw[UB];kernel_rfl
end
theorem Cb (w:World):Calls Tryz.prog 14 #[] w fun e w'=>e=.returned (.bool true)/\Below w.heap.size w w':=by
 obtain⟨I,hI⟩:=Nm (bs imB)
 obtain⟨R,hR⟩:=Nm (bs arB)
 have s1:I.size=64:=by rw[hI];kernel_rfl
 have s2:R.size=1024:=by rw[hR];kernel_rfl
 have e1:I.extract 0 9=⟨#[5,17,0,0,223,247,255,46,255]⟩:=by rw[hI];kernel_rfl
 have e2:R.extract 64 128=I:=by rw[hI,hR];kernel_rfl
 have e3:R.extract 256 265=⟨#[97,98,99,100,101,102,103,104,255]⟩:=by rw[hR];kernel_rfl
 have HI:=Hp hI
 have HR:=Hp hR
 clear hI hR
 go_enter Tryz.func14,Tryz.ntmps14
 go_wp2_with fail
 refine(Sn _).mono ?_;rintro e w1 ⟨⟨A1,c1,rfl,hk1⟩,hb1⟩
 go_wp2_with fail
 refine(wF _).mono ?_;rintro e w2 ⟨⟨A2,c2,a1,a2,a3,a4,a5,a6,b1,b2,b3,b4,b5,b6,rfl,hl2⟩,hb2⟩
 have f1:=Hp (LG (RU A1 c1) A2 c2 (gX a1 a2 a3 b1 b2 b3 a4 a5 a6 b4 b5 b6) ⟨#[97,112,112]⟩ w2 (hk1.below hb2) hl2)
 rw[P8,QR,<-HI.out]at f1
 have HB2:=Hp (hb1.trans (hb2.mono hb1.size))
 clear hk1 hl2 hb1 hb2
 go_wp2_with fail
 refine(f1.out).mono ?_;rintro e w3 ⟨rfl,hb3⟩
 have HB3:=Hp (HB2.out.trans (hb3.mono HB2.out.size))
 clear hb3 f1
 go_wp2_with fail
 refine(Sn _).mono ?_;rintro e w4 ⟨⟨A3,c3,rfl,hk3⟩,hb4⟩
 go_wp2_with fail
 refine(wF _).mono ?_;rintro e w5 ⟨⟨A4,c4,d1,d2,d3,d4,d5,d6,g1,g2,g3,g4,g5,g6,rfl,hl4⟩,hb5⟩
 have f2:=Hp (Bo (RU A3 c3) A4 c4 (gX d1 d2 d3 g1 g2 g3 d4 d5 d6 g4 g5 g6) w5 (hk3.below hb5) hl4)
 rw[Mf,O9,<-HR.out]at f2
 have HB5:=Hp (HB3.out.trans ((hb4.trans (hb5.mono hb4.size)).mono HB3.out.size))
 clear hk3 hl4 hb4 hb5
 go_wp2_with fail
 refine(f2.out).mono ?_;rintro e w6 ⟨rfl,hb6⟩
 have HB6:=Hp (HB5.out.trans (hb6.mono HB5.out.size))
 clear hb6 f2
 go_wp2_with fail
 go_ret
 exact⟨by simp,HB6.out⟩
end
section
set_option maxRecDepth 100000
set_option maxHeartbeats 4000000
open Go.RowKit
open Gs (Tx)
theorem Tryz.Q8 :(Tryz.prog.info? 39).map (·.size)=some 4:=by kernel_rfl
section
variable (A:Option Addr) (c:Nat) (a1 a2 a3 b1 b2 b3:Option Addr) (a4 a5 a6 b4 b5 b6:Nat)
theorem Gh :eH (gX a1 a2 a3 b1 b2 b3 a4 a5 a6 b4 b5 b6)=false:=by kernel_rfl
theorem Mk :aZ (RU A c) (gX a1 a2 a3 b1 b2 b3 a4 a5 a6 b4 b5 b6)=0:=by
 unfold aZ
 rw[UB,Gh]
 have h:(bU (RU A c) (gX a1 a2 a3 b1 b2 b3 a4 a5 a6 b4 b5 b6) (gX a1 a2 a3 b1 b2 b3 a4 a5 a6 b4 b5 b6) 0).2=0:=by kernel_rfl
 rw[h];rfl
theorem Qs :aZ Rk (gX a1 a2 a3 b1 b2 b3 a4 a5 a6 b4 b5 b6)=5:=by
 unfold aZ
 have hl:aX Rk (gX a1 a2 a3 b1 b2 b3 a4 a5 a6 b4 b5 b6)=0:=by
  have h0:=dM (UB none 0 a1 a2 a3 b1 b2 b3 a4 a5 a6 b4 b5 b6)
  unfold aX
  rw[h0.2.1,h0.2.2.1];rfl
 rw[hl,Gh]
 have h:(bU Rk (gX a1 a2 a3 b1 b2 b3 a4 a5 a6 b4 b5 b6) (gX a1 a2 a3 b1 b2 b3 a4 a5 a6 b4 b5 b6) 0).2=5:=by kernel_rfl
 rw[h];rfl
theorem OT :idxOf (named ⟨#[108,105,98]⟩) (gX a1 a2 a3 b1 b2 b3 a4 a5 a6 b4 b5 b6)=1:=by kernel_rfl
theorem PH :idxOf (named ⟨#[110,111]⟩) (gX a1 a2 a3 b1 b2 b3 a4 a5 a6 b4 b5 b6)= -1:=by kernel_rfl
theorem QE :jZ (RU A c) (gX a1 a2 a3 b1 b2 b3 a4 a5 a6 b4 b5 b6) ⟨#[108,105,98]⟩=0:=by
 unfold jZ;rw[Mk,OT];rfl
theorem Ql :jZ (RU A c) (gX a1 a2 a3 b1 b2 b3 a4 a5 a6 b4 b5 b6) ⟨#[110,111]⟩=5:=by
 unfold jZ;rw[Mk,PH];rfl
end
theorem FJ (w:World):Calls Tryz.prog 73 #[] w fun e w'=>(∃A1 c1 A2 c2 a1 a2 a3 a4 a5 a6 b1 b2 b3 b4 b5 b6,e=.returned (rgV (RU A1 c1) A2 (gX a1 a2 a3 b1 b2 b3 a4 a5 a6 b4 b5 b6) c2)/\(RU A1 c1).ok w'/\aU w' A2 (gX a1 a2 a3 b1 b2 b3 a4 a5 a6 b4 b5 b6))/\Below w.heap.size w w':=by
 obtain⟨x0,hx0⟩:=Nm (w.alloc (.cells #[.int .i64 0,.int .i64 0,.slice none 0 0,.slice none 0 0] 39))
 have HR:=Hp (show x0.heap[w.heap.size]? =some (.cells #[.int .i64 0,.int .i64 0,.slice none 0 0,.slice none 0 0] 39 (0,0)) by rw[hx0];exact heap_alloc_new w _)
 have H0:=Hp (show Below w.heap.size w x0 from hx0▸(Below.refl _ _).alloc (Nat.le_refl _) _)
 have hx0':=hx0.symm
 clear hx0
 go_enter Tryz.func73,Tryz.ntmps73
 go_wp2_with fail
 refine(Sn _).mono ?_;rintro e w1 ⟨⟨A1,c1,rfl,hk1⟩,hb1⟩
 go_wp2_with fail
 refine(wF _).mono ?_;rintro e w2 ⟨⟨A2,c2,a1,a2,a3,a4,a5,a6,b1,b2,b3,b4,b5,b6,rfl,hl2⟩,hb2⟩
 have HK:=Hp (hk1.below hb2)
 have HL:=Hp hl2
 have HB:=Hp ((H0.out.trans (hb1.mono H0.out.size)).trans (hb2.mono (Nat.le_trans H0.out.size hb1.size)))
 have hR2:w2.heap[w.heap.size]? =_:=(hb2.block _ (Nat.lt_of_lt_of_le (Array.getElem?_eq_some_iff.1 HR.out).1 hb1.size)).trans ((hb1.block _ (Array.getElem?_eq_some_iff.1 HR.out).1).trans HR.out)
 have HR2:=Hp hR2
 have r0:=heap_cell hR2 0
 have r1:=heap_cell hR2 1
 have r2:=heap_cell hR2 2
 have r3:=heap_cell hR2 3
 have q0:=heap_free hR2 0
 have q1:=heap_free hR2 1
 have q2:=heap_free hR2 2
 have q3:=heap_free hR2 3
 simp only[List.getElem?_toArray,List.getElem?_cons_zero,List.getElem?_cons_succ]at r0 r1 r2 r3
 clear hk1 hl2 hb1 hb2 hR2
 go_wp2_with fail
 try simp only[Exit.inBlock,Exit.then]
 obtain⟨hg,ho⟩:=gY HR2.out (.int .i64 (RU A1 c1).major) (.int .i64 (RU A1 c1).minor) (.slice (RU A1 c1).eA (RU A1 c1).ex.length (RU A1 c1).eC) (.slice A2 2 c2)
 refine bodyPost_ret (results_cell_row rfl _ _ w.heap.size 39 _ (0,0) _ rfl hg Tryz.underlying39 rfl Tryz.Q8) rfl ?_
 have hlt:=(Array.getElem?_eq_some_iff.1 HR2.out).1
 refine⟨⟨A1,c1,A2,c2,a1,a2,a3,a4,a5,a6,b1,b2,b3,b4,b5,b6,rfl,?_,?_⟩,HB.out.trans (ho.below (Nat.le_of_lt hlt))⟩
 ·exact Krn.ok.other ⟨0,0,none,0,0,none,0,0,HR2.out⟩ ho HK.out
 ·exact aU.other ⟨0,0,none,0,0,none,0,0,HR2.out⟩ ho HL.out
theorem U4 (w:World):Calls Tryz.prog 15 #[] w fun e w'=>e=.returned (.bool true)/\Below w.heap.size w w':=by
 go_enter Tryz.func15,Tryz.ntmps15
 go_wp2_with fail
 refine(FJ _).mono ?_;rintro e w1 ⟨⟨A1,c1,A2,c2,a1,a2,a3,a4,a5,a6,b1,b2,b3,b4,b5,b6,rfl,hk1,hl1⟩,hb1⟩
 have f1:=Hp (Dp (RU A1 c1) A2 c2 (gX a1 a2 a3 b1 b2 b3 a4 a5 a6 b4 b5 b6) ⟨#[108,105,98]⟩ w1 hk1 hl1)
 rw[QE]at f1
 have HI1:=Hp (OT a1 a2 a3 b1 b2 b3 a4 a5 a6 b4 b5 b6)
 have HF1:=Hp (QE A1 c1 a1 a2 a3 b1 b2 b3 a4 a5 a6 b4 b5 b6)
 have HB1:=Hp hb1
 clear hk1 hl1 hb1
 go_wp2_with fail
 refine(f1.out).mono ?_;rintro e w2 ⟨⟨X,rfl,hX⟩,hb2⟩
 have hx4:X.first=4:=(hX.2.1 HF1.out 1 (by simp) HI1.out).1
 have HB2:=Hp (HB1.out.trans (hb2.mono HB1.out.size))
 clear hX hb2 f1 HI1 HF1
 obtain⟨xm,xf⟩:=X
 simp only at hx4
 subst hx4
 obtain⟨w3,hw3⟩:=Nm (w2.alloc (.cells #[.string xm.name,.int .i64 xm.major,.int .i64 xm.minor,.string xm.text,.slice xm.eA xm.ex.length xm.eC,.slice xm.iA xm.im.length xm.iC,.slice xm.pA xm.pa.length xm.pC,.int .i64 4] 83))
 obtain⟨_,_,_,_,_,_,_,d7,hz3,hb3⟩:=zH hw3
 have HB3:=Hp (HB2.out.trans (hb3.mono HB2.out.size))
 have HZ3:=Hp hz3
 have hw3':=hw3.symm
 clear hw3 hb3 hz3
 go_wp2_with fail
 refine(FJ _).mono ?_;rintro e w4 ⟨⟨A3,c3,A4,c4,d1,d2,d3,d4,d5,d6,g1,g2,g3,g4,g5,g6,rfl,hk4,hl4⟩,hb4⟩
 have f2:=Hp (Dp (RU A3 c3) A4 c4 (gX d1 d2 d3 g1 g2 g3 d4 d5 d6 g4 g5 g6) ⟨#[110,111]⟩ w4 hk4 hl4)
 rw[Ql]at f2
 have n7:=(hb4.cell (p:=⟨w2.heap.size,7,none⟩) (by have:=HZ3.out;simp;omega)).trans d7
 have HB4:=Hp (HB3.out.trans (hb4.mono HB3.out.size))
 have hz4:w2.heap.size<w4.heap.size:=by have:=HZ3.out;have:=hb4.size;omega
 clear hk4 hl4 hb4 d7
 go_wp2_with fail
 refine(f2.out).mono ?_;rintro e w5 ⟨⟨Y,rfl,hY⟩,hb5⟩
 have m7:=(hb5.cell (p:=⟨w2.heap.size,7,none⟩) hz4).trans n7
 have HB5:=Hp (HB4.out.trans (hb5.mono HB4.out.size))
 have hz5:w2.heap.size<w5.heap.size:=by have:=hb5.size;omega
 obtain⟨w6,hw6⟩:=Nm (w5.alloc (.cells #[.string Y.m.name,.int .i64 Y.m.major,.int .i64 Y.m.minor,.string Y.m.text,.slice Y.m.eA Y.m.ex.length Y.m.eC,.slice Y.m.iA Y.m.im.length Y.m.iC,.slice Y.m.pA Y.m.pa.length Y.m.pC,.int .i64 Y.first] 83))
 obtain⟨_,_,_,_,_,_,_,_,hz6,hb6⟩:=zH hw6
 have o7:=(hb6.cell (p:=⟨w2.heap.size,7,none⟩) hz5).trans m7
 have HB6:=Hp (HB5.out.trans (hb6.mono HB5.out.size))
 have hz66:w2.heap.size<w6.heap.size:=by omega
 have hw6':=hw6.symm
 clear hY hb5 f2 hw6 hb6 hz6 n7 m7 hz4
 go_wp2_with fail
 refine(FJ _).mono ?_;rintro e w7 ⟨⟨A5,c5,A6,c6,h1,h2,h3,h4,h5,h6,i1,i2,i3,i4,i5,i6,rfl,hk7,hl7⟩,hb7⟩
 have f3:=Hp (jE (RU A5 c5) A6 c6 (gX h1 h2 h3 i1 i2 i3 h4 h5 h6 i4 i5 i6) w7 hk7 hl7)
 rw[Mk]at f3
 have p7:=(hb7.cell (p:=⟨w2.heap.size,7,none⟩) hz66).trans o7
 have HB7:=Hp (HB6.out.trans (hb7.mono HB6.out.size))
 have hz7:w2.heap.size<w7.heap.size:=by have:=hb7.size;omega
 clear hk7 hl7 hb7 o7
 go_wp2_with fail
 refine(f3.out).mono ?_;rintro e w8 ⟨rfl,hb8⟩
 have q7:=(hb8.cell (p:=⟨w2.heap.size,7,none⟩) hz7).trans p7
 have HB8:=Hp (HB7.out.trans (hb8.mono HB7.out.size))
 have hz8:w2.heap.size<w8.heap.size:=by have:=hb8.size;omega
 clear hb8 p7 f3
 go_wp2_with fail
 refine(wF _).mono ?_;rintro e w9 ⟨⟨A7,c7,j1,j2,j3,j4,j5,j6,l1,l2,l3,l4,l5,l6,rfl,hl9⟩,hb9⟩
 have f4:=Hp (jE Rk A7 c7 (gX j1 j2 j3 l1 l2 l3 j4 j5 j6 l4 l5 l6) w9 (Sg _) hl9)
 rw[Qs]at f4
 have r7:=(hb9.cell (p:=⟨w2.heap.size,7,none⟩) hz8).trans q7
 have HB9:=Hp (HB8.out.trans (hb9.mono HB8.out.size))
 have hz9:w2.heap.size<w9.heap.size:=by have:=hb9.size;omega
 clear hl9 hb9 q7
 go_wp2_with fail
 refine(f4.out).mono ?_;rintro e w10 ⟨rfl,hb10⟩
 have s7:=(hb10.cell (p:=⟨w2.heap.size,7,none⟩) hz9).trans r7
 have HB10:=Hp (HB9.out.trans (hb10.mono HB9.out.size))
 clear hb10 r7 f4
 go_wp2_with fail
 go_ret
 exact⟨by simp,HB10.out⟩
end
section
open Go
theorem Li {k k':Krn} {l l':List Plc} (hk:k.bare=k'.bare) (hl:aD l=aD l') (h:aZ k l=0) (h':aZ k' l'=0):iP k l=0/\iP k' l'=0/\TL k l=TL k' l':=by
 obtain⟨h1,_,h3⟩:=Sz h
 obtain⟨g1,_,g3⟩:=Sz h'
 unfold iP TL
 rw[if_neg (by omega),if_neg (by omega),if_neg (by omega),if_neg (by omega)]
 exact⟨h3,g3,by rw[<-nP k l l 0,<-nP k' l' l' 0,hk,hl]⟩
end
end Go.Proofs.YtjiedaialianmaaGreat
