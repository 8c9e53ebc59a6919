import Derived.Test.YtjiedaialianmaaGreatA24
import Derived.Test.YtjiedaialianmaaGreatBCoPlReRu02
import Derived.Test.YtjiedaialianmaaGreatBPlReRu07
open Go
set_option maxRecDepth 100000
set_option maxHeartbeats 8000000
namespace Go.Proofs.YtjiedaialianmaaGreat
open Go.RowKit Go.Lib
theorem Rn.there {w0 W:World}{k:Krn}{A:Option Addr}{l:List Plc}{c:Nat}(h:Rn w0 W k A l c):dL W k A l:=
 ⟨h.krn.below h.bel,⟨h.row.elim (fun r=>r.below h.bel) Reads.of_own,h.len,fun x hx=>(h.mods x hx).below h.bel⟩⟩
theorem Rn.JW {w0 w W:World}{E:Int}{k k':Krn}{A A':Option Addr}{l l' L:List Plc}{c c':Nat}(h:Rn w0 w k A l c)(hL:∀x∈L,x.m.ok w0)(hb:Below w.heap.size w W)(hl:l'.length<=big)(e1:k'=wK E k)(e2:l'=wL E L)(ho:aP W w.heap.size (.slice A' l'.length c') l'):Rn w0 W k' A' l' c':=by
 refine⟨?_,fun x hx=>?_,hl,.inr (RH ho h.bel.size),h.bel.trans (hb.mono h.bel.size)⟩
 ·rw[e1]
  unfold wK
  split
  ·exact Sg w0
  ·exact h.krn
 ·rw[e2]at hx
  unfold wL at hx
  split at hx
  ·cases hx
  ·exact hL x hx
def KU (w0 w:World)(E:Int)(k:Krn)(L:List Plc)(e:Ending)(w':World):Prop:=
 (∃k' A' l' c',e=.returned (.tuple #[rgV k' A' l' c',.int .i64 E])/\Rn w0 w' k' A' l' c'/\k'.bare=k.bare/\aD l'=aD L)/\Below w.heap.size w w'
theorem Eb {c:Cm}{l:List Plc}{y:Plc}(h:y∈cmL c l):y.m=c.m\/y∈l:=by
 unfold cmL at h
 split at h
 ·rcases mU.1 h with rfl|h
  ·exact .inl rfl
  ·exact .inr h
 ·split at h
  ·exact .inr (List.mem_of_mem_eraseIdx h)
  ·unfold qF at h
   rcases mU.1 h with rfl|h
   ·exact .inl rfl
   ·exact .inr (List.mem_of_mem_eraseIdx h)
theorem KH {c:Cm}(h:RL c=0)(hk:c.kind≠2):c.nm=⟨#[]⟩:=by
 have h1:=(lT h).2.2.1 hk
 have:c.nm.data=#[]:=Array.size_eq_zero_iff.1 h1
 obtain⟨_,_,nm⟩:=c
 cases nm;simp_all
theorem Qd {c:Cm}(h:RL c=0)(hk:nG c.kind=false):c.m.bare=jB.bare:=Gi ((lT h).2.1 hk)
theorem GH (k:Krn)(A:Option Addr)(c:Nat)(l:List Plc)(cm:Cm)(v w:World)(h:Rn v w k A l c)(hm:cm.m.ok v)(hn:cm.nm.size<=big)(hrg:aZ k l=0):
  Calls Tryz.prog 146 #[rgV k A l c,cm.v] w (KU v w (doE k l cm) k (doL k l cm)):=by
 obtain⟨w0,hw0⟩:=Nm (w.alloc (.cells (rgA k A l c) 39))
 obtain⟨w1,hw1⟩:=Nm (w0.alloc (.cells (cmA cm) 102))
 obtain⟨w2,hw2⟩:=Nm (w1.alloc (.cells #[.int .i64 0,.int .i64 0,.slice none 0 0,.slice none 0 0] 39))
 have hb0:Below w.heap.size w w0:=hw0▸ZB
 have hb1:Below w0.heap.size w0 w1:=hw1▸ZB
 have hb2:Below w1.heap.size w1 w2:=hw2▸ZB
 have z0:w0.heap.size=w.heap.size+1:=by rw[hw0];simp
 have z1:w1.heap.size=w.heap.size+2:=by rw[hw1];simp;omega
 have z2:w2.heap.size=w.heap.size+3:=by rw[hw2];simp;omega
 have HG2:=Hp (aF hb2 (aF hb1 (show w0.heap[w.heap.size]? =some (.cells (rgA k A l c) 39 (0,0)) by rw[hw0];exact heap_alloc_new w _)))
 have HC2:=Hp (aF hb2 (show w1.heap[w.heap.size+1]? =some (.cells (cmA cm) 102 (0,0)) by rw[hw1,<-z0];exact heap_alloc_new w0 _))
 have HR2:=Hp (show w2.heap[w.heap.size+2]? =some (.cells #[.int .i64 0,.int .i64 0,.slice none 0 0,.slice none 0 0] 39 (0,0)) by rw[hw2,<-z1];exact heap_alloc_new w1 _)
 have HB2:=Hp (hb0.trans ((hb1.mono hb0.size).trans (hb2.mono (GY1 hb0.size hb1.size))))
 obtain⟨p0,p1,p2,p3,p4,p5,p6,p7,p8⟩:=dJ HC2.out
 have c1:=Hp (UT cm w2 (hm.below (h.bel.trans (HB2.mono h.bel.size))) hn)
 have HT:=Hp h
 have HS:=Hp h.bel.size
 have HRG:=Hp hrg
 have HM:=Hp hm
 have HZ:=Hp z2
 have hw0':=hw0.symm
 have hw1':=hw1.symm
 have hw2':=hw2.symm
 obtain⟨E,hE⟩:=Nm (doE k l cm)
 obtain⟨L,hL⟩:=Nm (doL k l cm)
 rw[<-hE,<-hL]
 unfold doL at hL
 rw[<-hE]at hL
 have HL:=Hp hL
 unfold doE at hE
 clear hw0 hw1 hw2 hb0 hb1 hb2 z2 h hm hn hrg hL
 by_cases t:RL cm=0
 ·rw[if_neg (by omega)]at hE
  rw[t]at c1
  obtain⟨hk4,_⟩:=lT t
  have HT0:=Hp t
  obtain⟨kind,m,nm⟩:=cm
  simp only at hk4 hE HM p0 p1 p2 p3 p4 p5 p6 p7 p8
  have HL':=Hp (show L=if E≠0 then l else if kind=4 then(bI 0 l).1 else cmL ⟨kind,m,nm⟩ l from HL.out)
  clear t HL
  obtain rfl|rfl|rfl|rfl:kind=1\/kind=2\/kind=3\/kind=4:=by omega
  ·obtain rfl:nm=⟨#[]⟩:=KH HT0.out (show(1:Int)≠2 by decide)
   rw[if_neg (by decide)]at hE
   have cI:=Hp (fun W(hb:Below w.heap.size w W)=>C8 k A c l m W (HT.there.below hb).1 (HT.there.below hb).2 (HM.below (HT.bel.trans (hb.mono HT.bel.size))) HRG.out)
   rw[<-hE]at cI
   have HLM:=Hp (show∀x∈oD l m,x.m.ok v from fun x hx=>by
    rcases Eb (c:=⟨1,m,⟨#[]⟩⟩) (l:=l) (show x∈cmL _ _ from hx)with e|hx
    ·rw[e];exact HM.out
    ·exact HT.mods x hx)
   obtain⟨L0,hL0⟩:=Nm (oD l m)
   rw[<-hL0]at HLM
   rw[<-hL0]at cI
   have HL:=Hp (show L=if E≠0 then l else L0 by rw[HL'.out,hL0];rfl)
   clear hE hL0 hk4 HL'
   go_enter Tryz.func146,Tryz.ntmps146
   go_wp2_with fail
   refine(c1.out).mono ?_;rintro e w3 ⟨rfl,hb3⟩
   obtain⟨w4,hw4⟩:=Nm (w3.alloc (.cells #[.int .i64 k.major,.int .i64 k.minor,.slice k.eA k.ex.length k.eC,.slice A l.length c] 39))
   have hb4:Below w3.heap.size w3 w4:=hw4▸ZB
   obtain⟨p0,p1,p2,p3,p4,p5,p6,p7,p8⟩:=dJ (aF hb4 (aF hb3 HC2.out))
   obtain⟨HG3,g0,g1,g2,g3,_⟩:=aB (aF hb3 HG2.out)
   obtain⟨HG4,k0,k1,k2,k3,_⟩:=aB (aF hb4 HG3.out)
   have HR4:=Hp (aF hb4 (aF hb3 HR2))
   have HX4:=Hp (show w4.heap[w3.heap.size]? =some (.cells #[.int .i64 k.major,.int .i64 k.minor,.slice k.eA k.ex.length k.eC,.slice A l.length c] 39 (0,0)) by rw[hw4];exact heap_alloc_new w3 _)
   have HB4:=Hp (HB2.trans ((hb3.mono HB2.size).trans (hb4.mono (GY1 HB2.size hb3.size))))
   have HLE:=Hp (show w.heap.size+3<=w3.heap.size by have:=HZ.out;have:=hb3.size;omega)
   have hw4':=hw4.symm
   clear hb3 hb4 hw4
   go_wp2_with fail
   refine(cI.out _ HB4.out).mono ?_;rintro e w5 ⟨⟨k5,A5,l5,c5,rfl,ht5,hk5,hl5,e1,e2,ho5⟩,hb5⟩
   have HG5:=Hp (aF hb5 HG4)
   have HR5:=Hp (aF hb5 HR4)
   obtain⟨HX5,x0,x1,x2,x3,xf0,xf1,xf2,xf3⟩:=aB (aF hb5 HX4.out)
   have HB5:=Hp (HB4.trans (hb5.mono HB4.size))
   have HT5:=Hp ((HT.below HB4).JW HLM hb5 ht5.2.len e1 e2 ho5)
   have HK5:=Hp hk5
   have HL5:=Hp hl5
   clear hb5 ht5 hk5 hl5 e1 e2 ho5 k0 k1 k2 k3 g0 g1 g2 g3 p0 p1 p2 p3 p4 p5 p6 p7 p8
   go_upto_region 14 with fail
   obtain⟨w6,e6,h6,ht6,hb6,ho6⟩:=iO (b:=w3.heap.size) HX5.out (by have:=HLE.out;omega) HB5.out HS.out HT5.out
   rw[<-e6]
   have HG6:=Hp ((ho6.block _ (ZL HG5.out) (by have:=HLE.out;omega)).trans HG5.out)
   obtain⟨HR6,r0,r1,r2,r3,rf0,rf1,rf2,rf3⟩:=aB ((ho6.block _ (ZL HR5.out) (by have:=HLE.out;omega)).trans HR5.out)
   obtain⟨_,k0,k1,k2,k3,_⟩:=aB HG6.out
   obtain⟨_,x0,x1,x2,x3,_⟩:=aB h6
   have HT6:=Hp ht6
   have HB6:=Hp hb6
   have HTK:=Hp (HT.below HB6)
   clear e6 h6 ht6 hb6 ho6
   by_cases s:E=0
   ·subst s
    go_wp2_with fail
    obtain⟨w7,e7,h7,ht7,hb7,_⟩:=iO (b:=w.heap.size+2) (k:=Rk) (A:=none) (l:=[]) (c:=0) (c':=c5) HR6.out (by omega) HB6.out HS.out HT6.out
    rw[<-e7]
    exact bodyPost_ret (results_cell_tmp rfl _ _ (w.heap.size+2) 39 _ (0,0) _ rfl h7 Tryz.underlying39 rfl Tryz.RP) rfl ⟨⟨k5,A5,l5,c5,rfl,ht7,HK5.out,by rw[HL5.out,HL.out];rfl⟩,hb7⟩
   ·have s':(E != 0)=true:=by simp[s]
    have S:=Hp s
    clear s
    go_wp2_with fail
    obtain⟨w7,e7,h7,ht7,hb7,_⟩:=iO (b:=w.heap.size+2) (k:=Rk) (A:=none) (l:=[]) (c:=0) (c':=c) HR6.out (by omega) HB6.out HS.out HTK.out
    rw[<-e7]
    exact bodyPost_ret (results_cell_tmp rfl _ _ (w.heap.size+2) 39 _ (0,0) _ rfl h7 Tryz.underlying39 rfl Tryz.RP) rfl ⟨⟨k,A,l,c,rfl,ht7,rfl,by rw[HL.out,if_pos S.out]⟩,hb7⟩
  ·rw[if_neg (by decide)]at hE
   rw[VM (c':=⟨2,jB,nm⟩) rfl (show Cm.bare _=Cm.bare _ by unfold Cm.bare;simp only[Qd HT0.out rfl]) rfl]at hE
   have cI:=Hp (fun W(hb:Below w.heap.size w W)=>Eh k A c l nm W (HT.there.below hb).1 (HT.there.below hb).2 HRG.out)
   rw[<-hE]at cI
   have HLM:=Hp (show∀x∈Rc l nm,x.m.ok v from fun x hx=>by
    rcases Eb (c:=⟨2,m,nm⟩) (l:=l) (show x∈cmL _ _ from hx)with e|hx
    ·rw[e];exact HM.out
    ·exact HT.mods x hx)
   obtain⟨L0,hL0⟩:=Nm (Rc l nm)
   rw[<-hL0]at HLM
   rw[<-hL0]at cI
   have HL:=Hp (show L=if E≠0 then l else L0 by rw[HL'.out,hL0];rfl)
   clear hE hL0 hk4 HL'
   go_enter Tryz.func146,Tryz.ntmps146
   go_wp2_with fail
   refine(c1.out).mono ?_;rintro e w3 ⟨rfl,hb3⟩
   obtain⟨w4,hw4⟩:=Nm (w3.alloc (.cells #[.int .i64 k.major,.int .i64 k.minor,.slice k.eA k.ex.length k.eC,.slice A l.length c] 39))
   have hb4:Below w3.heap.size w3 w4:=hw4▸ZB
   obtain⟨p0,p1,p2,p3,p4,p5,p6,p7,p8⟩:=dJ (aF hb4 (aF hb3 HC2.out))
   obtain⟨HG3,g0,g1,g2,g3,_⟩:=aB (aF hb3 HG2.out)
   obtain⟨HG4,k0,k1,k2,k3,_⟩:=aB (aF hb4 HG3.out)
   have HR4:=Hp (aF hb4 (aF hb3 HR2))
   have HX4:=Hp (show w4.heap[w3.heap.size]? =some (.cells #[.int .i64 k.major,.int .i64 k.minor,.slice k.eA k.ex.length k.eC,.slice A l.length c] 39 (0,0)) by rw[hw4];exact heap_alloc_new w3 _)
   have HB4:=Hp (HB2.trans ((hb3.mono HB2.size).trans (hb4.mono (GY1 HB2.size hb3.size))))
   have HLE:=Hp (show w.heap.size+3<=w3.heap.size by have:=HZ.out;have:=hb3.size;omega)
   have hw4':=hw4.symm
   clear hb3 hb4 hw4
   go_wp2_with fail
   refine(cI.out _ HB4.out).mono ?_;rintro e w5 ⟨⟨k5,A5,l5,c5,rfl,ht5,hk5,hl5,e1,e2,ho5⟩,hb5⟩
   have HG5:=Hp (aF hb5 HG4)
   have HR5:=Hp (aF hb5 HR4)
   obtain⟨HX5,x0,x1,x2,x3,xf0,xf1,xf2,xf3⟩:=aB (aF hb5 HX4.out)
   have HB5:=Hp (HB4.trans (hb5.mono HB4.size))
   have HT5:=Hp ((HT.below HB4).JW HLM hb5 ht5.2.len e1 e2 ho5)
   have HK5:=Hp hk5
   have HL5:=Hp hl5
   clear hb5 ht5 hk5 hl5 e1 e2 ho5 k0 k1 k2 k3 g0 g1 g2 g3 p0 p1 p2 p3 p4 p5 p6 p7 p8
   go_upto_region 14 with fail
   obtain⟨w6,e6,h6,ht6,hb6,ho6⟩:=iO (b:=w3.heap.size) HX5.out (by have:=HLE.out;omega) HB5.out HS.out HT5.out
   rw[<-e6]
   have HG6:=Hp ((ho6.block _ (ZL HG5.out) (by have:=HLE.out;omega)).trans HG5.out)
   obtain⟨HR6,r0,r1,r2,r3,rf0,rf1,rf2,rf3⟩:=aB ((ho6.block _ (ZL HR5.out) (by have:=HLE.out;omega)).trans HR5.out)
   obtain⟨_,k0,k1,k2,k3,_⟩:=aB HG6.out
   obtain⟨_,x0,x1,x2,x3,_⟩:=aB h6
   have HT6:=Hp ht6
   have HB6:=Hp hb6
   have HTK:=Hp (HT.below HB6)
   clear e6 h6 ht6 hb6 ho6
   by_cases s:E=0
   ·subst s
    go_wp2_with fail
    obtain⟨w7,e7,h7,ht7,hb7,_⟩:=iO (b:=w.heap.size+2) (k:=Rk) (A:=none) (l:=[]) (c:=0) (c':=c5) HR6.out (by omega) HB6.out HS.out HT6.out
    rw[<-e7]
    exact bodyPost_ret (results_cell_tmp rfl _ _ (w.heap.size+2) 39 _ (0,0) _ rfl h7 Tryz.underlying39 rfl Tryz.RP) rfl ⟨⟨k5,A5,l5,c5,rfl,ht7,HK5.out,by rw[HL5.out,HL.out];rfl⟩,hb7⟩
   ·have s':(E != 0)=true:=by simp[s]
    have S:=Hp s
    clear s
    go_wp2_with fail
    obtain⟨w7,e7,h7,ht7,hb7,_⟩:=iO (b:=w.heap.size+2) (k:=Rk) (A:=none) (l:=[]) (c:=0) (c':=c) HR6.out (by omega) HB6.out HS.out HTK.out
    rw[<-e7]
    exact bodyPost_ret (results_cell_tmp rfl _ _ (w.heap.size+2) 39 _ (0,0) _ rfl h7 Tryz.underlying39 rfl Tryz.RP) rfl ⟨⟨k,A,l,c,rfl,ht7,rfl,by rw[HL.out,if_pos S.out]⟩,hb7⟩
  ·obtain rfl:nm=⟨#[]⟩:=KH HT0.out (show(3:Int)≠2 by decide)
   rw[if_neg (by decide)]at hE
   have cI:=Hp (fun W(hb:Below w.heap.size w W)=>CY k A c l m W (HT.there.below hb).1 (HT.there.below hb).2 (HM.below (HT.bel.trans (hb.mono HT.bel.size))) HRG.out)
   rw[<-hE]at cI
   have HLM:=Hp (show∀x∈qF l m,x.m.ok v from fun x hx=>by
    rcases Eb (c:=⟨3,m,⟨#[]⟩⟩) (l:=l) (show x∈cmL _ _ from hx)with e|hx
    ·rw[e];exact HM.out
    ·exact HT.mods x hx)
   obtain⟨L0,hL0⟩:=Nm (qF l m)
   rw[<-hL0]at HLM
   rw[<-hL0]at cI
   have HL:=Hp (show L=if E≠0 then l else L0 by rw[HL'.out,hL0];rfl)
   clear hE hL0 hk4 HL'
   go_enter Tryz.func146,Tryz.ntmps146
   go_wp2_with fail
   refine(c1.out).mono ?_;rintro e w3 ⟨rfl,hb3⟩
   obtain⟨w4,hw4⟩:=Nm (w3.alloc (.cells #[.int .i64 k.major,.int .i64 k.minor,.slice k.eA k.ex.length k.eC,.slice A l.length c] 39))
   have hb4:Below w3.heap.size w3 w4:=hw4▸ZB
   obtain⟨p0,p1,p2,p3,p4,p5,p6,p7,p8⟩:=dJ (aF hb4 (aF hb3 HC2.out))
   obtain⟨HG3,g0,g1,g2,g3,_⟩:=aB (aF hb3 HG2.out)
   obtain⟨HG4,k0,k1,k2,k3,_⟩:=aB (aF hb4 HG3.out)
   have HR4:=Hp (aF hb4 (aF hb3 HR2))
   have HX4:=Hp (show w4.heap[w3.heap.size]? =some (.cells #[.int .i64 k.major,.int .i64 k.minor,.slice k.eA k.ex.length k.eC,.slice A l.length c] 39 (0,0)) by rw[hw4];exact heap_alloc_new w3 _)
   have HB4:=Hp (HB2.trans ((hb3.mono HB2.size).trans (hb4.mono (GY1 HB2.size hb3.size))))
   have HLE:=Hp (show w.heap.size+3<=w3.heap.size by have:=HZ.out;have:=hb3.size;omega)
   have hw4':=hw4.symm
   clear hb3 hb4 hw4
   go_wp2_with fail
   refine(cI.out _ HB4.out).mono ?_;rintro e w5 ⟨⟨k5,A5,l5,c5,rfl,ht5,hk5,hl5,e1,e2,ho5⟩,hb5⟩
   have HG5:=Hp (aF hb5 HG4)
   have HR5:=Hp (aF hb5 HR4)
   obtain⟨HX5,x0,x1,x2,x3,xf0,xf1,xf2,xf3⟩:=aB (aF hb5 HX4.out)
   have HB5:=Hp (HB4.trans (hb5.mono HB4.size))
   have HT5:=Hp ((HT.below HB4).JW HLM hb5 ht5.2.len e1 e2 ho5)
   have HK5:=Hp hk5
   have HL5:=Hp hl5
   clear hb5 ht5 hk5 hl5 e1 e2 ho5 k0 k1 k2 k3 g0 g1 g2 g3 p0 p1 p2 p3 p4 p5 p6 p7 p8
   go_upto_region 14 with fail
   obtain⟨w6,e6,h6,ht6,hb6,ho6⟩:=iO (b:=w3.heap.size) HX5.out (by have:=HLE.out;omega) HB5.out HS.out HT5.out
   rw[<-e6]
   have HG6:=Hp ((ho6.block _ (ZL HG5.out) (by have:=HLE.out;omega)).trans HG5.out)
   obtain⟨HR6,r0,r1,r2,r3,rf0,rf1,rf2,rf3⟩:=aB ((ho6.block _ (ZL HR5.out) (by have:=HLE.out;omega)).trans HR5.out)
   obtain⟨_,k0,k1,k2,k3,_⟩:=aB HG6.out
   obtain⟨_,x0,x1,x2,x3,_⟩:=aB h6
   have HT6:=Hp ht6
   have HB6:=Hp hb6
   have HTK:=Hp (HT.below HB6)
   clear e6 h6 ht6 hb6 ho6
   by_cases s:E=0
   ·subst s
    go_wp2_with fail
    obtain⟨w7,e7,h7,ht7,hb7,_⟩:=iO (b:=w.heap.size+2) (k:=Rk) (A:=none) (l:=[]) (c:=0) (c':=c5) HR6.out (by omega) HB6.out HS.out HT6.out
    rw[<-e7]
    exact bodyPost_ret (results_cell_tmp rfl _ _ (w.heap.size+2) 39 _ (0,0) _ rfl h7 Tryz.underlying39 rfl Tryz.RP) rfl ⟨⟨k5,A5,l5,c5,rfl,ht7,HK5.out,by rw[HL5.out,HL.out];rfl⟩,hb7⟩
   ·have s':(E != 0)=true:=by simp[s]
    have S:=Hp s
    clear s
    go_wp2_with fail
    obtain⟨w7,e7,h7,ht7,hb7,_⟩:=iO (b:=w.heap.size+2) (k:=Rk) (A:=none) (l:=[]) (c:=0) (c':=c) HR6.out (by omega) HB6.out HS.out HTK.out
    rw[<-e7]
    exact bodyPost_ret (results_cell_tmp rfl _ _ (w.heap.size+2) 39 _ (0,0) _ rfl h7 Tryz.underlying39 rfl Tryz.RP) rfl ⟨⟨k,A,l,c,rfl,ht7,rfl,by rw[HL.out,if_pos S.out]⟩,hb7⟩
  ·rw[if_pos rfl]at hE
   subst hE
   obtain⟨f1,f2,f3,f4⟩:=oL HRG.out
   have cI:=Hp (fun W(hb:Below w.heap.size w W)=>Jf k A c l W (HT.there.below hb).2 f1 f2 f3)
   have HL:=Hp (show L=(bI 0 l).1 by rw[HL'.out,if_neg (by decide),if_pos rfl])
   have HLS:=Hp (show L.map (·.m)=l.map (·.m) by rw[HL.out];exact Uj)
   rw[<-HL.out]at cI
   clear f1 f2 f3 f4 hk4 HL'
   go_enter Tryz.func146,Tryz.ntmps146
   go_wp2_with fail
   refine(c1.out).mono ?_;rintro e w3 ⟨rfl,hb3⟩
   obtain⟨w4,hw4⟩:=Nm (w3.alloc (.cells #[.int .i64 k.major,.int .i64 k.minor,.slice k.eA k.ex.length k.eC,.slice A l.length c] 39))
   have hb4:Below w3.heap.size w3 w4:=hw4▸ZB
   obtain⟨p0,p1,p2,p3,p4,p5,p6,p7,p8⟩:=dJ (aF hb4 (aF hb3 HC2.out))
   obtain⟨HG3,g0,g1,g2,g3,_⟩:=aB (aF hb3 HG2.out)
   obtain⟨HG4,k0,k1,k2,k3,_⟩:=aB (aF hb4 HG3.out)
   have HR4:=Hp (aF hb4 (aF hb3 HR2))
   have HX4:=Hp (show w4.heap[w3.heap.size]? =some (.cells #[.int .i64 k.major,.int .i64 k.minor,.slice k.eA k.ex.length k.eC,.slice A l.length c] 39 (0,0)) by rw[hw4];exact heap_alloc_new w3 _)
   have HB4:=Hp (HB2.trans ((hb3.mono HB2.size).trans (hb4.mono (GY1 HB2.size hb3.size))))
   have HLE:=Hp (show w.heap.size+3<=w3.heap.size by have:=HZ.out;have:=hb3.size;omega)
   have hw4':=hw4.symm
   clear hb3 hb4 hw4
   go_wp2_with fail
   refine(cI.out _ HB4.out).mono ?_;rintro e w5 ⟨⟨A5,c5,rfl,ht5,ho5⟩,hb5⟩
   have HR5:=Hp (aF hb5 HR4)
   obtain⟨HX5,x0,x1,x2,x3,xf0,xf1,xf2,xf3⟩:=aB (aF hb5 HX4.out)
   have HB5:=Hp (HB4.trans (hb5.mono HB4.size))
   have HT5:=Hp (show Rn v w5 k A5 L c5 from⟨HT.krn,fun x hx=>by
    obtain⟨y,hy,e⟩:=oF (HLS.symm) hx
    rw[<-e];exact HT.mods y hy,ht5.len,(by
     rcases ho5 with⟨rfl,rfl,e⟩|ho
     ·rw[e];exact(HT.below HB5.out).row
     ·exact .inr (RH ho (HT.below HB4.out).bel.size)),(HT.below HB5.out).bel⟩)
   clear hb5 ht5 ho5 k0 k1 k2 k3 g0 g1 g2 g3 p0 p1 p2 p3 p4 p5 p6 p7 p8
   go_upto_region 14 with fail
   obtain⟨w6,e6,h6,ht6,hb6,ho6⟩:=iO (b:=w3.heap.size) (c':=c5) HX5.out (by have:=HLE.out;omega) HB5.out HS.out HT5.out
   rw[<-e6]
   obtain⟨HR6,r0,r1,r2,r3,rf0,rf1,rf2,rf3⟩:=aB ((ho6.block _ (ZL HR5.out) (by have:=HLE.out;omega)).trans HR5.out)
   obtain⟨_,x0,x1,x2,x3,_⟩:=aB h6
   have HT6:=Hp ht6
   have HB6:=Hp hb6
   clear e6 h6 ht6 hb6 ho6
   go_wp2_with fail
   obtain⟨w7,e7,h7,ht7,hb7,_⟩:=iO (b:=w.heap.size+2) (k:=Rk) (A:=none) (l:=[]) (c:=0) (c':=c5) HR6.out (by omega) HB6.out HS.out HT6.out
   rw[<-e7]
   exact bodyPost_ret (results_cell_tmp rfl _ _ (w.heap.size+2) 39 _ (0,0) _ rfl h7 Tryz.underlying39 rfl Tryz.RP) rfl ⟨⟨k,A5,L,c5,rfl,ht7,rfl,rfl⟩,hb7⟩
 ·rw[if_pos t]at hE
  rw[<-hE]at c1
  have hEn:E≠0:=by rw[hE];exact t
  have s':(E != 0)=true:=by simp[hEn]
  have HLE:=Hp (show L=l by rw[HL.out,if_pos hEn])
  clear t hE hEn HL
  go_enter Tryz.func146,Tryz.ntmps146
  go_wp2_with fail
  refine(c1.out).mono ?_;rintro e w3 ⟨rfl,hb3⟩
  obtain⟨_,k0,k1,k2,k3,_⟩:=aB (aF hb3 HG2.out)
  obtain⟨HR3,r0,r1,r2,r3,rf0,rf1,rf2,rf3⟩:=aB (aF hb3 HR2.out)
  have HB3:=Hp (HB2.trans (hb3.mono HB2.size))
  clear hb3 p0 p1 p2 p3 p4 p5 p6 p7 p8
  go_wp2_with fail
  obtain⟨w7,e7,h7,ht7,hb7,_⟩:=iO (b:=w.heap.size+2) (k:=Rk) (A:=none) (l:=[]) (c:=0) (c':=c) HR3.out (by omega) HB3.out HS.out (HT.below HB3.out)
  rw[<-e7]
  exact bodyPost_ret (results_cell_tmp rfl _ _ (w.heap.size+2) 39 _ (0,0) _ rfl h7 Tryz.underlying39 rfl Tryz.RP) rfl ⟨⟨k,A,l,c,rfl,ht7,rfl,by rw[HLE.out]⟩,hb7⟩
end Go.Proofs.YtjiedaialianmaaGreat
