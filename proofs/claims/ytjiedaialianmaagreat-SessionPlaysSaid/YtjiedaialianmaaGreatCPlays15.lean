import Derived.Test.YtjiedaialianmaaGreatCPlays11
import Derived.Test.YtjiedaialianmaaGreatCPlays12
set_option maxRecDepth 100000
set_option maxHeartbeats 8000000
namespace Go.Proofs.YtjiedaialianmaaGreat
section
open Go
open Go.RowKit Go.Lib
abbrev rgA (k:Krn)(A:Option Addr)(l:List Plc)(c:Nat):Array Value:=#[.int .i64 k.major,.int .i64 k.minor,.slice k.eA k.ex.length k.eC,.slice A l.length c]
theorem Rn.there {a W:World}{k:Krn}{A:Option Addr}{l:List Plc}{c:Nat}(h:Rn a W k A l c):dL W k A l:=
 ⟨h.krn.below h.bel,⟨h.row.elim (fun r=>r.below h.bel) Reads.of_own,h.len,fun x b=>(h.mods x b).below h.bel⟩⟩
theorem Rn.JW {d w W:World}{E:Int}{k e:Krn}{A g:Option Addr}{l a L:List Plc}{c f:Nat}(h:Rn d w k A l c)(o:∀x∈L,x.m.ok d)(n:Below w.heap.size w W)(j:a.length<=big)(q:e=wK E k)(p:a=wL E L)(i:aP W w.heap.size (.slice g a.length f) a):Rn d W e g a f:=by
 refine⟨?_,fun x b=>?_,j,.inr (RH i h.bel.size),h.bel.trans (n.mono h.bel.size)⟩
 ·rw[q]
  unfold wK
  split
  ·exact Sg d
  ·exact h.krn
 ·rw[p]at b
  unfold wL at b
  split at b
  ·cases b
  ·exact o x b
def KU (g w:World)(E:Int)(k:Krn)(L:List Plc)(e:Ending)(c:World):Prop:=
 (∃b f a d,e=.returned (.tuple #[rgV b f a d,.int .i64 E])/\Rn g c b f a d/\b.bare=k.bare/\aD a=aD L)/\Below w.heap.size w c
theorem iO {j w W:World}{b:Nat}{k a:Krn}{A i:Option Addr}{l d:List Plc}{c c':Nat}(n:W.heap[b]? =some (.cells (rgA k A l c) 39 (0,0)))(e:w.heap.size<=b)(p:Below w.heap.size w W)(q:j.heap.size<=w.heap.size)(h:Rn j W a i d c'):
  ∃g,g=(((W.setCell ⟨b,0,none⟩ (.int .i64 a.major)).setCell ⟨b,1,none⟩ (.int .i64 a.minor)).setCell ⟨b,2,none⟩ (.slice a.eA a.ex.length a.eC)).setCell ⟨b,3,none⟩ (.slice i d.length c')/\
   g.heap[b]? =some (.cells #[.int .i64 a.major,.int .i64 a.minor,.slice a.eA a.ex.length a.eC,.slice i d.length c'] 39 (0,0))/\Rn j g a i d c'/\Below w.heap.size w g/\Only b W g:=by
 obtain⟨o,m⟩:=gY n (.int .i64 a.major) (.int .i64 a.minor) (.slice a.eA a.ex.length a.eC) (.slice i d.length c')
 have f:=m.below (GY2 (ZL n))
 exact⟨_,rfl,o,h.next (h.bel.trans (f.mono (GY1 q e))) (m.kp n (ts:=[39]) (by simp)) (by decide),p.trans (f.mono e),m⟩
theorem Eb {c:Cm}{l:List Plc}{y:Plc}(h:y∈cmL c l):y.m=c.m\/y∈l:=by
 unfold cmL at h
 split at h
 ·rcases mU.1 h with rfl|h
  ·exact .inl rfl
  ·exact .inr h
 ·split at h
  ·exact .inr (List.mem_of_mem_eraseIdx h)
  ·unfold qF at h
   rcases mU.1 h with rfl|h
   ·exact .inl rfl
   ·exact .inr (List.mem_of_mem_eraseIdx h)
theorem KH {c:Cm}(h:RL c=0)(b:c.kind≠2):c.nm=⟨#[]⟩:=by
 have d:=(lT h).2.2.1 b
 have:c.nm.data=#[]:=Array.size_eq_zero_iff.1 d
 obtain⟨_,_,a⟩:=c
 cases a;simp_all
theorem Qd {c:Cm}(h:RL c=0)(a:nG c.kind=false):c.m.bare=jB.bare:=Gi ((lT h).2.1 a)
theorem GH (k:Krn)(A:Option Addr)(c:Nat)(l:List Plc)(cm:Cm)(v w:World)(h:Rn v w k A l c)(hm:cm.m.ok v)(hn:cm.nm.size<=big)(d2:aZ k l=0):
  Calls Tryz.prog 146 #[rgV k A l c,cm.v] w (KU v w (doE k l cm) k (doL k l cm)):=by
 obtain⟨w0,a7⟩:=Nm (w.alloc (.cells (rgA k A l c) 39))
 obtain⟨w1,a6⟩:=Nm (w0.alloc (.cells (cmA cm) 102))
 obtain⟨w2,a5⟩:=Nm (w1.alloc (.cells #[.int .i64 0,.int .i64 0,.slice none 0 0,.slice none 0 0] 39))
 have c3:Below w.heap.size w w0:=a7▸ZB
 have c2:Below w0.heap.size w0 w1:=a6▸ZB
 have c0:Below w1.heap.size w1 w2:=a5▸ZB
 have z0:w0.heap.size=w.heap.size+1:=by rw[a7];simp
 have z1:w1.heap.size=w.heap.size+2:=by rw[a6];simp;omega
 have z2:w2.heap.size=w.heap.size+3:=by rw[a5];simp;omega
 have b4:=Hp (aF c0 (aF c2 (show w0.heap[w.heap.size]? =some (.cells (rgA k A l c) 39 (0,0)) by rw[a7];exact heap_alloc_new w _)))
 have b5:=Hp (aF c0 (show w1.heap[w.heap.size+1]? =some (.cells (cmA cm) 102 (0,0)) by rw[a6,<-z0];exact heap_alloc_new w0 _))
 have b0:=Hp (show w2.heap[w.heap.size+2]? =some (.cells #[.int .i64 0,.int .i64 0,.slice none 0 0,.slice none 0 0] 39 (0,0)) by rw[a5,<-z1];exact heap_alloc_new w1 _)
 have q:=Hp (c3.trans ((c2.mono c3.size).trans (c0.mono (GY1 c3.size c2.size))))
 obtain⟨p0,p1,p2,p3,p4,p5,p6,p7,p8⟩:=dJ b5.out
 have c1:=Hp (UT cm w2 (hm.below (h.bel.trans (q.mono h.bel.size))) hn)
 have B:=Hp h
 have HS:=Hp h.bel.size
 have c4:=Hp d2
 have HM:=Hp hm
 have HZ:=Hp z2
 have d8:=a7.symm
 have d7:=a6.symm
 have d6:=a5.symm
 obtain⟨E,I⟩:=Nm (doE k l cm)
 obtain⟨L,hL⟩:=Nm (doL k l cm)
 rw[<-I,<-hL]
 unfold doL at hL
 rw[<-I]at hL
 have T:=Hp hL
 unfold doE at I
 clear a7 a6 a5 c3 c2 c0 z2 h hm hn d2 hL
 by_cases t:RL cm=0
 ·rw[if_neg (by omega)]at I
  rw[t]at c1
  obtain⟨a8,_⟩:=lT t
  have d1:=Hp t
  obtain⟨K,m,nm⟩:=cm
  simp only at a8 I HM p0 p1 p2 p3 p4 p5 p6 p7 p8
  have Q:=Hp (show L=if E≠0 then l else if K=4 then(bI 0 l).1 else cmL ⟨K,m,nm⟩ l from T.out)
  clear t T
  obtain rfl|rfl|rfl|rfl:K=1\/K=2\/K=3\/K=4:=by omega
  ·obtain rfl:nm=⟨#[]⟩:=KH d1.out (show(1:Int)≠2 by decide)
   rw[if_neg (by decide)]at I
   have cI:=Hp (fun W(hb:Below w.heap.size w W)=>C8 k A c l m W (B.there.below hb).1 (B.there.below hb).2 (HM.below (B.bel.trans (hb.mono B.bel.size))) c4.out)
   rw[<-I]at cI
   have P:=Hp (show∀x∈oD l m,x.m.ok v from fun x hx=>by
    rcases Eb (c:=⟨1,m,⟨#[]⟩⟩) (l:=l) (show x∈cmL _ _ from hx)with e|hx
    ·rw[e];exact HM.out
    ·exact B.mods x hx)
   obtain⟨L0,u⟩:=Nm (oD l m)
   rw[<-u]at P
   rw[<-u]at cI
   have T:=Hp (show L=if E≠0 then l else L0 by rw[Q.out,u];rfl)
   clear I u a8 Q
   go_enter Tryz.func146,Tryz.ntmps146
   go_wp2_with fail
   refine(c1.out).mono ?_;rintro e n ⟨rfl,a⟩
   obtain⟨w4,g⟩:=Nm (n.alloc (.cells #[.int .i64 k.major,.int .i64 k.minor,.slice k.eA k.ex.length k.eC,.slice A l.length c] 39))
   have f:Below n.heap.size n w4:=g▸ZB
   obtain⟨p0,p1,p2,p3,p4,p5,p6,p7,p8⟩:=dJ (aF f (aF a b5.out))
   obtain⟨a2,g0,g1,g2,g3,_⟩:=aB (aF a b4.out)
   obtain⟨a3,k0,k1,k2,k3,_⟩:=aB (aF f a2.out)
   have a1:=Hp (aF f (aF a b0))
   have Y:=Hp (show w4.heap[n.heap.size]? =some (.cells #[.int .i64 k.major,.int .i64 k.minor,.slice k.eA k.ex.length k.eC,.slice A l.length c] 39 (0,0)) by rw[g];exact heap_alloc_new n _)
   have i:=Hp (q.trans ((a.mono q.size).trans (f.mono (GY1 q.size a.size))))
   have j:=Hp (show w.heap.size+3<=n.heap.size by have:=HZ.out;have:=a.size;omega)
   have a4:=g.symm
   clear a f g
   go_wp2_with fail
   refine(cI.out _ i.out).mono ?_;rintro e w5 ⟨⟨k5,A5,l5,c5,rfl,D,O,N,e1,e2,F⟩,d⟩
   have R:=Hp (aF d a3)
   have H:=Hp (aF d a1)
   obtain⟨X,x0,x1,x2,x3,c9,c8,c7,c6⟩:=aB (aF d Y.out)
   have M:=Hp (i.trans (d.mono i.size))
   have a0:=Hp ((B.below i).JW P d D.2.len e1 e2 F)
   have b2:=Hp O
   have b1:=Hp N
   clear d D O N e1 e2 F k0 k1 k2 k3 g0 g1 g2 g3 p0 p1 p2 p3 p4 p5 p6 p7 p8
   go_upto_region 14 with fail
   obtain⟨w6,e6,h6,C,G,r⟩:=iO (b:=n.heap.size) X.out (by have:=j.out;omega) M.out HS.out a0.out
   rw[<-e6]
   have b3:=Hp ((r.block _ (ZL R.out) (by have:=j.out;omega)).trans R.out)
   obtain⟨J,r0,r1,r2,r3,b9,b8,b7,b6⟩:=aB ((r.block _ (ZL H.out) (by have:=j.out;omega)).trans H.out)
   obtain⟨_,k0,k1,k2,k3,_⟩:=aB b3.out
   obtain⟨_,x0,x1,x2,x3,_⟩:=aB h6
   have Z:=Hp C
   have z:=Hp G
   have a9:=Hp (B.below z)
   clear e6 h6 C G r
   by_cases s:E=0
   ·subst s
    go_wp2_with fail
    obtain⟨w7,V,U,o,p,_⟩:=iO (b:=w.heap.size+2) (k:=Rk) (A:=none) (l:=[]) (c:=0) (c':=c5) J.out (by omega) z.out HS.out Z.out
    rw[<-V]
    exact bodyPost_ret (results_cell_tmp rfl _ _ (w.heap.size+2) 39 _ (0,0) _ rfl U Tryz.underlying39 rfl Tryz.RP) rfl ⟨⟨k5,A5,l5,c5,rfl,o,b2.out,by rw[b1.out,T.out];rfl⟩,p⟩
   ·have s':(E != 0)=true:=by simp[s]
    have S:=Hp s
    clear s
    go_wp2_with fail
    obtain⟨w7,V,U,o,p,_⟩:=iO (b:=w.heap.size+2) (k:=Rk) (A:=none) (l:=[]) (c:=0) (c':=c) J.out (by omega) z.out HS.out a9.out
    rw[<-V]
    exact bodyPost_ret (results_cell_tmp rfl _ _ (w.heap.size+2) 39 _ (0,0) _ rfl U Tryz.underlying39 rfl Tryz.RP) rfl ⟨⟨k,A,l,c,rfl,o,rfl,by rw[T.out,if_pos S.out]⟩,p⟩
  ·rw[if_neg (by decide)]at I
   rw[VM (c':=⟨2,jB,nm⟩) rfl (show Cm.bare _=Cm.bare _ by unfold Cm.bare;simp only[Qd d1.out rfl]) rfl]at I
   have cI:=Hp (fun W(hb:Below w.heap.size w W)=>Eh k A c l nm W (B.there.below hb).1 (B.there.below hb).2 c4.out)
   rw[<-I]at cI
   have P:=Hp (show∀x∈Rc l nm,x.m.ok v from fun x hx=>by
    rcases Eb (c:=⟨2,m,nm⟩) (l:=l) (show x∈cmL _ _ from hx)with e|hx
    ·rw[e];exact HM.out
    ·exact B.mods x hx)
   obtain⟨L0,u⟩:=Nm (Rc l nm)
   rw[<-u]at P
   rw[<-u]at cI
   have T:=Hp (show L=if E≠0 then l else L0 by rw[Q.out,u];rfl)
   clear I u a8 Q
   go_enter Tryz.func146,Tryz.ntmps146
   go_wp2_with fail
   refine(c1.out).mono ?_;rintro e n ⟨rfl,a⟩
   obtain⟨w4,g⟩:=Nm (n.alloc (.cells #[.int .i64 k.major,.int .i64 k.minor,.slice k.eA k.ex.length k.eC,.slice A l.length c] 39))
   have f:Below n.heap.size n w4:=g▸ZB
   obtain⟨p0,p1,p2,p3,p4,p5,p6,p7,p8⟩:=dJ (aF f (aF a b5.out))
   obtain⟨a2,g0,g1,g2,g3,_⟩:=aB (aF a b4.out)
   obtain⟨a3,k0,k1,k2,k3,_⟩:=aB (aF f a2.out)
   have a1:=Hp (aF f (aF a b0))
   have Y:=Hp (show w4.heap[n.heap.size]? =some (.cells #[.int .i64 k.major,.int .i64 k.minor,.slice k.eA k.ex.length k.eC,.slice A l.length c] 39 (0,0)) by rw[g];exact heap_alloc_new n _)
   have i:=Hp (q.trans ((a.mono q.size).trans (f.mono (GY1 q.size a.size))))
   have j:=Hp (show w.heap.size+3<=n.heap.size by have:=HZ.out;have:=a.size;omega)
   have a4:=g.symm
   clear a f g
   go_wp2_with fail
   refine(cI.out _ i.out).mono ?_;rintro e w5 ⟨⟨k5,A5,l5,c5,rfl,D,O,N,e1,e2,F⟩,d⟩
   have R:=Hp (aF d a3)
   have H:=Hp (aF d a1)
   obtain⟨X,x0,x1,x2,x3,c9,c8,c7,c6⟩:=aB (aF d Y.out)
   have M:=Hp (i.trans (d.mono i.size))
   have a0:=Hp ((B.below i).JW P d D.2.len e1 e2 F)
   have b2:=Hp O
   have b1:=Hp N
   clear d D O N e1 e2 F k0 k1 k2 k3 g0 g1 g2 g3 p0 p1 p2 p3 p4 p5 p6 p7 p8
   go_upto_region 14 with fail
   obtain⟨w6,e6,h6,C,G,r⟩:=iO (b:=n.heap.size) X.out (by have:=j.out;omega) M.out HS.out a0.out
   rw[<-e6]
   have b3:=Hp ((r.block _ (ZL R.out) (by have:=j.out;omega)).trans R.out)
   obtain⟨J,r0,r1,r2,r3,b9,b8,b7,b6⟩:=aB ((r.block _ (ZL H.out) (by have:=j.out;omega)).trans H.out)
   obtain⟨_,k0,k1,k2,k3,_⟩:=aB b3.out
   obtain⟨_,x0,x1,x2,x3,_⟩:=aB h6
   have Z:=Hp C
   have z:=Hp G
   have a9:=Hp (B.below z)
   clear e6 h6 C G r
   by_cases s:E=0
   ·subst s
    go_wp2_with fail
    obtain⟨w7,V,U,o,p,_⟩:=iO (b:=w.heap.size+2) (k:=Rk) (A:=none) (l:=[]) (c:=0) (c':=c5) J.out (by omega) z.out HS.out Z.out
    rw[<-V]
    exact bodyPost_ret (results_cell_tmp rfl _ _ (w.heap.size+2) 39 _ (0,0) _ rfl U Tryz.underlying39 rfl Tryz.RP) rfl ⟨⟨k5,A5,l5,c5,rfl,o,b2.out,by rw[b1.out,T.out];rfl⟩,p⟩
   ·have s':(E != 0)=true:=by simp[s]
    have S:=Hp s
    clear s
    go_wp2_with fail
    obtain⟨w7,V,U,o,p,_⟩:=iO (b:=w.heap.size+2) (k:=Rk) (A:=none) (l:=[]) (c:=0) (c':=c) J.out (by omega) z.out HS.out a9.out
    rw[<-V]
    exact bodyPost_ret (results_cell_tmp rfl _ _ (w.heap.size+2) 39 _ (0,0) _ rfl U Tryz.underlying39 rfl Tryz.RP) rfl ⟨⟨k,A,l,c,rfl,o,rfl,by rw[T.out,if_pos S.out]⟩,p⟩
  ·obtain rfl:nm=⟨#[]⟩:=KH d1.out (show(3:Int)≠2 by decide)
   rw[if_neg (by decide)]at I
   have cI:=Hp (fun W(hb:Below w.heap.size w W)=>CY k A c l m W (B.there.below hb).1 (B.there.below hb).2 (HM.below (B.bel.trans (hb.mono B.bel.size))) c4.out)
   rw[<-I]at cI
   have P:=Hp (show∀x∈qF l m,x.m.ok v from fun x hx=>by
    rcases Eb (c:=⟨3,m,⟨#[]⟩⟩) (l:=l) (show x∈cmL _ _ from hx)with e|hx
    ·rw[e];exact HM.out
    ·exact B.mods x hx)
   obtain⟨L0,u⟩:=Nm (qF l m)
   rw[<-u]at P
   rw[<-u]at cI
   have T:=Hp (show L=if E≠0 then l else L0 by rw[Q.out,u];rfl)
   clear I u a8 Q
   go_enter Tryz.func146,Tryz.ntmps146
   go_wp2_with fail
   refine(c1.out).mono ?_;rintro e n ⟨rfl,a⟩
   obtain⟨w4,g⟩:=Nm (n.alloc (.cells #[.int .i64 k.major,.int .i64 k.minor,.slice k.eA k.ex.length k.eC,.slice A l.length c] 39))
   have f:Below n.heap.size n w4:=g▸ZB
   obtain⟨p0,p1,p2,p3,p4,p5,p6,p7,p8⟩:=dJ (aF f (aF a b5.out))
   obtain⟨a2,g0,g1,g2,g3,_⟩:=aB (aF a b4.out)
   obtain⟨a3,k0,k1,k2,k3,_⟩:=aB (aF f a2.out)
   have a1:=Hp (aF f (aF a b0))
   have Y:=Hp (show w4.heap[n.heap.size]? =some (.cells #[.int .i64 k.major,.int .i64 k.minor,.slice k.eA k.ex.length k.eC,.slice A l.length c] 39 (0,0)) by rw[g];exact heap_alloc_new n _)
   have i:=Hp (q.trans ((a.mono q.size).trans (f.mono (GY1 q.size a.size))))
   have j:=Hp (show w.heap.size+3<=n.heap.size by have:=HZ.out;have:=a.size;omega)
   have a4:=g.symm
   clear a f g
   go_wp2_with fail
   refine(cI.out _ i.out).mono ?_;rintro e w5 ⟨⟨k5,A5,l5,c5,rfl,D,O,N,e1,e2,F⟩,d⟩
   have R:=Hp (aF d a3)
   have H:=Hp (aF d a1)
   obtain⟨X,x0,x1,x2,x3,c9,c8,c7,c6⟩:=aB (aF d Y.out)
   have M:=Hp (i.trans (d.mono i.size))
   have a0:=Hp ((B.below i).JW P d D.2.len e1 e2 F)
   have b2:=Hp O
   have b1:=Hp N
   clear d D O N e1 e2 F k0 k1 k2 k3 g0 g1 g2 g3 p0 p1 p2 p3 p4 p5 p6 p7 p8
   go_upto_region 14 with fail
   obtain⟨w6,e6,h6,C,G,r⟩:=iO (b:=n.heap.size) X.out (by have:=j.out;omega) M.out HS.out a0.out
   rw[<-e6]
   have b3:=Hp ((r.block _ (ZL R.out) (by have:=j.out;omega)).trans R.out)
   obtain⟨J,r0,r1,r2,r3,b9,b8,b7,b6⟩:=aB ((r.block _ (ZL H.out) (by have:=j.out;omega)).trans H.out)
   obtain⟨_,k0,k1,k2,k3,_⟩:=aB b3.out
   obtain⟨_,x0,x1,x2,x3,_⟩:=aB h6
   have Z:=Hp C
   have z:=Hp G
   have a9:=Hp (B.below z)
   clear e6 h6 C G r
   by_cases s:E=0
   ·subst s
    go_wp2_with fail
    obtain⟨w7,V,U,o,p,_⟩:=iO (b:=w.heap.size+2) (k:=Rk) (A:=none) (l:=[]) (c:=0) (c':=c5) J.out (by omega) z.out HS.out Z.out
    rw[<-V]
    exact bodyPost_ret (results_cell_tmp rfl _ _ (w.heap.size+2) 39 _ (0,0) _ rfl U Tryz.underlying39 rfl Tryz.RP) rfl ⟨⟨k5,A5,l5,c5,rfl,o,b2.out,by rw[b1.out,T.out];rfl⟩,p⟩
   ·have s':(E != 0)=true:=by simp[s]
    have S:=Hp s
    clear s
    go_wp2_with fail
    obtain⟨w7,V,U,o,p,_⟩:=iO (b:=w.heap.size+2) (k:=Rk) (A:=none) (l:=[]) (c:=0) (c':=c) J.out (by omega) z.out HS.out a9.out
    rw[<-V]
    exact bodyPost_ret (results_cell_tmp rfl _ _ (w.heap.size+2) 39 _ (0,0) _ rfl U Tryz.underlying39 rfl Tryz.RP) rfl ⟨⟨k,A,l,c,rfl,o,rfl,by rw[T.out,if_pos S.out]⟩,p⟩
  ·rw[if_pos rfl]at I
   subst I
   obtain⟨f1,f2,f3,f4⟩:=oL c4.out
   have cI:=Hp (fun W(hb:Below w.heap.size w W)=>Jf k A c l W (B.there.below hb).2 f1 f2 f3)
   have T:=Hp (show L=(bI 0 l).1 by rw[Q.out,if_neg (by decide),if_pos rfl])
   have d5:=Hp (show L.map (·.m)=l.map (·.m) by rw[T.out];exact Uj)
   rw[<-T.out]at cI
   clear f1 f2 f3 f4 a8 Q
   go_enter Tryz.func146,Tryz.ntmps146
   go_wp2_with fail
   refine(c1.out).mono ?_;rintro e n ⟨rfl,a⟩
   obtain⟨w4,g⟩:=Nm (n.alloc (.cells #[.int .i64 k.major,.int .i64 k.minor,.slice k.eA k.ex.length k.eC,.slice A l.length c] 39))
   have f:Below n.heap.size n w4:=g▸ZB
   obtain⟨p0,p1,p2,p3,p4,p5,p6,p7,p8⟩:=dJ (aF f (aF a b5.out))
   obtain⟨a2,g0,g1,g2,g3,_⟩:=aB (aF a b4.out)
   obtain⟨a3,k0,k1,k2,k3,_⟩:=aB (aF f a2.out)
   have a1:=Hp (aF f (aF a b0))
   have Y:=Hp (show w4.heap[n.heap.size]? =some (.cells #[.int .i64 k.major,.int .i64 k.minor,.slice k.eA k.ex.length k.eC,.slice A l.length c] 39 (0,0)) by rw[g];exact heap_alloc_new n _)
   have i:=Hp (q.trans ((a.mono q.size).trans (f.mono (GY1 q.size a.size))))
   have j:=Hp (show w.heap.size+3<=n.heap.size by have:=HZ.out;have:=a.size;omega)
   have a4:=g.symm
   clear a f g
   go_wp2_with fail
   refine(cI.out _ i.out).mono ?_;rintro e w5 ⟨⟨A5,c5,rfl,D,F⟩,d⟩
   have H:=Hp (aF d a1)
   obtain⟨X,x0,x1,x2,x3,c9,c8,c7,c6⟩:=aB (aF d Y.out)
   have M:=Hp (i.trans (d.mono i.size))
   have a0:=Hp (show Rn v w5 k A5 L c5 from⟨B.krn,fun x hx=>by
    obtain⟨y,hy,e⟩:=oF (d5.symm) hx
    rw[<-e];exact B.mods y hy,D.len,(by
     rcases F with⟨rfl,rfl,e⟩|ho
     ·rw[e];exact(B.below M.out).row
     ·exact .inr (RH ho (B.below i.out).bel.size)),(B.below M.out).bel⟩)
   clear d D F k0 k1 k2 k3 g0 g1 g2 g3 p0 p1 p2 p3 p4 p5 p6 p7 p8
   go_upto_region 14 with fail
   obtain⟨w6,e6,h6,C,G,r⟩:=iO (b:=n.heap.size) (c':=c5) X.out (by have:=j.out;omega) M.out HS.out a0.out
   rw[<-e6]
   obtain⟨J,r0,r1,r2,r3,b9,b8,b7,b6⟩:=aB ((r.block _ (ZL H.out) (by have:=j.out;omega)).trans H.out)
   obtain⟨_,x0,x1,x2,x3,_⟩:=aB h6
   have Z:=Hp C
   have z:=Hp G
   clear e6 h6 C G r
   go_wp2_with fail
   obtain⟨w7,V,U,o,p,_⟩:=iO (b:=w.heap.size+2) (k:=Rk) (A:=none) (l:=[]) (c:=0) (c':=c5) J.out (by omega) z.out HS.out Z.out
   rw[<-V]
   exact bodyPost_ret (results_cell_tmp rfl _ _ (w.heap.size+2) 39 _ (0,0) _ rfl U Tryz.underlying39 rfl Tryz.RP) rfl ⟨⟨k,A5,L,c5,rfl,o,rfl,rfl⟩,p⟩
 ·rw[if_pos t]at I
  rw[<-I]at c1
  have d0:E≠0:=by rw[I];exact t
  have s':(E != 0)=true:=by simp[d0]
  have j:=Hp (show L=l by rw[T.out,if_pos d0])
  clear t I d0 T
  go_enter Tryz.func146,Tryz.ntmps146
  go_wp2_with fail
  refine(c1.out).mono ?_;rintro e n ⟨rfl,a⟩
  obtain⟨_,k0,k1,k2,k3,_⟩:=aB (aF a b4.out)
  obtain⟨d4,r0,r1,r2,r3,b9,b8,b7,b6⟩:=aB (aF a b0.out)
  have d3:=Hp (q.trans (a.mono q.size))
  clear a p0 p1 p2 p3 p4 p5 p6 p7 p8
  go_wp2_with fail
  obtain⟨w7,V,U,o,p,_⟩:=iO (b:=w.heap.size+2) (k:=Rk) (A:=none) (l:=[]) (c:=0) (c':=c) d4.out (by omega) d3.out HS.out (B.below d3.out)
  rw[<-V]
  exact bodyPost_ret (results_cell_tmp rfl _ _ (w.heap.size+2) 39 _ (0,0) _ rfl U Tryz.underlying39 rfl Tryz.RP) rfl ⟨⟨k,A,l,c,rfl,o,rfl,by rw[j.out]⟩,p⟩
end
section
open Go
open Go.RowKit Go.Lib
def uN (h c:World)(E:Int)(k:Krn)(L:List Plc)(p e:Value)(b:World):Prop:=
 ∃(B:Nat)(a:Krn)(g:Option Addr)(d:List Plc)(f:Nat),p=.pointer (some ⟨B,0,none⟩)/\e=.int .i64 E/\b.heap[B]? =some (.cells #[.int .i64 a.major,.int .i64 a.minor,.slice a.eA a.ex.length a.eC,.slice g d.length f] 39 (0,0))/\
  c.heap.size<=B/\Rn h b a g d f/\a.bare=k.bare/\aD d=aD L/\Below c.heap.size c b
theorem uN.new {i f b:World}{E:Int}{k a:Krn}{L c:List Plc}{e:Option Addr}{d:Nat}(g:Below f.heap.size f b)(h:Rn i b a e c d)(m:a.bare=k.bare)(l:aD c=aD L):
  uN i f E k L (.pointer (some ⟨b.heap.size,0,none⟩)) (.int .i64 E) (b.alloc (.cells #[.int .i64 a.major,.int .i64 a.minor,.slice a.eA a.ex.length a.eC,.slice e c.length d] 39)):=by
 have j:Below b.heap.size b (b.alloc (.cells #[.int .i64 a.major,.int .i64 a.minor,.slice a.eA a.ex.length a.eC,.slice e c.length d] 39)):=ZB
 exact⟨_,a,e,c,d,rfl,rfl,heap_alloc_new _ _,g.size,h.below j,m,l,g.trans (j.mono g.size)⟩
theorem uN.old {f b d:World}{E:Int}{k a:Krn}{L e:List Plc}{g:Option Addr}{c' B:Nat}(j:d.heap[B]? =some (.cells #[.int .i64 0,.int .i64 0,.slice none 0 0,.slice none 0 0] 39 (0,0)))(i:b.heap.size<=B)(s:f.heap.size<=b.heap.size)(o:Below b.heap.size b d)(h:Rn f d a g e c')(n:a.bare=k.bare)(m:aD e=aD L):
  uN f b E k L (.pointer (some ⟨B,0,none⟩)) (.int .i64 E) ((((d.setCell ⟨B,0,none⟩ (.int .i64 a.major)).setCell ⟨B,1,none⟩ (.int .i64 a.minor)).setCell ⟨B,2,none⟩ (.slice a.eA a.ex.length a.eC)).setCell ⟨B,3,none⟩ (.slice g e.length c')):=by
 obtain⟨t,rfl,r,q,p,_⟩:=iO (k:=Rk) (A:=none) (l:=[]) (c:=0) (c':=c') j i o s h
 exact⟨_,a,g,e,c',rfl,rfl,r,i,q,n,m,p⟩
structure ND (w:World)(k:Krn)(l:List Plc)(cs:List Cm)(j:Nat)(v:Value)(W:World):Prop where
 reg:∃k' A' l' c',W.heap[w.heap.size]? =some (.cells (rgA k' A' l' c') 39 (0,0))/\Rn w W k' A' l' c'/\k'.bare=k.bare/\aD l'=aD (Rl k l (cs.take j))
 res:W.heap[w.heap.size+1]? =some (.cells #[.int .i64 0,.int .i64 0,.slice none 0 0,.slice none 0 0] 39 (0,0))
 errs:dN W (w.heap.size+2) v (eD k l (cs.take j))
 bel:Below w.heap.size w W
theorem Dz {α:Type}{l:List α}{j:Nat}(h:j<l.length):l.take (j+1)=l.take j++[l[j]]:=(List.take_append_getElem h).symm
theorem Lt {k:Krn}{l:List Plc}{a:List Cm}{j:Nat}(h:j<a.length):Rl k l (a.take (j+1))=doL k (Rl k l (a.take j)) a[j]:=by
 rw[Dz h,nM];rfl
theorem Kn {k:Krn}{l:List Plc}{a:List Cm}{j:Nat}(h:j<a.length):eD k l (a.take (j+1))=eD k l (a.take j)++[doE k (Rl k l (a.take j)) a[j]]:=by
 rw[Dz h,qC];rfl
theorem D8 (k:Krn)(A:Option Addr)(c:Nat)(l:List Plc)(cA:Option Addr)(n:List Cm)(cc:Nat)(w:World)(hk:k.ok w)(h:aU w A l)(hc:nE w cA n)(d2:n.length<=1000)(b1:aZ k l=0):
  Calls Tryz.prog 67 #[rgV k A l c,.slice cA n.length cc] w fun e w'=>(∃k' A' l' c' eA ec,e=.returned (.tuple #[rgV k' A' l' c',.slice eA (eD k l n).length ec])/\Rn w w' k' A' l' c'/\k'.bare=k.bare/\aD l'=aD (Rl k l n)/\dN w' (w.heap.size+2) (.slice eA (eD k l n).length ec) (eD k l n))/\Below w.heap.size w w':=by
 obtain⟨w0,J⟩:=Nm (w.alloc (.cells (rgA k A l c) 39))
 obtain⟨w1,I⟩:=Nm (w0.alloc (.cells #[.int .i64 0,.int .i64 0,.slice none 0 0,.slice none 0 0] 39))
 have a3:Below w.heap.size w w0:=J▸ZB
 have a2:Below w0.heap.size w0 w1:=I▸ZB
 have z0:w0.heap.size=w.heap.size+1:=by rw[J];simp
 have z1:w1.heap.size=w.heap.size+2:=by rw[I];simp;omega
 have a4:Below w.heap.size w w1:=a3.trans (a2.mono a3.size)
 have e0:=Hp (show ND w k l n 0 (.slice none 0 0) w1 from⟨⟨k,A,l,c,aF a2 (show w0.heap[w.heap.size]? =some (.cells (rgA k A l c) 39 (0,0)) by rw[J];exact heap_alloc_new w _),⟨hk,h.each,h.len,.inl h.row,a4⟩,rfl,rfl⟩,
  (by rw[I,<-z0];exact heap_alloc_new w0 _),dN.nil _ _,a4⟩)
 have HC:=Hp hc
 have d6:=Hp b1
 have g9:=Hp z1
 have e7:=Hp d2
 have b3:=hc.len
 unfold big at b3
 have e9:=J.symm
 have e8:=I.symm
 clear J I a3 a2 z1 a4 hk h hc b1
 go_enter Tryz.func67,Tryz.ntmps67
 go_wp2_with fail
 go_loopw [6,7] (fun v i wr=>∃(j:Nat)(oA:Option Addr)(oC:Nat),i=.int .i64 j/\v=.slice oA j oC/\j<=n.length/\ND w k l n j (.slice oA j oC) wr) (fun _ i _=>n.length -(intOf i).toNat)
 case atStart=>exact⟨0,none,0,rfl,rfl,Nat.zero_le _,e0.out⟩
 case round=>
  obtain⟨j,oA,oC,rfl,rfl,hj,hI⟩:=hrel
  have C:=Hp hI
  clear hI
  by_cases z:j<n.length
  ·have f4:(j:Int)<n.length:=by omega
   obtain⟨d,A1,H,T,hg,ht,Z,R⟩:=C.reg
   have HG:=Hp hg
   have HT:=Hp ht
   have E1:=Hp Z
   have E2:=Hp R
   obtain⟨_,g0,g1,g2,g3,_⟩:=aB hg
   have b5:=HC.below C.bel
   obtain⟨a,rfl,g4,p0,p1,p2,p3,p4,p5,p6,p7,p8⟩:=Jv b5.row (GZ4 _ _) j z
   obtain⟨hm,hn⟩:=HC.each _ (GZ9 z)
   have b2:aZ d H=0:=by rw[kQ Z R];exact lG _ d6.out
   obtain⟨E,hE⟩:=Nm (doE d H (n[j]'z))
   obtain⟨L,hL⟩:=Nm (doL d H (n[j]'z))
   have c4:=Hp (show eD k l (n.take (j+1))=eD k l (n.take j)++[E] by rw[Kn z,hE,Tz Z R rfl])
   have a5:=Hp (show aD L=aD (Rl k l (n.take (j+1))) by rw[Lt z,hL];exact Su Z R rfl)
   obtain⟨y,hy⟩:=Nm (n[j]'z)
   simp only[<-hy]at p0 p1 p2 p3 p4 p5 p6 p7 p8 hm hn hE hL
   have cD:=Hp (fun W(K:Below wr.heap.size wr W)=>show Calls Tryz.prog 146 #[.agg #[.int .i64 d.major,.int .i64 d.minor,.slice d.eA d.ex.length d.eC,.slice A1 H.length T],.agg #[.int .i64 y.kind,.string y.m.name,.int .i64 y.m.major,.int .i64 y.m.minor,.string y.m.text,.slice y.m.eA y.m.ex.length y.m.eC,.slice y.m.iA y.m.im.length y.m.iC,.slice y.m.pA y.m.pa.length y.m.pC,.string y.nm]] W (KU w W (doE d H y) d (doL d H y)) from GH d A1 T H y w W (ht.below K) hm hn b2)
   rw[<-hE,<-hL]at cD
   have c5:=Hp (show w.heap.size<=wr.heap.size from C.bel.size)
   have f9:w.heap.size<wr.heap.size:=(ZL hg)
   clear hg ht Z R b5 hm hn b2 hE hL hy
   go_upto_region 5 with fail
   have r:=Hp (show fI wr (fun f=>Below wr.heap.size wr f/\f.cell? ⟨w.heap.size,0,none⟩=some (.int .i64 d.major)/\f.cell? ⟨w.heap.size,1,none⟩=some (.int .i64 d.minor)/\f.cell? ⟨w.heap.size,2,none⟩=some (.slice d.eA d.ex.length d.eC)/\f.cell? ⟨w.heap.size,3,none⟩=some (.slice A1 H.length T)/\f.cell? (a.add (j*9))=some (.int .i64 y.kind)/\f.cell? ⟨(a.add (j*9)).block,(a.add (j*9)).off+1,none⟩=some (.string y.m.name)/\f.cell? ⟨(a.add (j*9)).block,(a.add (j*9)).off+2,none⟩=some (.int .i64 y.m.major)/\f.cell? ⟨(a.add (j*9)).block,(a.add (j*9)).off+3,none⟩=some (.int .i64 y.m.minor)/\f.cell? ⟨(a.add (j*9)).block,(a.add (j*9)).off+4,none⟩=some (.string y.m.text)/\f.cell? ⟨(a.add (j*9)).block,(a.add (j*9)).off+5,none⟩=some (.slice y.m.eA y.m.ex.length y.m.eC)/\f.cell? ⟨(a.add (j*9)).block,(a.add (j*9)).off+6,none⟩=some (.slice y.m.iA y.m.im.length y.m.iC)/\f.cell? ⟨(a.add (j*9)).block,(a.add (j*9)).off+7,none⟩=some (.slice y.m.pA y.m.pa.length y.m.pC)/\f.cell? ⟨(a.add (j*9)).block,(a.add (j*9)).off+8,none⟩=some (.string y.nm)) from dE (by repeat' first|(with_reducible exact bC.cell (by first|omega|(simp;omega)|(simp only[aA];omega)))|refine bC.and ?_ ?_))
   have g:=Hp (r.now ⟨GZ4 _ _,by assumption,by assumption,by assumption,by assumption,by assumption,by assumption,by assumption,by assumption,by assumption,by assumption,by assumption,by assumption,by assumption⟩)
   have G:=Hp r.D
   have u:=Hp r.S
   have s:=Hp r.A
   have t:=Hp r.X
   have F:=Hp r.L
   go_cut [8,9] from 16 to 24 (fun p e wx=>uN w wr E d L p e wx)
   case first=>
    have d3:=Hp (show∀f:World,Below (wr.alloc (.cells #[.int .i64 0,.int .i64 0,.slice none 0 0,.slice none 0 0] 39)).drew.heap.size (wr.alloc (.cells #[.int .i64 0,.int .i64 0,.slice none 0 0,.slice none 0 0] 39)).drew f->f.heap[wr.heap.size]? =some (.cells #[.int .i64 0,.int .i64 0,.slice none 0 0,.slice none 0 0] 39 (0,0)) from
     fun f K=>(K.block wr.heap.size (by show wr.heap.size<(wr.alloc _).heap.size;simp)).trans (heap_alloc_new wr _))
    have b8:=Hp (show∀(W:World),(Below wr.heap.size wr W/\W.cell? ⟨w.heap.size,0,none⟩=some (.int .i64 d.major)/\W.cell? ⟨w.heap.size,1,none⟩=some (.int .i64 d.minor)/\W.cell? ⟨w.heap.size,2,none⟩=some (.slice d.eA d.ex.length d.eC)/\W.cell? ⟨w.heap.size,3,none⟩=some (.slice A1 H.length T)/\W.cell? (a.add (j*9))=some (.int .i64 y.kind)/\W.cell? ⟨(a.add (j*9)).block,(a.add (j*9)).off+1,none⟩=some (.string y.m.name)/\W.cell? ⟨(a.add (j*9)).block,(a.add (j*9)).off+2,none⟩=some (.int .i64 y.m.major)/\W.cell? ⟨(a.add (j*9)).block,(a.add (j*9)).off+3,none⟩=some (.int .i64 y.m.minor)/\W.cell? ⟨(a.add (j*9)).block,(a.add (j*9)).off+4,none⟩=some (.string y.m.text)/\W.cell? ⟨(a.add (j*9)).block,(a.add (j*9)).off+5,none⟩=some (.slice y.m.eA y.m.ex.length y.m.eC)/\W.cell? ⟨(a.add (j*9)).block,(a.add (j*9)).off+6,none⟩=some (.slice y.m.iA y.m.im.length y.m.iC)/\W.cell? ⟨(a.add (j*9)).block,(a.add (j*9)).off+7,none⟩=some (.slice y.m.pA y.m.pa.length y.m.pC)/\W.cell? ⟨(a.add (j*9)).block,(a.add (j*9)).off+8,none⟩=some (.string y.nm))->∀(b:Nat),wr.heap.size<=b->∀v0 v1 v2 v3 x,x=(((W.setCell ⟨b,0,none⟩ v0).setCell ⟨b,1,none⟩ v1).setCell ⟨b,2,none⟩ v2).setCell ⟨b,3,none⟩ v3->(Below wr.heap.size wr x/\x.cell? ⟨w.heap.size,0,none⟩=some (.int .i64 d.major)/\x.cell? ⟨w.heap.size,1,none⟩=some (.int .i64 d.minor)/\x.cell? ⟨w.heap.size,2,none⟩=some (.slice d.eA d.ex.length d.eC)/\x.cell? ⟨w.heap.size,3,none⟩=some (.slice A1 H.length T)/\x.cell? (a.add (j*9))=some (.int .i64 y.kind)/\x.cell? ⟨(a.add (j*9)).block,(a.add (j*9)).off+1,none⟩=some (.string y.m.name)/\x.cell? ⟨(a.add (j*9)).block,(a.add (j*9)).off+2,none⟩=some (.int .i64 y.m.major)/\x.cell? ⟨(a.add (j*9)).block,(a.add (j*9)).off+3,none⟩=some (.int .i64 y.m.minor)/\x.cell? ⟨(a.add (j*9)).block,(a.add (j*9)).off+4,none⟩=some (.string y.m.text)/\x.cell? ⟨(a.add (j*9)).block,(a.add (j*9)).off+5,none⟩=some (.slice y.m.eA y.m.ex.length y.m.eC)/\x.cell? ⟨(a.add (j*9)).block,(a.add (j*9)).off+6,none⟩=some (.slice y.m.iA y.m.im.length y.m.iC)/\x.cell? ⟨(a.add (j*9)).block,(a.add (j*9)).off+7,none⟩=some (.slice y.m.pA y.m.pa.length y.m.pC)/\x.cell? ⟨(a.add (j*9)).block,(a.add (j*9)).off+8,none⟩=some (.string y.nm)) from
     fun W hc b K v0 v1 v2 v3 x e=>e▸t.out _ b 3 v3 K (t.out _ b 2 v2 K (t.out _ b 1 v1 K (t.out _ b 0 v0 K hc))))
    go_region_held3 (fun f=>Below wr.heap.size wr f/\f.cell? ⟨w.heap.size,0,none⟩=some (.int .i64 d.major)/\f.cell? ⟨w.heap.size,1,none⟩=some (.int .i64 d.minor)/\f.cell? ⟨w.heap.size,2,none⟩=some (.slice d.eA d.ex.length d.eC)/\f.cell? ⟨w.heap.size,3,none⟩=some (.slice A1 H.length T)/\f.cell? (a.add (j*9))=some (.int .i64 y.kind)/\f.cell? ⟨(a.add (j*9)).block,(a.add (j*9)).off+1,none⟩=some (.string y.m.name)/\f.cell? ⟨(a.add (j*9)).block,(a.add (j*9)).off+2,none⟩=some (.int .i64 y.m.major)/\f.cell? ⟨(a.add (j*9)).block,(a.add (j*9)).off+3,none⟩=some (.int .i64 y.m.minor)/\f.cell? ⟨(a.add (j*9)).block,(a.add (j*9)).off+4,none⟩=some (.string y.m.text)/\f.cell? ⟨(a.add (j*9)).block,(a.add (j*9)).off+5,none⟩=some (.slice y.m.eA y.m.ex.length y.m.eC)/\f.cell? ⟨(a.add (j*9)).block,(a.add (j*9)).off+6,none⟩=some (.slice y.m.iA y.m.im.length y.m.iC)/\f.cell? ⟨(a.add (j*9)).block,(a.add (j*9)).off+7,none⟩=some (.slice y.m.pA y.m.pa.length y.m.pC)/\f.cell? ⟨(a.add (j*9)).block,(a.add (j*9)).off+8,none⟩=some (.string y.nm)) (first|with_reducible exact g.out|with_reducible exact G.out _ g.out|with_reducible assumption|with_reducible exact u.out _ _ g.out q.out|with_reducible exact s.out _ _ (G.out _ g.out)|with_reducible exact s.out _ _ g.out|with_reducible exact G.out _ (s.out _ _ g.out)|with_reducible exact s.out _ _ (u.out _ _ g.out q.out)|with_reducible exact b8.out _ (u.out _ _ g.out q.out) _ (GZ3 _) _ _ _ _ _ rfl|with_reducible exact b8.out _ (s.out _ _ (u.out _ _ g.out q.out)) _ q.out.size _ _ _ _ _ rfl) (first|(go_at_call 146;(with_reducible refine(cD.out _ (F.out _ (by assumption))).mono ?_);rintro e w2 ⟨⟨k2,A2,l2,c2,rfl,M,P,O⟩,o⟩;have q:=Hp ((F.out _ (by assumption)).trans (o.mono (F.out _ (by assumption)).size));have c0:=Hp M;have V:=Hp P;have U:=Hp O;(try(have a7:=d3.out w2 o;obtain⟨_,z0,z1,z2,z3,f8,f7,f6,f5⟩:=aB a7))))
    all_goals(
     go_wp2_with fail
     go_meet
     first
      |exact uN.new q.out c0.out V.out U.out
      |exact uN.old a7 (GZ3 _) c5.out q.out c0.out V.out U.out)
   case rest=>
    obtain⟨B,k2,A2,l2,c2,rfl,rfl,hB,d0,M,P,O,o⟩:=hcut
    obtain⟨w2,rfl⟩:=Nm wc
    have h0:=Hp (GY1 c5 o.size)
    have Q:=aF o HG.out
    obtain⟨w3,e3,h3,b0,b7,N⟩:=iO (w:=w) (c':=c2) Q (GZ3 _) (C.bel.trans (o.mono C.bel.size)) (GZ3 _) M
    obtain⟨_,z0,z1,z2,z3,_⟩:=aB hB
    obtain⟨_,g0,g1,g2,g3,g8,g7,g6,g5⟩:=aB Q
    have Y:w.heap.size+2<=wr.heap.size:=by have:=(ZL C.res);omega
    have H3:=Hp h3
    have d5:=Hp b0
    have e6:=Hp b7
    have d7:=Hp ((N.block (w.heap.size+1) (ZL (aF o C.res)) (by omega)).trans (aF o C.res))
    have b9:=Hp (show dN w3 (w.heap.size+2) (.slice oA j oC) (eD k l (n.take j)) from own_kp (aO C.errs o) (N.kp Q (ts:=[39]) (by simp)) (by decide))
    have V:=Hp P
    have U:=Hp (O.trans a5)
    have d4:=Hp (show w.heap.size+2<=w3.heap.size from GY1 Y (GY1 o.size N.size))
    obtain⟨es,a1⟩:=Nm (eD k l (n.take j))
    have c3:=Hp (show es.length=j by rw[a1,lY,GY6];omega)
    have d9:=Hp (show es.length<=1000000 by have:=c3.out;have:=e7.out;omega)
    rw[<-a1]at b9 c4
    clear hB d0 M P O o Q h3 b0 b7 N a1 cD g G u s F t p0 p1 p2 p3 p4 p5 p6 p7 p8 Y
    go_upto_region 7 with fail
    rw[<-e3]
    clear e3
    go_wp2_with (at_builtin;refine uL w3 rfl (.tmp 26) (.tmp 28) rfl (w.heap.size+2) (.slice oA j oC) es E rfl rfl b9.out d9.out d4.out ?_;intro v' w4 a0 b4 b6;obtain⟨c7,c6,a9⟩:=bG a0;rw[GZ8,c3.out]at a9;subst a9;have d8:=Hp a0;have a6:=Hp b4;have e4:=Hp b6;clear a0 b4 b6)
    go_roundw
    case rel=>
     have K:=e6.trans (e4.mono (Nat.le_add_right _ 2))
     exact⟨j+1,c7,c6,by go_num,rfl,by omega,⟨⟨k2,A2,l2,c2,a6.out _ _ _ _ H3.out (by decide),d5.next K a6.out (by decide),V.trans E1.out,U.out⟩,a6.out _ _ _ _ d7.out (by decide),by rw[c4.out];exact d8.out,K⟩⟩
    case measure=>(simp[intOf];try omega)
  ·obtain rfl:j=n.length:=by omega
   obtain⟨d,A1,H,T,hg,ht,Z,R⟩:=C.reg
   have hv:=C.errs
   rw[List.take_of_length_le (GZ3 _)]at R hv
   obtain⟨_,g0,g1,g2,g3,_⟩:=aB hg
   obtain⟨HR,r0,r1,r2,r3,f0,f1,f2,f3⟩:=aB C.res
   have HT:=Hp ht
   have HV:=Hp hv
   have E1:=Hp Z
   have E2:=Hp R
   have HB:=Hp C.bel
   have a5:=Hp (show n.length=(eD k l n).length by rw[lY])
   clear hg ht Z R hv C
   go_wp2_with fail
   obtain⟨w5,e5,h5,c8,d1,c9⟩:=iO (w:=w) (k:=Rk) (A:=none) (l:=[]) (c:=0) (c':=T) (b:=w.heap.size+1) HR.out (by omega) HB.out (GZ3 _) HT.out
   rw[<-e5]
   have a8:=own_kp HV.out (c9.kp HR.out (ts:=[39]) (by simp)) (by decide)
   rw[a5.out]at a8 ⊢
   exact bodyPost_ret (results_cell_tmp rfl _ _ (w.heap.size+1) 39 _ (0,0) _ rfl h5 Tryz.underlying39 rfl Tryz.RP) rfl ⟨⟨d,A1,H,T,oA,oC,rfl,c8,E1.out,E2.out,a8⟩,d1⟩
end
end Go.Proofs.YtjiedaialianmaaGreat
