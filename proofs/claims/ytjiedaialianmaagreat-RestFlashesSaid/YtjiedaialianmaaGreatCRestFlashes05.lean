import Derived.Test.YtjiedaialianmaaGreatBPlReRu04
import Derived.Test.YtjiedaialianmaaGreatCRestFlashes04
import Derived.Test.YtjiedaialianmaaGreatKTiny
namespace Go.Proofs.YtjiedaialianmaaGreat
section
open Go
set_option maxRecDepth 100000
set_option maxHeartbeats 4000000
open Go.RowKit Go.Lib
theorem Sp.set {base:Nat} {W:World} {b i:Nat} {v v':Value} (h:W.cell? ⟨b,i,none⟩=some v) (ha:Alk v v') (hb:base<=b):Sp base W (W.setCell ⟨b,i,none⟩ v'):=by
 refine⟨(Below.refl _ _).setCell (p:=⟨b,i,none⟩) hb _,fun b1 i1 u hu=>⟨?_,by rw[World.frozen?_setCell]⟩⟩
 by_cases e:(⟨b,i,none⟩:Addr)=⟨b1,i1,none⟩
 ·rw[<-e]at hu ⊢
  rw[h]at hu
  obtain rfl:=Option.some.inj hu
  exact⟨v',World.cell?_setCell_same _ _ _ h,ha⟩
 ·exact⟨u,(World.cell?_setCell_other _ _ _ _ e).trans hu,.same u⟩
theorem Sp.str {base:Nat} {W W':World} {b i:Nat} {s:ByteArray} (h:Sp base W W') (hc:W.cell? ⟨b,i,none⟩=some (.string s)):∃s',W'.cell? ⟨b,i,none⟩=some (.string s'):=by
 obtain⟨⟨v,h1,h2⟩,_⟩:=h.each b i _ hc
 cases h2 with
 |same=>exact⟨_,h1⟩
 |str=>exact⟨_,h1⟩
theorem Sp.num {base:Nat} {W W':World} {b i:Nat} {k:IntKind} {n:Int} (h:Sp base W W') (hc:W.cell? ⟨b,i,none⟩=some (.int k n)):∃n',W'.cell? ⟨b,i,none⟩=some (.int k n'):=by
 obtain⟨⟨v,h1,h2⟩,_⟩:=h.each b i _ hc
 cases h2 with
 |same=>exact⟨_,h1⟩
 |int=>exact⟨_,h1⟩
theorem Sp.slc {base:Nat} {W W':World} {b i:Nat} {A:Option Addr} {n c:Nat} (h:Sp base W W') (hc:W.cell? ⟨b,i,none⟩=some (.slice A n c)):W'.cell? ⟨b,i,none⟩=some (.slice A n c):=by
 obtain⟨⟨v,h1,h2⟩,_⟩:=h.each b i _ hc
 cases h2 with
 |same=>exact h1
theorem StrAt.now {W0 W:World} {base:Nat} {A:Option Addr} {n k o:Nat} (h:StrAt W0 base A n k o) (hs:Sp base W0 W) {j:Nat} (hj:j<n):∃g s,A=some ⟨g,0,none⟩/\W.cell? ⟨g,j*k+o,none⟩=some (.string s)/\W.frozen? ⟨g,j*k+o,none⟩=false/\base<=g/\g<W0.heap.size:=by
 obtain⟨g,s,e,h1,h2,h3,h4⟩:=h.each j hj
 obtain⟨s',h5⟩:=hs.str h1
 exact⟨g,s',e,h5,(hs.each _ _ _ h1).2.trans h2,h3,h4⟩
theorem IntAt.now {W0 W:World} {base:Nat} {A:Option Addr} {n k o:Nat} (h:IntAt W0 base A n k o) (hs:Sp base W0 W) {j:Nat} (hj:j<n):∃g s,A=some ⟨g,0,none⟩/\W.cell? ⟨g,j*k+o,none⟩=some (.int .i64 s)/\W.frozen? ⟨g,j*k+o,none⟩=false/\base<=g/\g<W0.heap.size:=by
 obtain⟨g,s,e,h1,h2,h3,h4⟩:=h.each j hj
 obtain⟨s',h5⟩:=hs.num h1
 exact⟨g,s',e,h5,(hs.each _ _ _ h1).2.trans h2,h3,h4⟩
theorem SpX.store {W0 W W1:World} {base g i:Nat} {v v':Value} (h:SpX base W0 W W1) (hc:W1.cell? ⟨g,i,none⟩=some v) (ha:Alk v v') (hb:base<=g) (hg:g<W0.heap.size):SpX base W0 W (W1.setCell ⟨g,i,none⟩ v'):=
 ⟨h.sp.trans (Sp.set hc ha hb),fun b h1 h2=>(heap_setCell_other W1 ⟨g,i,none⟩ b v' (show b≠g by omega)).trans (h.top b h1 h2),by simpa[World.setCell]using h.size⟩
theorem SpX.blk {base:Nat} {W0 W W':World} {b:Nat} {o:Obj} (h:SpX base W0 W W') (hb:W0.heap.size<=b) (hx:W.heap[b]? =some o):W'.heap[b]? =some o:=(h.top b hb (Array.getElem?_eq_some_iff.1 hx).1).trans hx
theorem spoilModule_any (m:Mod) (W0:World) (base:Nat) (hm:m.own W0 base) (W:World) (hs:Sp base W0 W) (hbase:base<=W0.heap.size) (h1:m.ex.length<=big) (h2:m.im.length<=big) (h3:m.pa.length<=big):
  Calls Tryz.prog 60 #[m.v] W fun e w'=>(∃u,e=.returned u)/\SpX base W0 W w':=by
 show Calls Tryz.prog 60 #[.agg #[.string m.name,.int .i64 m.major,.int .i64 m.minor,.string m.text,.slice m.eA m.ex.length m.eC,.slice m.iA m.im.length m.iC,.slice m.pA m.pa.length m.pC]] W _
 have HE:=Hp (str_at (enc:=Exp.cells) (k:=2) (o:=0) (fun _=>rfl) (by omega) (fun x=>⟨_,rfl⟩) hm.ex)
 have HI:=Hp (str_at (enc:=Imp.cells) (k:=4) (o:=1) (fun _=>rfl) (by omega) (fun x=>⟨_,rfl⟩) hm.im)
 have HP:=Hp (int_at_ (enc:=Pat.cells) (k:=4) (o:=0) (fun _=>rfl) (by omega) (fun x=>⟨_,rfl⟩) hm.pa)
 unfold big at h1 h2 h3
 obtain⟨w1,hw1⟩:=Nm (W.alloc (.cells #[.string m.name,.int .i64 m.major,.int .i64 m.minor,.string m.text,.slice m.eA m.ex.length m.eC,.slice m.iA m.im.length m.iC,.slice m.pA m.pa.length m.pC] 70))
 have HX1:=Hp (show w1.heap[W.heap.size]? =some (.cells #[.string m.name,.int .i64 m.major,.int .i64 m.minor,.string m.text,.slice m.eA m.ex.length m.eC,.slice m.iA m.im.length m.iC,.slice m.pA m.pa.length m.pC] 70 (0,0)) by rw[hw1];exact heap_alloc_new W _)
 have HS0:=Hp (SpX.alloc hs hbase (hw1▸(Below.refl _ _).alloc (Nat.le_refl _) _:Below W.heap.size W w1))
 have HS1:=Hp (SpX.refl HS0.out.sp)
 have HZ:=Hp hs.size
 have hw1':=hw1.symm
 clear hm hs hw1 hbase
 go_enter Tryz.func60,Tryz.ntmps60
 go_wp2_with fail
 go_loopw [2] (fun i wr=>∃j:Nat,j<=m.ex.length/\i=.int .i64 j/\SpX base W0 w1 wr) (fun i _=>m.ex.length -(intOf i).toNat)
 case atStart=>exact⟨0,by omega,rfl,HS1.out⟩
 case round=>
  obtain⟨j,hj,rfl,hS⟩:=hrel
  have HS:=Hp hS
  have x4:=heap_cell (hS.blk HZ.out HX1.out) 4
  simp only[List.getElem?_toArray,List.getElem?_cons_zero,List.getElem?_cons_succ]at x4
  by_cases hlt:j<m.ex.length
  ·have hlt':(j:Int)<m.ex.length:=by omega
   obtain⟨g,s,hA,c0,f0,hb,hg⟩:=HE.out.now hS.sp hlt
   rw[hA]at x4
   rw[Nat.add_zero]at c0 f0
   have HN:=Hp (hS.store c0 (Alk.str s ⟨#[63]⟩) hb hg)
   clear hS hA hb hg
   go_wp2_with fail
   go_roundw
   case rel=>exact⟨j+1,hlt,by go_num,HN.out⟩
   case measure=>(simp[intOf];try omega)
  ·clear hS
   go_wp2_with fail
   go_loopw [3] (fun i wr=>∃j:Nat,j<=m.im.length/\i=.int .i64 j/\SpX base W0 w1 wr) (fun i _=>m.im.length -(intOf i).toNat)
   case atStart=>exact⟨0,by omega,rfl,HS.out⟩
   case round=>
    obtain⟨j,hj,rfl,hS⟩:=hrel
    have HS:=Hp hS
    have x4:=heap_cell (hS.blk HZ.out HX1.out) 5
    simp only[List.getElem?_toArray,List.getElem?_cons_zero,List.getElem?_cons_succ]at x4
    by_cases hlt:j<m.im.length
    ·have hlt':(j:Int)<m.im.length:=by omega
     obtain⟨g,s,hA,c0,f0,hb,hg⟩:=HI.out.now hS.sp hlt
     rw[hA]at x4
     have HN:=Hp (hS.store c0 (Alk.str s ⟨#[63]⟩) hb hg)
     clear hS hA hb hg
     go_wp2_with fail
     go_roundw
     case rel=>exact⟨j+1,hlt,by go_num,HN.out⟩
     case measure=>(simp[intOf];try omega)
    ·clear hS
     go_wp2_with fail
     go_loopw [4] (fun i wr=>∃j:Nat,j<=m.pa.length/\i=.int .i64 j/\SpX base W0 w1 wr) (fun i _=>m.pa.length -(intOf i).toNat)
     case atStart=>exact⟨0,by omega,rfl,HS.out⟩
     case round=>
      obtain⟨j,hj,rfl,hS⟩:=hrel
      have HS:=Hp hS
      have x4:=heap_cell (hS.blk HZ.out HX1.out) 6
      simp only[List.getElem?_toArray,List.getElem?_cons_zero,List.getElem?_cons_succ]at x4
      by_cases hlt:j<m.pa.length
      ·have hlt':(j:Int)<m.pa.length:=by omega
       obtain⟨g,s,hA,c0,f0,hb,hg⟩:=HP.out.now hS.sp hlt
       rw[hA]at x4
       rw[Nat.add_zero]at c0 f0
       have HN:=Hp (hS.store c0 (Alk.int .i64 s (-7)) hb hg)
       clear hS hA hb hg
       go_wp2_with fail
       go_roundw
       case rel=>exact⟨j+1,hlt,by go_num,HN.out⟩
       case measure=>(simp[intOf];try omega)
      ·clear hS
       go_wp2_with fail
       go_end0
       exact⟨⟨_,rfl⟩,HS0.out.trans HS.out⟩
theorem plc_now {W0 W:World} {base c:Nat} {A:Option Addr} {l:List Plc} (h:aP W0 base (.slice A l.length c) l) (hs:Sp base W0 W) {j:Nat} (hj:j<l.length):
  ∃g nm mj mn tx fi,A=some ⟨g,0,none⟩/\(W.cell? ⟨g,j*8,none⟩=some (.string nm)/\W.cell? ⟨g,j*8+1,none⟩=some (.int .i64 mj)/\W.cell? ⟨g,j*8+2,none⟩=some (.int .i64 mn)/\W.cell? ⟨g,j*8+3,none⟩=some (.string tx)/\
   W.cell? ⟨g,j*8+4,none⟩=some (.slice l[j].m.eA l[j].m.ex.length l[j].m.eC)/\W.cell? ⟨g,j*8+5,none⟩=some (.slice l[j].m.iA l[j].m.im.length l[j].m.iC)/\W.cell? ⟨g,j*8+6,none⟩=some (.slice l[j].m.pA l[j].m.pa.length l[j].m.pC))/\
   W.cell? ⟨g,j*8+7,none⟩=some (.int .i64 fi)/\W.frozen? ⟨g,j*8+7,none⟩=false/\base<=g/\g<W0.heap.size:=by
 obtain⟨g,rfl,hc,hf,hb,hl⟩:=own_place h (by omega)
 have hk:∀(o:Nat) u,o<8->(Plc.cells l[j])[o]? =some u->W0.cell? ⟨g,j*8+o,none⟩=some u:=fun o u ho hu=>hc _ _ ((flat_get (enc:=Plc.cells) (k:=8) (fun _=>rfl) l j o hj ho).trans hu)
 obtain⟨a0,e0⟩:=hs.str (hk 0 _ (by omega) rfl)
 obtain⟨a1,e1⟩:=hs.num (hk 1 _ (by omega) rfl)
 obtain⟨a2,e2⟩:=hs.num (hk 2 _ (by omega) rfl)
 obtain⟨a3,e3⟩:=hs.str (hk 3 _ (by omega) rfl)
 have c7:=hk 7 _ (by omega) rfl
 obtain⟨a7,e7⟩:=hs.num c7
 exact⟨g,a0,a1,a2,a3,a7,rfl,⟨e0,e1,e2,e3,hs.slc (hk 4 _ (by omega) rfl),hs.slc (hk 5 _ (by omega) rfl),hs.slc (hk 6 _ (by omega) rfl)⟩,e7,(hs.each _ _ _ c7).2.trans (hf _),hb,hl⟩
theorem spoilRegistry_any (k:Krn) (A:Option Addr) (l:List Plc) (c:Nat) (W0:World) (base:Nat) (hr:jS W0 base k A l c) (W:World) (hs:Sp base W0 W) (hbase:base<=W0.heap.size) (h1:k.ex.length<=big) (h2:l.length<=big) (h3:∀x∈l,x.m.ex.length<=big/\x.m.im.length<=big/\x.m.pa.length<=big):
  Calls Tryz.prog 34 #[rgV k A l c] W fun e w'=>(∃u,e=.returned u)/\SpX base W0 W w':=by
 have HE:=Hp (str_at (enc:=Exp.cells) (k:=2) (o:=0) (fun _=>rfl) (by omega) (fun x=>⟨_,rfl⟩) hr.ex)
 have HR:=Hp hr
 have H3:=Hp h3
 have HBS:=Hp hbase
 have HB1:=Hp h2
 unfold big at h1 h2
 obtain⟨w1,hw1⟩:=Nm (W.alloc (.cells #[.int .i64 k.major,.int .i64 k.minor,.slice k.eA k.ex.length k.eC,.slice A l.length c] 39))
 have HX1:=Hp (show w1.heap[W.heap.size]? =some (.cells #[.int .i64 k.major,.int .i64 k.minor,.slice k.eA k.ex.length k.eC,.slice A l.length c] 39 (0,0)) by rw[hw1];exact heap_alloc_new W _)
 have HS0:=Hp (SpX.alloc hs hbase (hw1▸(Below.refl _ _).alloc (Nat.le_refl _) _:Below W.heap.size W w1))
 have HS1:=Hp (SpX.refl HS0.out.sp)
 have HZ:=Hp hs.size
 have hw1':=hw1.symm
 clear hr hs hw1 hbase h3
 go_enter Tryz.func34,Tryz.ntmps34
 go_wp2_with fail
 go_loopw [2] (fun i wr=>∃j:Nat,j<=k.ex.length/\i=.int .i64 j/\SpX base W0 w1 wr) (fun i _=>k.ex.length -(intOf i).toNat)
 case atStart=>exact⟨0,by omega,rfl,HS1.out⟩
 case round=>
  obtain⟨j,hj,rfl,hS⟩:=hrel
  have HS:=Hp hS
  have x4:=heap_cell (hS.blk HZ.out HX1.out) 2
  simp only[List.getElem?_toArray,List.getElem?_cons_zero,List.getElem?_cons_succ]at x4
  by_cases hlt:j<k.ex.length
  ·have hlt':(j:Int)<k.ex.length:=by omega
   obtain⟨g,s,hA,c0,f0,hb,hg⟩:=HE.out.now hS.sp hlt
   rw[hA]at x4
   rw[Nat.add_zero]at c0 f0
   have HN:=Hp (hS.store c0 (Alk.str s ⟨#[63]⟩) hb hg)
   clear hS hA hb hg
   go_wp2_with fail
   go_roundw
   case rel=>exact⟨j+1,hlt,by go_num,HN.out⟩
   case measure=>(simp[intOf];try omega)
  ·clear hS
   go_wp2_with fail
   go_loopw [3] (fun i wr=>∃j:Nat,j<=l.length/\i=.int .i64 j/\SpX base W0 w1 wr) (fun i _=>l.length -(intOf i).toNat)
   case atStart=>exact⟨0,by omega,rfl,HS.out⟩
   case round=>
    obtain⟨j,hj,rfl,hS⟩:=hrel
    have HT:=Hp hS
    have x3:=heap_cell (hS.blk HZ.out HX1.out) 3
    simp only[List.getElem?_toArray,List.getElem?_cons_zero,List.getElem?_cons_succ]at x3
    by_cases hlt:j<l.length
    ·have hlt':(j:Int)<l.length:=by omega
     obtain⟨g,nm,mj,mn,tx,fi,hA,⟨p0,p1,p2,p3,p4,p5,p6⟩,p7,f7,hb,hg⟩:=plc_now HR.out.mods.row hS.sp hlt
     obtain⟨y,hy⟩:=Nm (l[j]'hlt)
     have hyo:=HR.out.mods.each _ (List.getElem_mem hlt)
     have hyl:=H3.out _ (List.getElem_mem hlt)
     simp only[<-hy]at p4 p5 p6 hyo hyl
     have cS:=Hp (show Calls Tryz.prog 60 #[.agg #[.string nm,.int .i64 mj,.int .i64 mn,.string tx,.slice y.m.eA y.m.ex.length y.m.eC,.slice y.m.iA y.m.im.length y.m.iC,.slice y.m.pA y.m.pa.length y.m.pC]] wr fun e w'=>(∃u,e=.returned u)/\SpX base W0 wr w' from
      spoilModule_any ⟨nm,mj,mn,tx,y.m.ex,y.m.im,y.m.pa,y.m.eA,y.m.eC,y.m.iA,y.m.iC,y.m.pA,y.m.pC⟩ W0 base ⟨hyo.ex,hyo.im,hyo.pa⟩ wr hS.sp HBS.out hyl.1 hyl.2.1 hyl.2.2)
     subst hA
     clear hS hyo hyl hy p7 f7
     go_wp2_with fail
     refine(cS.out).mono ?_;rintro e w2 ⟨⟨u,rfl⟩,hS2⟩
     have HT2:=Hp (HT.out.trans hS2)
     obtain⟨g2,nm2,mj2,mn2,tx2,fi2,hA2,_,p7,f7,_,_⟩:=plc_now HR.out.mods.row HT2.out.sp hlt
     obtain rfl:g=g2:=by injection hA2 with e;injection e
     have x3:=heap_cell (HT2.out.blk HZ.out HX1.out) 3
     simp only[List.getElem?_toArray,List.getElem?_cons_zero,List.getElem?_cons_succ]at x3
     have HN:=Hp (HT2.out.store p7 (Alk.int .i64 fi2 (-7)) hb hg)
     clear hS2 hA2 hb hg p0 p1 p2 p3 p4 p5 p6
     go_wp2_with fail
     go_roundw
     case rel=>exact⟨j+1,hlt,by go_num,HN.out⟩
     case measure=>(simp[intOf];try omega)
    ·clear hS
     go_wp2_with fail
     go_end0
     exact⟨⟨_,rfl⟩,HS0.out.trans HT.out⟩
end
section
open Go
open Go.RowKit Go.Lib
theorem rg_spoilt {base:Nat} {W0 W:World} {b:Nat} {k:Krn} {A:Option Addr} {l:List Plc} {c:Nat} (hs:Sp base W0 W) (h:W0.heap[b]? =some (.cells #[.int .i64 k.major,.int .i64 k.minor,.slice k.eA k.ex.length k.eC,.slice A l.length c] 39 (0,0))):
  ∃a d,W.cell? ⟨b,0,none⟩=some (.int .i64 a)/\W.cell? ⟨b,1,none⟩=some (.int .i64 d)/\W.cell? ⟨b,2,none⟩=some (.slice k.eA k.ex.length k.eC)/\W.cell? ⟨b,3,none⟩=some (.slice A l.length c):=by
 obtain⟨a,h0⟩:=hs.num (heap_cell h 0)
 obtain⟨d,h1⟩:=hs.num (heap_cell h 1)
 exact⟨a,d,h0,h1,hs.slc (heap_cell h 2),hs.slc (heap_cell h 3)⟩
end
end Go.Proofs.YtjiedaialianmaaGreat
