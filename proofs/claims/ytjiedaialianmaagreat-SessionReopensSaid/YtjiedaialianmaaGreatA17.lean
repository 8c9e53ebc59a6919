import Derived.Test.YtjiedaialianmaaGreatA08
import Derived.Test.YtjiedaialianmaaGreatA14
import Derived.Test.YtjiedaialianmaaGreatA15
set_option maxRecDepth 100000
set_option maxHeartbeats 8000000
namespace Go.Proofs.YtjiedaialianmaaGreat
section
open Go.RowKit
open Gs (Tx)
abbrev rgV (k:Krn)(A:Option Addr)(l:List Plc)(c:Nat):Value:=.agg #[.int .i64 k.major,.int .i64 k.minor,.slice k.eA k.ex.length k.eC,.slice A l.length c]
theorem FR (A:Option Addr)(c:Nat)(l:List Plc)(w:World)(h:aU w A l)(h8:l.length<=8){b:Bool}(hb:(rT l).isSome=b):
  Calls Tryz.prog 87 #[.slice A l.length c] w fun e w'=>(∃sv,e=.returned (.tuple #[sv,.bool b]))/\Below w.heap.size w w':=
 (Ii A c l w h h8).mono fun e w' ⟨⟨v,h1,_⟩,hB⟩=>⟨⟨v,by rw[h1,hb]⟩,hB⟩
theorem jE (k:Krn)(A:Option Addr)(c:Nat)(l:List Plc)(w:World)(hk:k.ok w)(h:aU w A l):
  Calls Tryz.prog 23 #[rgV k A l c] w fun e w'=>e=.returned (.int .i64 (aZ k l))/\Below w.heap.size w w':=by
 obtain⟨w0,hw0⟩:=Nm (w.alloc (.cells #[.int .i64 k.major,.int .i64 k.minor,.slice k.eA k.ex.length k.eC,.slice A l.length c] 39))
 obtain⟨g0,g1,g2,g3,hz,hb0⟩:=oJ hw0
 have hz0:w.heap.size<w0.heap.size:=by omega
 have H0:=Hp hb0
 have hw0':=hw0.symm
 have c1:=Hp (fun W(hb:Below w.heap.size w W)=>uI k A c l W (hk.below hb) (h.below hb))
 have c2:=Hp (fun(e:aX k l=0)W(hb:Below w.heap.size w W)=>FR A c l W (h.below hb) (cZ (dM e).2.1).1 (Fg e))
 have c3:=Hp (fun W(hb:Below w.heap.size w W)=>Bo k A c l W (hk.below hb) (h.below hb))
 have hE3:aX k l=0->iP k l=(bU k l l 0).2:=fun e=>by unfold iP;rw[if_neg (by omega)]
 obtain⟨E,hE⟩:=Nm (aZ k l)
 rw[<-hE]
 unfold aZ at hE
 obtain⟨T,hT⟩:=Nm (bs (TL k l))
 simp only[<-hT]at c3
 clear hw0 hb0 hk h hT
 generalize aX k l=le at*
 by_cases t1:le=0
 ·subst t1
  have d2:=Hp (c2.out rfl)
  clear c2
  have hE3:=hE3 rfl
  rw[if_neg (by omega)]at hE
  rw[hE3]at c3
  clear hE3
  generalize eH l=rd at*
  generalize(bU k l l 0).2=ae at*
  cases rd
  ·rw[if_neg (by simp)]at hE
   rw[Bool.not_false]at d2
   go_enter Tryz.func23,Tryz.ntmps23
   go_wp2_with (first
    |(go_at_call 86;(with_reducible refine(c1.out _ H0.out).mono ?_);rintro e w1 ⟨rfl,hb1⟩
      have HB1:=Hp (H0.trans (hb1.mono H0.size))
      have k0:=(hb1.cell (p:=⟨w.heap.size,0,none⟩) hz0).trans g0
      have k1:=(hb1.cell (p:=⟨w.heap.size,1,none⟩) hz0).trans g1
      have k2:=(hb1.cell (p:=⟨w.heap.size,2,none⟩) hz0).trans g2
      have k3:=(hb1.cell (p:=⟨w.heap.size,3,none⟩) hz0).trans g3
      have hz1:w.heap.size<w1.heap.size:=(by have:=hb1.size;omega)
      clear hb1)
    |(go_at_call 87;(with_reducible refine(d2.out _ HB1.out).mono ?_);rintro e w2 ⟨⟨sv,rfl⟩,hb2⟩
      have HB2:=Hp (HB1.trans (hb2.mono HB1.size))
      have m0:=(hb2.cell (p:=⟨w.heap.size,0,none⟩) hz1).trans k0
      have m1:=(hb2.cell (p:=⟨w.heap.size,1,none⟩) hz1).trans k1
      have m2:=(hb2.cell (p:=⟨w.heap.size,2,none⟩) hz1).trans k2
      have m3:=(hb2.cell (p:=⟨w.heap.size,3,none⟩) hz1).trans k3
      clear hb2)
    |(go_at_call 24;(with_reducible refine(c3.out _ HB2.out).mono ?_);rintro e w3 ⟨rfl,hb3⟩))
   go_ret
   exact⟨aC hE.symm,HB2.trans (hb3.mono HB2.size)⟩
  ·rw[if_pos rfl]at hE
   rw[Bool.not_true]at d2
   go_enter Tryz.func23,Tryz.ntmps23
   go_wp2_with (first
    |(go_at_call 86;(with_reducible refine(c1.out _ H0.out).mono ?_);rintro e w1 ⟨rfl,hb1⟩
      have HB1:=Hp (H0.trans (hb1.mono H0.size))
      have k0:=(hb1.cell (p:=⟨w.heap.size,0,none⟩) hz0).trans g0
      have k1:=(hb1.cell (p:=⟨w.heap.size,1,none⟩) hz0).trans g1
      have k2:=(hb1.cell (p:=⟨w.heap.size,2,none⟩) hz0).trans g2
      have k3:=(hb1.cell (p:=⟨w.heap.size,3,none⟩) hz0).trans g3
      have hz1:w.heap.size<w1.heap.size:=(by have:=hb1.size;omega)
      clear hb1)
    |(go_at_call 87;(with_reducible refine(d2.out _ HB1.out).mono ?_);rintro e w2 ⟨⟨sv,rfl⟩,hb2⟩))
   go_ret
   exact⟨aC hE.symm,HB1.trans (hb2.mono HB1.size)⟩
 ·rw[if_pos t1]at hE
  have t1':(le != 0)=true:=by simp[t1]
  clear t1 c2 c3 hE3
  go_enter Tryz.func23,Tryz.ntmps23
  go_wp2_with (go_at_call 86;(with_reducible refine(c1.out _ H0.out).mono ?_);rintro e w1 ⟨rfl,hb1⟩)
  go_ret
  exact⟨aC hE.symm,H0.trans (hb1.mono H0.size)⟩
end
section
open Go.RowKit Go.Lib
theorem Tryz.RP :(Tryz.prog.info? 39).map (·.size)=some 4:=by kernel_rfl
theorem iL {a b:Mod}(h:gI a b):a.bare=b.bare:=by
 obtain⟨nm,mj,mn,t,ex,im,pa,eA,eC,iA,iC,pA,pC⟩:=a
 obtain⟨nm',mj',mn',t',ex',im',pa',eA',eC',iA',iC',pA',pC'⟩:=b
 obtain⟨h1,h2,h3,h4,h5,h6,h7⟩:=h
 simp only at h1 h2 h3 h4 h5 h6 h7
 subst h1 h2 h3 h4 h5 h6 h7
 rfl
theorem uS {a b:Mod}(h:a.bare=b.bare):gI a b:=by
 unfold Mod.bare at h
 injection h with h1 h2 h3 h4 h5 h6 h7
 exact⟨h1,h2,h3,h4,h5,h6,h7⟩
structure kI (W:World)(base:Nat)(v:Value)(l:List Plc):Prop where
 row:aP W base v l
 each:∀x∈l,x.m.own W base
structure jS (W:World)(base:Nat)(k:Krn)(A:Option Addr)(l:List Plc)(c:Nat):Prop where
 ex:ExpOwn W base (.slice k.eA k.ex.length k.eC) k.ex
 mods:kI W base (.slice A l.length c) l
theorem kI.kp {ts:List TypeId}{W W':World}{base:Nat}{v:Value}{l:List Plc}(h:kI W base v l)(hk:Kp ts W W')(h0:83 ∉ ts)(h1:159 ∉ ts)(h2:173 ∉ ts)(h3:180 ∉ ts):kI W' base v l:=
 ⟨own_kp h.row hk h0,fun x hx=>(h.each x hx).kp hk h1 h2 h3⟩
theorem kI.below {W W':World}{base:Nat}{v:Value}{l:List Plc}(h:kI W base v l)(hb:Below W.heap.size W W'):kI W' base v l:=⟨aO h.row hb,fun x hx=>(h.each x hx).below hb⟩
theorem kI.le {W:World}{base base':Nat}{v:Value}{l:List Plc}(h:kI W base v l)(hb:base'<=base):kI W base' v l:=⟨RH h.row hb,fun x hx=>(h.each x hx).le hb⟩
theorem jS.below {W W':World}{base:Nat}{k:Krn}{A:Option Addr}{l:List Plc}{c:Nat}(h:jS W base k A l c)(hb:Below W.heap.size W W'):jS W' base k A l c:=⟨aO h.ex hb,h.mods.below hb⟩
theorem jS.kp {ts:List TypeId}{W W':World}{base:Nat}{k:Krn}{A:Option Addr}{l:List Plc}{c:Nat}(h:jS W base k A l c)(hk:Kp ts W W')(h0:83 ∉ ts)(h1:159 ∉ ts)(h2:173 ∉ ts)(h3:180 ∉ ts):jS W' base k A l c:=⟨own_kp h.ex hk h1,h.mods.kp hk h0 h1 h2 h3⟩
theorem kI.ok {W W':World}{base:Nat}{A A':Option Addr}{c n:Nat}{l l':List Plc}(h:kI W base (.slice A n c) l)(hn:n=l.length)(hs:l.map (fun x=>x.m.bare)=l'.map (fun x=>x.m.bare))(hk:aU W' A' l'):aU W A l:=by
 subst hn
 have hlen:l.length=l'.length:=by have:=congrArg List.length hs;simpa using this
 refine⟨Reads.of_own h.row,by rw[hlen];exact hk.len,fun x hx=>?_⟩
 obtain⟨i,hi,rfl⟩:=List.getElem_of_mem hx
 have e:(l.map (fun x=>x.m.bare))[i]'(by simpa using hi)=(l'.map (fun x=>x.m.bare))[i]'(by simp;omega):=by simp only[hs]
 simp only[List.getElem_map]at e
 exact(h.each _ hx).ok (uS e) (hk.each _ (GZ9 _))
theorem jS.okK {W W':World}{base:Nat}{k k':Krn}{A:Option Addr}{l:List Plc}{c:Nat}(h:jS W base k A l c)(hs:k.bare=k'.bare)(hk:k'.ok W'):k.ok W:=by
 unfold Krn.bare at hs
 injection hs with h1 h2 h3
 exact⟨⟨Reads.of_own h.ex,by rw[h3];exact hk.ex.2.1,by rw[h3];exact hk.ex.2.2⟩⟩
theorem Kp.of_below {ts:List TypeId}{W W':World}(hb:Below W.heap.size W W'):Kp ts W W':=fun i _ _ _ hi _=>(hb.block i (ZL hi)).trans hi
structure UX (w:World)(k:Krn)(b3 j:Nat)(l:List Plc)(W:World)(vE v:Value)(l':List Plc):Prop where
 heap:W.heap[b3]? =some (.cells #[.int .i64 k.major,.int .i64 k.minor,vE,v] 39 (0,0))
 ex:ExpOwn W w.heap.size vE k.ex
 row:aP W (b3+1) v l'
 each:∀x∈l',x.m.own W w.heap.size
 like:aD l'=aD (l.take j)
 bel:Below w.heap.size w W
 res:W.heap[w.heap.size+1]? =some (.cells #[.int .i64 0,.int .i64 0,.slice none 0 0,.slice none 0 0] 39 (0,0))
theorem QJ {w4 w5:World}{b3:Nat}{v0 v1 v2 v:Value}{t:TypeId}(h4:w4.heap[b3]? =some (.cells #[v0,v1,v2,v] t (0,0)))(hb5:Below w4.drew.heap.size w4.drew w5):
  b3<w5.heap.size/\w5.cell? ⟨b3,3,none⟩=some v/\(∀o,(w5.alloc o).cell? ⟨b3,3,none⟩=some v)/\Hid (∀o,(w5.alloc o).heap[b3]? =some (.cells #[v0,v1,v2,v] t (0,0))):=by
 have hl4:b3<w4.drew.heap.size:=(ZL h4)
 have h5:w5.heap[b3]? =some (.cells #[v0,v1,v2,v] t (0,0)):=(hb5.block b3 hl4).trans h4
 have hl5:=(ZL h5)
 have h6:∀o,(w5.alloc o).heap[b3]? =some (.cells #[v0,v1,v2,v] t (0,0)):=fun o=>(heap_alloc_old w5 o hl5).trans h5
 exact⟨hl5,heap_cell h5 3,fun o=>heap_cell (h6 o) 3,Hp h6⟩
theorem QN {w:World}{k:Krn}{b3 j:Nat}{l:List Plc}{wr w4 w5:World}{vE v:Value}{l':List Plc}(HI:UX w k b3 j l wr vE v l')(hb4:Below wr.heap.size wr w4)(hb5:Below w4.drew.heap.size w4.drew w5)(hl5:b3<w5.heap.size)(m':Mod)(z:Int):
  Hid (Kp [83,39] wr w5)/\Hid (∀o,aP (w5.alloc o) (b3+1) v l')/\
  Hid (Row Plc.cells 8 (w5.alloc (.cells #[.string m'.name,.int .i64 m'.major,.int .i64 m'.minor,.string m'.text,.slice m'.eA m'.ex.length m'.eC,.slice m'.iA m'.im.length m'.iC,.slice m'.pA m'.pa.length m'.pC,.int .i64 z] 83)) (some ⟨w5.heap.size,0,none⟩) [⟨m',z⟩])/\
  Hid (∀o,b3+1<=(w5.alloc o).heap.size)/\Hid (w5.heap[w.heap.size+1]? =some (.cells #[.int .i64 0,.int .i64 0,.slice none 0 0,.slice none 0 0] 39 (0,0))):=by
 have k1:Kp [83,39] wr w4:=Kp.of_below hb4
 have k2:Kp [83,39] w4.drew w5:=Kp.of_below hb5
 have r4:aP w4 (b3+1) v l':=aO HI.row hb4
 have r5:aP w5 (b3+1) v l':=aO (w:=w4.drew) r4 hb5
 have hr4:=(hb4.block (w.heap.size+1) (ZL HI.res)).trans HI.res
 have hr5:=(hb5.block (w.heap.size+1) (ZL hr4)).trans hr4
 exact⟨Hp (Kp.trans k1 k2),Hp fun o=>World.ownsRow.alloc r5 o,Hp (Ry (enc:=Plc.cells) (k:=8) (fun _=>rfl) (heap_alloc_new w5 _) rfl),Hp fun o=>GY1 hl5 (((GZ4 w5.heap.size w5).alloc (GZ3 _) o).size),Hp hr5⟩
theorem Q5 {w:World}{k:Krn}{b3 j:Nat}{l:List Plc}{wr w4 w5 w6:World}{vE v:Value}{l':List Plc}{m':Mod}{y:Plc}{A6:Option Addr}{c6:Nat}{o:Obj}(HI:UX w k b3 j l wr vE v l')(hb3:w.heap.size+3<=b3)(hb5:Below w.heap.size w w5)(HK5:Kp [83,39] wr w5)
  (hOA:∀o,aP (w5.alloc o) (b3+1) v l') (hl5:b3+1<=(w5.alloc o).heap.size) (hR5:w5.heap[w.heap.size+1]? =some (.cells #[.int .i64 0,.int .i64 0,.slice none 0 0,.slice none 0 0] 39 (0,0)))
  (h6:w6.heap[b3]? =some (.cells #[.int .i64 k.major,.int .i64 k.minor,vE,v] 39 (0,0))) (h6o':aP w6 (b3+1) (.slice A6 (l'++[(⟨m',y.first⟩:Plc)]).length c6) (l'++[⟨m',y.first⟩])) (hg6:(w5.alloc o).grownBy w6 v.ownBlock) (hb6:Below (b3+1) (w5.alloc o) w6)
  (hs5:gI m' y.m) (ho5:m'.own w5 w4.drew.heap.size) (hw4:w.heap.size<=w4.drew.heap.size) (htk:aD (l.take (j+1))=aD (l.take j)++[y.bare]):
  UX w k b3 (j+1) l (w6.setCell ⟨b3,3,none⟩ (.slice A6 (l'.length+1) c6)) vE (.slice A6 (l'.length+1) c6) (l'++[⟨m',y.first⟩]):=by
 have h6o:aP w6 (b3+1) (.slice A6 (l'.length+1) c6) (l'++[⟨m',y.first⟩]):=by rw[GZ8,List.length_singleton]at h6o';exact h6o'
 have _:=hl5
 have k0:Kp [83,39] w5 (w5.alloc o):=Kp.of_below ((GZ4 _ _).alloc (GZ3 _) o)
 have k1:Kp [83,39] (w5.alloc o) w6:=Kp.grown hg6 fun g hg=>by
  obtain⟨c,fz,h⟩:=own_kind (hOA o) g hg
  exact⟨c,_,fz,h,by simp⟩
 have k2:Kp [83,39] w6 (w6.setCell ⟨b3,3,none⟩ (.slice A6 (l'.length+1) c6)):=Kp.set h6 (by simp) _ _
 have kk:=(HK5.trans k0).trans (k1.trans k2)
 have kb:Below w.heap.size w (w6.setCell ⟨b3,3,none⟩ (.slice A6 (l'.length+1) c6)):=
  (hb5.trans (((GZ4 _ w5).alloc (GZ3 _) o).mono hb5.size)).trans (((hb6.mono (by omega)).trans ((GZ4 w.heap.size w6).setCell (p:=⟨b3,3,none⟩) (by simp;omega) _)))
 refine⟨heap_setCell_same w6 b3 3 _ _ _ h6,own_kp HI.ex kk (by decide),?_,fun x hx=>?_,?_,kb,?_⟩
 ·exact own_kp h6o (Kp.set (ts:=[39]) h6 (by simp) _ _) (by decide)
 ·rcases List.mem_append.1 hx with hx|hx
  ·exact(HI.each x hx).kp kk (by decide) (by decide) (by decide)
  ·rw[List.mem_singleton.1 hx]
   exact(ho5.kp (k0.trans (k1.trans k2)) (by decide) (by decide) (by decide)).le hw4
 ·rw[htk,aD,List.map_append,<-HI.like,List.map_singleton]
  congr 2
  show Plc.bare _=Plc.bare _
  unfold Plc.bare
  rw[iL hs5]
 ·have e1:w.heap.size+1≠b3:=by omega
  have r1:=(heap_alloc_old w5 o (ZL hR5)).trans hR5
  have r2:=(hb6.block (w.heap.size+1) (by omega)).trans r1
  exact((Only.set (B:=b3) (w:=w6) 3 _).block (w.heap.size+1) (ZL r2) e1).trans r2
theorem U8 (k:Krn)(A:Option Addr)(c:Nat)(l:List Plc)(w:World)(hk:k.ok w)(h:aU w A l)(hm:∀x∈l,aL x.m=0)(h8:l.length<=8)(hx8:k.ex.length<=1000000):
  Calls Tryz.prog 82 #[rgV k A l c] w fun e w'=>(∃k' A' l' c',e=.returned (rgV k' A' l' c')/\k'.bare=k.bare/\aD l'=aD l/\jS w' w.heap.size k' A' l' c')/\Below w.heap.size w w':=by
 obtain⟨w0,hw0⟩:=Nm (w.alloc (.cells #[.int .i64 k.major,.int .i64 k.minor,.slice k.eA k.ex.length k.eC,.slice A l.length c] 39))
 obtain⟨x0,hx0⟩:=Nm (w0.alloc (.cells #[.int .i64 0,.int .i64 0,.slice none 0 0,.slice none 0 0] 39))
 obtain⟨x1,hx1⟩:=Nm (x0.alloc (.cells #[.int .i64 k.major,.int .i64 k.minor,.slice k.eA k.ex.length k.eC] 24))
 have hz0:w0.heap.size=w.heap.size+1:=by rw[hw0];simp
 have hzx:x0.heap.size=w.heap.size+2:=by rw[hx0];simp;omega
 have hzy:x1.heap.size=w.heap.size+3:=by rw[hx1];simp;omega
 have h0:w0.heap[w.heap.size]? =some (.cells #[.int .i64 k.major,.int .i64 k.minor,.slice k.eA k.ex.length k.eC,.slice A l.length c] 39 (0,0)):=by rw[hw0];exact heap_alloc_new w _
 have hb0:Below w.heap.size w w0:=hw0▸ZB
 have hbx:Below w0.heap.size w0 x0:=hx0▸ZB
 have hby:Below x0.heap.size x0 x1:=hx1▸ZB
 have hR0:x0.heap[w.heap.size+1]? =some (.cells #[.int .i64 0,.int .i64 0,.slice none 0 0,.slice none 0 0] 39 (0,0)):=by rw[hx0,<-hz0];exact heap_alloc_new w0 _
 have hK1:x1.heap[w.heap.size+2]? =some (.cells #[.int .i64 k.major,.int .i64 k.minor,.slice k.eA k.ex.length k.eC] 24 (0,0)):=by rw[hx1,<-hzx];exact heap_alloc_new x0 _
 have HR1:=Hp ((hby.block (w.heap.size+1) (by omega)).trans hR0)
 have HB1:=Hp ((hb0.trans (hbx.mono hb0.size)).trans (hby.mono (GY1 hb0.size hbx.size)))
 have HG1:=Hp ((hby.block w.heap.size (by omega)).trans ((hbx.block w.heap.size (by omega)).trans h0))
 have HK1:=Hp hK1
 have HZ1:=Hp hzy
 have hG0:=(hbx.block w.heap.size (by omega)).trans h0
 have f0:=heap_cell hG0 0
 have f1:=heap_cell hG0 1
 have f2:=heap_cell hG0 2
 have e0:=heap_cell hK1 0
 have e1:=heap_cell hK1 1
 have e2:=heap_cell hK1 2
 simp only[GZ2,GZ0,GZ1]at f0 f1 f2 e0 e1 e2
 have HP:=Hp h
 have HM:=Hp hm
 have c1:=Hp (fun W(hb:Below w.heap.size w W)=>U6 k.eA k.eC k.ex W (hk.ex.1.below hb) hx8)
 have hw0':=hw0.symm
 have hx0':=hx0.symm
 have hx1':=hx1.symm
 clear hw0 hx0 hx1 h0 hb0 hbx hby hR0 hK1 hk h hm hG0
 go_enter Tryz.func82,Tryz.ntmps82
 go_wp2_with fail
 refine(c1.out _ HB1.out).mono ?_;rintro e w2 ⟨⟨A2,c2,rfl,ho2⟩,hb2⟩
 have HO2:=Hp ho2
 have HB2:=Hp (HB1.trans (hb2.mono HB1.size))
 have HS2:=Hp (show w.heap.size+3<=w2.heap.size by have:=hb2.size;have:=HZ1.out;omega)
 have HR2:=Hp ((hb2.block (w.heap.size+1) (ZL HR1)).trans HR1)
 have HG2:=Hp ((hb2.block w.heap.size (ZL HG1)).trans HG1)
 have hK2:=(hb2.block (w.heap.size+2) (ZL HK1.out)).trans HK1.out
 have HK2:=Hp hK2
 have k0:=heap_cell hK2 0
 have k1:=heap_cell hK2 1
 have k2:=heap_cell hK2 2
 have kf:=heap_free hK2 2
 have g3:=heap_cell HG2.out 3
 simp only[GZ2,GZ0,GZ1]at k0 k1 k2 g3
 clear ho2 hb2 hK2 c1 f0 f1 f2 e0 e1 e2
 obtain⟨w3,hw3⟩:∃w3,w3=(w2.setCell ⟨w.heap.size+2,2,none⟩ (.slice A2 k.ex.length c2)).alloc (.cells #[.int .i64 k.major,.int .i64 k.minor,.slice A2 k.ex.length c2,.slice none 0 0] 39):=⟨_,rfl⟩
 have hs3:Only (w.heap.size+2) w2 (w2.setCell ⟨w.heap.size+2,2,none⟩ (.slice A2 k.ex.length c2)):=Only.set 2 _
 have hsz:(w2.setCell ⟨w.heap.size+2,2,none⟩ (.slice A2 k.ex.length c2)).heap.size=w2.heap.size:=by simp
 have hbs:Below w2.heap.size (w2.setCell ⟨w.heap.size+2,2,none⟩ (.slice A2 k.ex.length c2)) w3:=by rw[hw3,<-hsz];exact ZB
 have h33:w3.heap[w2.heap.size]? =some (.cells #[.int .i64 k.major,.int .i64 k.minor,.slice A2 k.ex.length c2,.slice none 0 0] 39 (0,0)):=by rw[hw3,<-hsz];exact heap_alloc_new _ _
 have hz3:=HS2.out
 have hz1:=HZ1.out
 have ho3:ExpOwn w3 x1.heap.size (.slice A2 k.ex.length c2) k.ex:=own_same HO2.out fun g h1 h2=>(hbs.block g h2).trans (hs3.block g h2 (by omega))
 have hb3:Below w.heap.size w w3:=HB2.trans ((hs3.below (by omega)).mono (by omega) |>.trans (hbs.mono (by omega)))
 have hr3:=(hbs.block (w.heap.size+1) (by omega)).trans ((hs3.block (w.heap.size+1) (by omega) (by omega)).trans HR2.out)
 have hg3:=(hbs.block w.heap.size (by omega)).trans ((hs3.block w.heap.size (by omega) (by omega)).trans HG2.out)
 have HI0:=Hp (show UX w k w2.heap.size 0 l w3 (.slice A2 k.ex.length c2) (.slice none 0 0) [] from
  ⟨h33,RH ho3 (by omega),World.ownsRow_nil _ _ _ _,by simp,rfl,hb3,hr3⟩)
 have HG3:=Hp hg3
 have n3:∀o,((w2.setCell ⟨w.heap.size+2,2,none⟩ (.slice A2 k.ex.length c2)).alloc o).cell? ⟨w.heap.size,3,none⟩=some (.slice A l.length c):=fun o=>by
  have h1:=(hs3.block w.heap.size (by omega) (by omega)).trans HG2.out
  have h2:=(heap_alloc_old _ o (ZL h1)).trans h1
  exact heap_cell h2 3
 have HW3:=Hp hw3.symm
 clear hw3 hs3 hbs h33 hz3 ho3 hb3 hr3 hg3 g3
 have hs3':w3.heap.size=w2.heap.size+1:=by rw[<-HW3.out];simp
 have HS3:=Hp hs3'
 clear hs3' hsz
 go_wp2_with fail
 rw[HW3.out]
 go_loopw [18] (fun i wr=>∃(j:Nat)(v:Value)(l':List Plc),j<=l.length/\i=.int .i64 j/\UX w k w2.heap.size j l wr (.slice A2 k.ex.length c2) v l') (fun i _=>l.length -(intOf i).toNat)
 case atStart=>exact⟨0,_,_,by omega,rfl,HI0.out⟩
 case round=>
  obtain⟨j,v,l',hj,rfl,hI⟩:=hrel
  have HI:=Hp hI
  by_cases hlt:j<l.length
  ·have hlt':(j:Int)<l.length:=by omega
   obtain⟨ad,rfl,hab,p0,p1,p2,p3,p4,p5,p6,p7⟩:=RS HP.row hI.bel j hlt
   have hx:=HP.each l[j] (GZ9 _)
   have hmm:=HM.out l[j] (GZ9 _)
   have HTK:=Hp (show aD (l.take (j+1))=aD (l.take j)++[(l[j]'hlt).bare] by rw[List.take_succ_eq_append_getElem hlt,aD,List.map_append];rfl)
   obtain⟨y,hy⟩:=Nm (l[j]'hlt)
   simp only[<-hy]at p0 p1 p2 p3 p4 p5 p6 p7 hx hmm HTK
   have cO:=Hp (fun W(hb:Below w.heap.size w W)=>Ei y.m W (hx.below hb) (xQ hmm))
   obtain⟨w4,hw4⟩:=Nm (wr.alloc (.cells #[.string y.m.name,.int .i64 y.m.major,.int .i64 y.m.minor,.string y.m.text,.slice y.m.eA y.m.ex.length y.m.eC,.slice y.m.iA y.m.im.length y.m.iC,.slice y.m.pA y.m.pa.length y.m.pC,.int .i64 y.first] 83))
   obtain⟨d0,d1,d2,d3,d4,d5,d6,d7,hz4,hb4⟩:=zH hw4
   have hw4':=hw4.symm
   have hbl:=(ZL hI.heap)
   have h4:=(hb4.block w2.heap.size hbl).trans hI.heap
   have q3:=heap_cell h4 3
   have qf:=heap_free h4 3
   simp only[GZ2,GZ0,GZ1]at q3
   have H4:=Hp h4
   have HB4:=Hp (hI.bel.trans (hb4.mono hI.bel.size))
   have HB4':=Hp hb4
   have HZ4:=Hp hz4
   clear hw4 hb4 hz4 h4 hI hx hmm hy
   have HLN:=Hp (show l'.length<=8 by
    have:=congrArg List.length HI.like
    simp only[List.length_map,GY6]at this
    omega)
   have HLRX:=Hp (fun(x:Plc)=>show l'.length+([x]:List Plc).length<=1000000 by have:=HLN.out;simp only[List.length_singleton];omega)
   have HZ45:=Hp (show wr.heap.size<w4.heap.size by have:=HZ4.out;omega)
   go_wp2_with fail
   go_upto_region 7 with fail
   go_region_law (first
    |(refine Kc _ (by rfl) (.tmp 23) (.tmp 30) (by rfl) (w2.heap.size+1) v l' (by rfl) (HOA.out _) (some ⟨w5.heap.size,0,none⟩) 1 [⟨m',y.first⟩] (by rfl) HRA.out HLR.out (HBS.out _) ?_;intro v' w6 ho6 hb6 hg6;obtain⟨A6,c6,rfl⟩:=bG ho6;have h6:=(hb6.block w2.heap.size (Nat.lt_succ_self _)).trans (HJA.out _);have z3:=heap_cell h6 3;have zf:=heap_free h6 3;simp only[GZ2,GZ0,GZ1]at z3;have H6:=Hp h6;have HO6:=Hp ho6;have HG6:=Hp hg6;have HB6:=Hp hb6;clear h6 ho6 hb6 hg6)
    |(go_simp;go_at_call 125;(with_reducible refine(cO.out _ HB4.out.drew).mono ?_);rintro e w5 ⟨⟨m',rfl,hs5,ho5⟩,hb5⟩;obtain⟨hl5,q35,q3a,HJA⟩:=QJ H4.out hb5;obtain⟨HK5,HOA,HRA,HBS,HRS⟩:=QN HI.out HB4'.out hb5 hl5 m' y.first;have d75:=(hb5.cell (p:=⟨wr.heap.size,7,none⟩) HZ45.out).trans d7;have HB5:=Hp (HB4.out.drew.trans (hb5.mono HB4.out.size));have HS5:=Hp hs5;have HO5:=Hp ho5;have HLR:=Hp (HLRX.out ⟨m',y.first⟩);clear hl5 hs5 ho5 hb5))
   all_goals(
    go_wp2_with fail
    go_roundw
    case rel=>exact⟨j+1,_,_,by omega,by go_num,Q5 (w4:=w4) HI.out HS2.out HB5.out HK5.out HOA.out (HBS.out _) HRS.out H6.out HO6.out HG6.out HB6.out HS5.out HO5.out HB4.size HTK.out⟩
    case measure=>(simp[intOf];try omega))
  ·obtain rfl:j=l.length:=by omega
   have hbl:=hI.bel
   obtain⟨A',c',rfl⟩:=bG hI.row
   have z0:=heap_cell hI.heap 0
   have z1:=heap_cell hI.heap 1
   have z2:=heap_cell hI.heap 2
   have z3:=heap_cell hI.heap 3
   have r0:=heap_cell hI.res 0
   have r1:=heap_cell hI.res 1
   have r2:=heap_cell hI.res 2
   have r3:=heap_cell hI.res 3
   have q0:=heap_free hI.res 0
   have q1:=heap_free hI.res 1
   have q2:=heap_free hI.res 2
   have q3:=heap_free hI.res 3
   simp only[GZ2,GZ0,GZ1]at z0 z1 z2 z3 r0 r1 r2 r3
   clear hI hbl
   go_wp2_with fail
   obtain⟨hg,ho⟩:=gY HI.res (.int .i64 k.major) (.int .i64 k.minor) (.slice A2 k.ex.length c2) (.slice A' l'.length c')
   refine bodyPost_ret (results_cell_row rfl _ _ (w.heap.size+1) 39 _ (0,0) _ rfl hg Tryz.underlying39 rfl Tryz.RP) rfl ?_
   have hkp:=ho.kp HI.res (ts:=[39]) (by simp)
   have hs2:=HS2.out
   refine⟨⟨⟨k.major,k.minor,k.ex,A2,c2⟩,A',l',c',rfl,rfl,by rw[HI.like,List.take_length],⟨own_kp HI.ex hkp (by decide),⟨RH (own_kp HI.row hkp (by decide)) (by omega),fun x hx=>(HI.each x hx).kp hkp (by decide) (by decide) (by decide)⟩⟩⟩,HI.bel.trans ((ho.below (GY2 (ZL HI.res))).mono (by omega))⟩
end
section
open Go.RowKit Go.Lib
theorem gN (W:World){ops:Array Oper}{rest:List Oper}{o:Oper}{a:Act}{Q:Exit->Act->World->Prop}(hgd:o.guard=none)(s x:Operand)
  (ho:o.op=.call {callee:=.builtin .append,args:=#[s,x],argTypes:=#[37,37]}) (base:Nat) (v:Value) (l0:List Plc) (hs:a.eval s=v) (hown:aP W base v l0)
  (A:Option Addr) (c:Nat) (l1:List Plc) (hx:a.eval x=.slice A l1.length c) (hr:Row Plc.cells 8 W A l1) (hlen:l0.length+l1.length<=1000000) (hbase:base<=W.heap.size)
  (h:∀v' w',aP w' base v' (l0++l1)->Below base W w'->W.grownBy w' v.ownBlock->wpList Tryz.prog ops Q rest (a.put o.dst v') w'):wpList Tryz.prog ops Q (o::rest) a W:=
 wpList_plain hgd fun _ hK=>Ou W s x ho base v l0 hs hown A c l1 hx hr hlen hbase fun v' w' h1 h2 h3=>hK _ _ (h v' w' h1 h2 h3)
def fH (l:List Plc)(m:Mod)(first:Int):List Plc:=l.takeWhile (fun x=>decide (x.first<=first))++⟨m,first⟩::l.dropWhile (fun x=>decide (x.first<=first))
theorem JS {α:Type}{p:α->Bool}:∀{l:List α},l.all p=true->l.takeWhile p=l/\l.dropWhile p=[]
 | [],_=>⟨rfl,rfl⟩
 |x::l,h=>by
  rw[List.all_cons,Bool.and_eq_true]at h
  obtain⟨h1,h2⟩:=h
  obtain⟨i1,i2⟩:=JS h2
  rw[List.takeWhile_cons,List.dropWhile_cons,h1]
  exact⟨by simp[i1],by simp[i2]⟩
end
section
open Go.RowKit Go.Lib
theorem Ch (m:Mod):0<=aH m:=by unfold aH;omega
theorem DL :∀(l:List Plc)(j:Nat)(h:j<l.length)(a:Int),(l.flatMap Plc.cells).set (j*8+7) (.int .i64 a)=(l.set j ⟨l[j].m,a⟩).flatMap Plc.cells
 |x::l,0,_,a=>by
  show(x.cells++l.flatMap Plc.cells).set 7 (.int .i64 a)=(⟨x.m,a⟩:Plc).cells++l.flatMap Plc.cells
  rw[List.set_append_left _ _ (by show 7<(x.cells).length;exact Nat.lt_of_lt_of_eq (by decide:7<8) rfl)]
  rfl
 |x::l,j+1,h,a=>by
  show(x.cells++l.flatMap Plc.cells).set ((j+1)*8+7) (.int .i64 a)=x.cells++(l.set j ⟨(x::l)[j+1].m,a⟩).flatMap Plc.cells
  have hl:x.cells.length=8:=rfl
  rw[List.set_append_right _ _ (by rw[hl];omega),hl,show(j+1)*8+7 -8=j*8+7 by omega,DL l j (by simpa using h) a]
  rfl
theorem aP.at_ {w:World}{base:Nat}{A:Option Addr}{c j:Nat}{l:List Plc}(h:aP w base (.slice A l.length c) l)(hj:j<l.length):
  ∃g,A=some ⟨g,0,none⟩/\base<=g/\g<w.heap.size/\(∃cs,w.heap[g]? =some (.cells cs 83 (0,0)))/\(∃u,w.cell? ⟨g,j*8+7,none⟩=some u)/\w.frozen? ⟨g,j*8+7,none⟩=false/\
   ∀a,aP (w.setCell ⟨g,j*8+7,none⟩ (.int .i64 a)) base (.slice A l.length c) (l.set j ⟨l[j].m,a⟩):=by
 obtain⟨h1,h2⟩:=h
 rcases h2 with⟨_,h0⟩|⟨g,cap,cur,hv,hg,hb,hnc,hcm,hsz,htk⟩
 ·omega
 injection hv with ha hk hc
 subst ha
 have hlt:j*8+7<l.length*8:=by omega
 have hflen:(l.flatMap Plc.cells).length=l.length*8:=flat_length (enc:=Plc.cells) (k:=8) (fun _=>rfl) l
 have hcl:j*8+7<cur.size:=by
  have:=congrArg List.length htk
  rw[GY6,hflen]at this
  simp at this
  omega
 refine⟨g,rfl,hg,(ZL hb),⟨cur,hb⟩,⟨cur[j*8+7],by rw[heap_cell hb,Array.getElem?_eq_getElem hcl]⟩,heap_free hb _,fun a=>?_⟩
 refine⟨by rw[List.length_set,flat_length (enc:=Plc.cells) (k:=8) (fun _=>rfl),List.length_set],.inr ⟨g,cap,cur.setIfInBounds (j*8+7) (.int .i64 a),?_,hg,heap_setCell_same w g _ cur _ _ hb,?_,hcm,by simpa using hsz,?_⟩⟩
 ·rw[<-hc,List.length_set]
 ·simpa using hnc
 ·rw[Array.toList_setIfInBounds,List.take_set,List.length_set,htk,DL l j hj a]
theorem step_cons (a:Int)(x:Plc)(l:List Plc):Rj a (x::l)=if a<x.first then some (⟨x.m,a⟩::l)else(Rj (aR x) l).map (x:: ·):=rfl
theorem KS {l:List Plc}{j:Nat}{a:Int}(h:j<l.length)(hs:Rj 0 l=(Rj a (l.drop j)).map (l.take j++ ·)):
  (a<l[j].first->Rj 0 l=some (l.set j ⟨l[j].m,a⟩))/\(¬a<l[j].first->Rj 0 l=(Rj (aR l[j]) (l.drop (j+1))).map (l.take (j+1)++ ·)):=by
 rw[GY4 h,step_cons]at hs
 constructor
 ·intro hlt
  have hs':=hs
  rw[if_pos hlt]at hs'
  rw[hs',Option.map_some,List.set_eq_take_append_cons_drop,if_pos h]
 ·intro hlt
  have hs':=hs
  rw[if_neg hlt]at hs'
  rw[hs',Option.map_map]
  congr 1
  funext r
  show l.take j++(l[j]::r)=l.take (j+1)++r
  rw[List.take_succ_eq_append_getElem h,List.append_assoc];rfl
theorem Ip (bp base:Nat)(x0 x1:Int)(vE:Value)(A:Option Addr)(c:Nat)(l:List Plc)(w:World)(hb:w.heap[bp]? =some (.cells #[.int .i64 x0,.int .i64 x1,vE,.slice A l.length c] 182 (0,0)))
  (ho:aP w base (.slice A l.length c) l) (hbase:base<=w.heap.size) (hm:∀x∈l,x.m.text.size<=256) (hr:bW 0 l) (h8:l.length<=8):
  Calls Tryz.prog 122 #[.pointer (some ⟨bp,0,none⟩)] w fun e w'=>e=.returned (.bool (Rj 0 l).isSome)/\aP w' base (.slice A l.length c) ((Rj 0 l).getD l)/\Kp [83] w w'/\Below base w w':=by
 have HO:=Hp ho
 have HM:=Hp hm
 have p3:=heap_cell hb 3
 simp only[GZ2,GZ0,GZ1]at p3
 have HP:=Hp hb
 have hbl:=(ZL hb)
 have HROW:=Hp (show Row Plc.cells 8 w A l from Reads.of_own ho)
 have HR:=Hp (show∀x∈l,0<=x.first/\aR x<=16/\x.first<=16 from fun x hx=>by
  have:∀{r:List Plc}{a:Int},0<=a->bW a r->∀x∈r,0<=x.first/\aR x<=16/\x.first<=16:=by
   intro r
   induction r with
   |nil=>intro a _ _ x hx;cases hx
   |cons y r ih=>
    intro a ha ⟨g1,g2,g3,g4⟩ x hx
    have e:aR y=y.first+aH y.m:=rfl
    have hle:=g4.le
    rcases List.mem_cons.1 hx with rfl|hx
    ·exact⟨by omega,hle,by omega⟩
    ·exact ih (by omega) g4 x hx
  exact this (Int.le_refl _) hr x hx)
 have HB:=Hp hbase
 obtain⟨S,hS⟩:=Nm (Rj 0 l)
 have HS:=Hp hS
 rw[<-hS]
 clear hb ho hm hr hS hbase
 go_enter Tryz.func122,Tryz.ntmps122
 go_wp2_with fail
 go_loopw [3,12] (fun at_ i wr=>∃(j:Nat)(a:Int),j<=l.length/\i=.int .i64 j/\at_=.int .i64 a/\0<=a/\a<=16/\Rj 0 l=(Rj a (l.drop j)).map (l.take j++ ·)/\Below w.heap.size w wr) (fun _ i _=>l.length -(intOf i).toNat)
 case atStart=>exact⟨0,0,by omega,rfl,rfl,by omega,by omega,by simp,GZ4 _ _⟩
 case round=>
  obtain⟨j,a,hj,rfl,rfl,ha0,ha16,hs,hb⟩:=hrel
  have HBR:=Hp hb
  have HSJ:=Hp hs
  have q3:=(hb.cell (p:=⟨bp,3,none⟩) hbl).trans p3
  clear hs
  by_cases hlt:j<l.length
  ·have hlt':(j:Int)<l.length:=by omega
   obtain⟨g,hA,hg,hgl,⟨cs,hcs⟩,_,_,_⟩:=HO.at_ hlt
   obtain⟨ad,hA2,hab,f0,f1,f2,f3,f4,f5,f6,f7⟩:=RS HROW.out hb j hlt
   rw[hA]at hA2
   obtain rfl:=GY3 hA2
   have hown:=aO HO.out hb
   obtain⟨g',hA',_,_,_,_,hfr,hset⟩:=aP.at_ hown hlt
   rw[hA]at hA'
   obtain rfl:g=g':=by injection hA' with h;injection h
   have HSET:=Hp hset
   obtain⟨s1,s2⟩:=KS hlt HSJ.out
   have S1:=Hp s1
   have S2:=Hp s2
   have hmt:=HM.out l[j] (GZ9 _)
   obtain⟨r1,r2,r3⟩:=HR.out l[j] (GZ9 _)
   have hKP:=fun v=>Hp (show Kp [83] w (wr.setCell ⟨g,j*8+7,none⟩ v) from(show Kp [83] w wr from fun i cs t fr hi _=>(hb.block i (ZL hi)).trans hi).trans (Kp.set ((hb.block g hgl).trans hcs) (by simp) _ _))
   have hAD:∀(n:Nat),(⟨g,0,none⟩:Addr).add (j*8)=⟨g,j*8,none⟩:=fun _=>by
    by_cases h0:j=0
    ·subst h0;rfl
    ·rw[add_pos_ _ _ (by omega)];simp
   rw[hAD 0]at f0 f1 f2 f3 f4 f5 f6 f7
   have hAD':=hAD 0
   simp only at f0 f1 f2 f3 f4 f5 f6 f7
   subst hA
   obtain⟨y,hy⟩:=Nm (l[j]'hlt)
   simp only[<-hy]at S1 S2 f0 f1 f2 f3 f4 f5 f6 f7 hmt r1 r2 r3 HSET
   have cE:=Hp (fun W=>zR y W hmt r1 r3)
   clear hb hset s1 s2 hAD hy hcs hown
   by_cases hlf:a<y.first
   ·have hsome:=S1.out hlf
    have HSO:=Hp (show S=_ from HS.trans hsome)
    have HB2:=Hp (HBR.mono HB)
    clear hsome S1 S2 r1 r2 r3 hmt
    go_wp2_with fail
    go_ret
    rw[HSO.out]
    exact⟨rfl,HSET.out a,(hKP _).out,HB2.setCell (p:=⟨g,j*8+7,none⟩) hg _⟩
   ·have hnext:=Hp (S2.out hlf)
    have he0:0<=aR y:=by have:=Ch y.m;unfold aR;omega
    clear S1 S2
    go_wp2_with (go_at_call 91;(with_reducible refine(cE.out _).mono ?_);rintro e w5 ⟨rfl,hb5⟩;have HB5:=Hp (HBR.out.trans (hb5.mono HBR.out.size));clear hb5)
    go_roundw
    case rel=>exact⟨j+1,aR y,by omega,by go_num,rfl,he0,r2,hnext.out,HB5.out⟩
    case measure=>(simp[intOf];try omega)
  ·obtain rfl:j=l.length:=by omega
   have hnone:=Hp (show S=none from by rw[HS.out,HSJ.out,List.drop_eq_nil_of_le (GZ3 _)];rfl)
   clear hb
   go_wp2_with fail
   go_ret
   rw[hnone.out]
   exact⟨rfl,aO HO.out HBR.out,Kp.of_below HBR.out,HBR.mono HB.out⟩
end
section
open Go.RowKit Go.Lib
abbrev CJ (y:Plc):Array Value:=#[.string y.m.name,.int .i64 y.m.major,.int .i64 y.m.minor,.string y.m.text,.slice y.m.eA y.m.ex.length y.m.eC,.slice y.m.iA y.m.im.length y.m.iC,.slice y.m.pA y.m.pa.length y.m.pC,.int .i64 y.first]
theorem Cx {w:World}{vb:Nat}{y:Plc}{t:TypeId}(hv:w.heap[vb]? =some (.cells (CJ y) t (0,0))):∀j v,y.cells[j]? =some v->w.cell? ⟨vb,j,none⟩=some v:=
 mH (F:=y.cells) (k:=8) hv rfl
theorem Ga (y:Plc):∀v∈y.cells,v.oneCell'=true:=fun v hv=>pG [y] v (by simpa using hv)
theorem Bl (b j:Nat):(⟨b,0,none⟩:Addr).add j=⟨b,j,none⟩:=by rw[Addr.add_lit,Nat.zero_add]
theorem F8 (base g c i n vb:Nat)(l:List Plc)(y:Plc)(w:World)(cur:Array Value)(hg:w.heap[g]? =some (.cells cur 83 (0,0)))(_hsz:cur.size=c*8)(hct:cur.toList.take (l.length*8)=l.flatMap Plc.cells)
  (hbase:base<=w.heap.size) (hn:n=l.length) (hnc:n<=c) (hi:i<n) (h8:n<=1000) (hroom:c<n+1) (hv:w.heap[vb]? =some (.cells (CJ y) 83 (0,0))):
  Calls Tryz.prog 271 #[.slice (some ⟨g,0,none⟩) n c,.int .i64 i,.slice (some ⟨vb,0,none⟩) 1 1] w fun e w'=>
   (∃A' c',e=.returned (.slice A' (n+1) c')/\aP w' base (.slice A' (n+1) c') (l.take i++y::l.drop i))/\Below w.heap.size w w':=by
 obtain⟨i0,hi0,hz0,hzs,hzb⟩:=info_parts Tryz.vH
 have hcn:c=n:=by omega
 have hgw:=(ZL hg)
 have hvw:=(ZL hv)
 obtain⟨F,hF⟩:=Nm (l.flatMap Plc.cells)
 have hFl:F.length=n*8:=by rw[hF,hn];exact mK l
 rw[<-hF]at hct
 have hFc:∀j v,F[j]? =some v->w.cell? ⟨g,j,none⟩=some v:=mH hg hct
 have hF1:∀v∈F,v.oneCell'=true:=by rw[hF];exact pG l
 have hold:(Builtin.firstCells i0.size i (.slice (some ⟨g,0,none⟩) i c)).run Tryz.prog w.drew=.ok (F.take (i*8)).toArray w.drew:=by
  rw[hzs]
  exact run_firstCells_some w.drew 8 i ⟨g,0,none⟩ i c (F.take (i*8)) (by rw[GY6];omega) (fun j v hj=>by
   rw[Bl]
   rw[List.getElem?_take]at hj
   split at hj
   ·exact hFc j v hj
   ·cases hj)
 have hrz:∀ty,(Builtin.append_ #[37,3] ty #[.slice (some ⟨g,0,none⟩) i c,.int .i64 ((n:Int)+1 -(i:Int))]).run Tryz.prog w=
   .ok (.slice (some ⟨w.heap.size,0,none⟩) (n+1) (grownCap w (n+1) c 83)) (w.drew.alloc (.cells ((F.take (i*8)).toArray++Builtin.zeroCells kN.cells (n+1 -i)++Builtin.zeroCells kN.cells (grownCap w (n+1) c 83 -(n+1))) 83)):=fun ty=>by
  have h:=Lib.run_append_grow_zeros w 37 3 ty 83 i0 kN .i64 .i64 Tryz.underlying37 Tryz.underlying3 hi0 hz0 (some ⟨g,0,none⟩) i c (F.take (i*8)) hold (n+1 -i) (by omega) (by omega) (by omega) (by omega) (by rw[hzb];omega) (by rw[hzb,show i+(n+1 -i)=n+1 by omega];exact growslice_fits hroom (by omega))
  rw[show i+(n+1 -i)=n+1 by omega,show((n+1 -i:Nat):Int)=(n:Int)+1 -(i:Int) by omega]at h
  exact h
 obtain⟨G,hG⟩:=Nm (grownCap w (n+1) c 83)
 have hGn:n+1<=G:=by rw[hG];exact grownCap_ge w _ _ _
 have hGm:G<=maxLen:=by rw[hG];exact grownCap_le_maxLen w (n+1) c 83 (by unfold maxLen;omega)
 obtain⟨ROW,hROW⟩:∃ROW:Array Value,ROW=(F.take (i*8)).toArray++Builtin.zeroCells kN.cells (n+1 -i)++Builtin.zeroCells kN.cells (G -(n+1)):=⟨_,rfl⟩
 rw[<-hG]at hrz
 rw[<-hROW]at hrz
 have hRl:ROW.size=G*8:=by
  rw[hROW]
  simp[Builtin.zeroCells,Value.cells,hFl]
  omega
 have hRt:ROW.toList.take (i*8)=F.take (i*8):=by
  rw[hROW]
  simp only[Array.toList_append,List.append_assoc]
  rw[List.take_append_of_le_length (by simp[hFl];omega),List.take_of_length_le (by simp;omega)]
 obtain⟨W1,hW1⟩:=Nm (w.drew.alloc (.cells ROW 83))
 rw[<-hW1]at hrz
 have hg1:W1.heap[w.heap.size]? =some (.cells ROW 83 (0,0)):=by rw[hW1];exact heap_alloc_new w.drew _
 have hb1:Below w.heap.size w W1:=by rw[hW1];exact(GZ4 _ w).drew.alloc (GZ3 _) _
 have hv1:W1.heap[vb]? =some (.cells (CJ y) 83 (0,0)):=(hb1.block vb hvw).trans hv
 have hYl:y.cells.length=8:=rfl
 have hcpA:∀ty dc,(Builtin.copy_ #[37,37] ty #[.slice (some ⟨w.heap.size,i*8,none⟩) (n+1 -i) dc,.slice (some ⟨vb,0,none⟩) 1 1]).run Tryz.prog W1=.ok (goInt 1) (W1.setRow w.heap.size (spl ROW (i*8) y.cells)):=fun ty dc=>
  TU W1 _ _ ty 83 w.heap.size (i*8) (n+1 -i) dc ⟨vb,0,none⟩ 1 1 8 1 ROW 83 y.cells Tryz.underlying37 Tryz.T9 hg1 (by simp only[Nat.min_def];split<;>omega) rfl
   (fun j v hj=>by rw[Bl];exact Cx hv1 j v hj) (by rw[hYl,hRl];omega) (Ga y)
 obtain⟨W2,hW2⟩:=Nm (W1.setRow w.heap.size (spl ROW (i*8) y.cells))
 rw[<-hW2]at hcpA
 have hg2:W2.heap[w.heap.size]? =some (.cells (spl ROW (i*8) y.cells) 83 (0,0)):=by rw[hW2];exact setRow_heap W1 _ _ _ _ _ hg1
 have ho2:Only w.heap.size W1 W2:=hW2▸Only.row _
 have hb2:Below w.heap.size w W2:=hb1.trans (ho2.below (GY2 (ZL hg1)))
 have hF2:∀j v,F[j]? =some v->W2.drew.cell? ⟨g,j,none⟩=some v:=fun j v hj=>(World.cell?_of_block (w:=w) (w':=W2.drew) (hb2.block g hgw)).trans (hFc j v hj)
 have hdl:(F.drop (i*8)).length=(n -i)*8:=by rw[List.length_drop,hFl];omega
 have hsp:(spl ROW (i*8) y.cells).size=G*8:=by
  rw[<-hRl]
  exact oK (by rw[hRl,hYl];omega)
 have hcpB:∀ty dc sc,(Builtin.copy_ #[37,37] ty #[.slice (some ⟨w.heap.size,(i+1)*8,none⟩) (n+1 -(i+1)) dc,.slice (some ⟨g,i*8,none⟩) (n -i) sc]).run Tryz.prog W2.drew=.ok (goInt ((n -i:Nat):Int)) (W2.drew.setRow w.heap.size (spl (spl ROW (i*8) y.cells) ((i+1)*8) (F.drop (i*8)))):=fun ty dc sc=>
  TU W2.drew _ _ ty 83 w.heap.size ((i+1)*8) (n+1 -(i+1)) dc ⟨g,i*8,none⟩ (n -i) sc 8 (n -i) (spl ROW (i*8) y.cells) 83 (F.drop (i*8)) Tryz.underlying37 Tryz.T9 hg2 (by simp only[Nat.min_def];split<;>omega) hdl
   (fun j v hj=>by rw[Addr.add_lit];exact hF2 _ v (by rwa [List.getElem?_drop]at hj)) (by rw[hdl,hsp];omega) (fun v hv=>hF1 v (List.mem_of_mem_drop hv))
 obtain⟨W3,hW3⟩:=Nm (W2.drew.setRow w.heap.size (spl (spl ROW (i*8) y.cells) ((i+1)*8) (F.drop (i*8))))
 rw[<-hW3]at hcpB
 have hg3:W3.heap[w.heap.size]? =some (.cells (spl (spl ROW (i*8) y.cells) ((i+1)*8) (F.drop (i*8))) 83 (0,0)):=by rw[hW3];exact setRow_heap W2.drew _ _ _ _ _ hg2
 have ho3:Only w.heap.size W2.drew W3:=hW3▸Only.row _
 have hb3:Below w.heap.size w W3:=hb2.drew.trans (ho3.below (GY2 (ZL hg2)))
 have hlen:(l.take i++y::l.drop i).length=n+1:=by rw[GZ8,GY8,GY6,List.length_drop,<-hn];omega
 have HO:=Hp (show aP W3 base (.slice (some ⟨w.heap.size,0,none⟩) (n+1) G) (l.take i++y::l.drop i) from
  oZ hbase hg3 hlen.symm (by omega) hGm (by
   rw[oK (by rw[hsp,hdl];omega),hsp]) (by
   rw[hlen]
   have:=PR (R:=ROW.toList) (F:=F) (Y:=y.cells) (p:=i*8) (by omega) hRt (by rw[hFl,hYl,Array.length_toList,hRl];omega)
   rw[hFl,hYl,show i*8+8=(i+1)*8 by omega,show n*8+8=(n+1)*8 by omega]at this
   refine this.trans ?_
   rw[hF,vJ,Ua,List.flatMap_append,List.flatMap_cons,List.append_assoc]))
 have HB:=Hp hb3
 have HZ:=Hp hrz
 have HA:=Hp hcpA
 have HC:=Hp hcpB
 have hz2:¬((i:Int)=(n:Int)):=by omega
 have hz3:(c:Int)<(n:Int)+1:=by omega
 have hw1:IntKind.i64.wrap ((i:Int)+1)=(i:Int)+1:=by rw[IntKind.wrap_i64];omega
 have hw2:IntKind.i64.wrap ((n:Int)+1)=(n:Int)+1:=by rw[IntKind.wrap_i64];omega
 have hb1':(0:Int)<=(i:Int)+1:=by omega
 have hin:i<=n:=by omega
 have htn:((i:Int)+1).toNat=i+1:=by omega
 have hb3':(i:Int)<=(n:Int):=by omega
 have hGi:¬(G=i):=by omega
 have hGim:¬(G=i+1):=by omega
 have hci:¬(c=i):=by omega
 have hic:i<=c:=by omega
 have hG63:G<=9223372036854775807:=by unfold maxLen at hGm;omega
 have hw3:IntKind.i64.wrap ((n:Int)+1 -(i:Int))=(n:Int)+1 -(i:Int):=by rw[IntKind.wrap_i64];omega
 clear hg _hsz hct hbase hn hnc hroom hv hi0 hz0 hzs hzb hcn hgw hvw hF hFl hFc hF1 hold hrz hROW hRl hRt hW1 hg1 hb1 hv1 hYl hcpA hW2 hg2 ho2 hb2 hF2 hdl hsp hcpB hW3 hg3 ho3 hb3 hlen hG hGm
 go_enter Tryz.func271,Tryz.ntmps271
 have hcA:=HA.out
 go_wp2_with (at_builtin;refine Lib.wpList_append_run _ rfl _ _ _ _ rfl _ _ rfl rfl _ _ (HZ.out _) ?_)
 go_region_law (refine step_copy_runI rfl _ _ 37 37 rfl (.slice (some ⟨w.heap.size,(i+1)*8,none⟩) (n+1 -(i+1)) (G -(i+1))) (.slice (some ⟨g,i*8,none⟩) (n -i) (c -i)) (by simp[Act.eval,Act.put]) (by simp[Act.eval,Act.put]) (HC.out _ _ _) ?_)
 go_wp2_with fail
 go_ret
 exact⟨⟨_,_,rfl,HO.out⟩,HB.out⟩
theorem Hg {w:World}{b:Nat}{cs:Array Value}{t:TypeId}{fr:Nat×Nat}(h:w.heap[b]? =some (.cells cs t fr)):w.shape? b=some (t,cs.size):=by simp[World.shape?,h]
theorem Ju {w:World}{b:Nat}{cs:Array Value}{t:TypeId}(h:w.heap[b]? =some (.cells cs t (0,0)))(o:Nat):w.frozen? ⟨b,o,none⟩=false:=by simp[World.frozen?,h]
theorem Ef (base g c i n vb:Nat)(l:List Plc)(y:Plc)(w:World)(cur:Array Value)(hg:w.heap[g]? =some (.cells cur 83 (0,0)))(hsz:cur.size=c*8)(hct:cur.toList.take (l.length*8)=l.flatMap Plc.cells)
  (hbg:base<=g) (hn:n=l.length) (hi:i<n) (h8:n<=1000) (hroom:n+1<=c) (hcm:c<=maxLen) (hv:w.heap[vb]? =some (.cells (CJ y) 83 (0,0))) (hne:vb≠g):
  Calls Tryz.prog 271 #[.slice (some ⟨g,0,none⟩) n c,.int .i64 i,.slice (some ⟨vb,0,none⟩) 1 1] w fun e w'=>
   e=.returned (.slice (some ⟨g,0,none⟩) (n+1) c)/\aP w' base (.slice (some ⟨g,0,none⟩) (n+1) c) (l.take i++y::l.drop i)/\Only g w w':=by
 have hgw:=(ZL hg)
 have hvw:=(ZL hv)
 obtain⟨F,hF⟩:=Nm (l.flatMap Plc.cells)
 have hFl:F.length=n*8:=by rw[hF,hn];exact mK l
 rw[<-hF]at hct
 have hF1:∀v∈F,v.oneCell'=true:=by rw[hF];exact pG l
 have hYl:y.cells.length=8:=rfl
 have hov:∀lb cb,(callFunc 288 #[.slice (some ⟨vb,0,none⟩) 1 1,.slice (some ⟨g,(i+1)*8,none⟩) lb cb]).run Tryz.prog w=.ok (.value (.bool false)) w:=fun lb cb=>by
  rw[run_callFunc_extern Tryz.func288 (by kernel_rfl) (by kernel_rfl) (by kernel_rfl) (e:=Extern.SlicesOverlaps.overlaps #[37,37] #[4]) (by kernel_rfl),
   Lib.run_overlaps_apart w 37 4 83 Tryz.underlying37 8 (fun w=>by kernel_rfl) ⟨vb,0,none⟩ ⟨g,(i+1)*8,none⟩ 1 1 lb cb hne 83 83 8 cur.size (Hg hv) (Hg hg) (by rw[hsz];omega) (Ju hv _) (Ju hv _)]
  rfl
 have hdl:(F.drop (i*8)).length=(n -i)*8:=by rw[List.length_drop,hFl];omega
 have hFd:∀j v,F[j]? =some v->w.drew.cell? ⟨g,j,none⟩=some v:=mH (w:=w.drew) hg hct
 have hcpA:∀ty dc sc,(Builtin.copy_ #[37,37] ty #[.slice (some ⟨g,(i+1)*8,none⟩) (n+1 -(i+1)) dc,.slice (some ⟨g,i*8,none⟩) (n+1 -i) sc]).run Tryz.prog w.drew=.ok (goInt ((n -i:Nat):Int)) (w.drew.setRow g (spl cur ((i+1)*8) (F.drop (i*8)))):=fun ty dc sc=>
  TU w.drew _ _ ty 83 g ((i+1)*8) (n+1 -(i+1)) dc ⟨g,i*8,none⟩ (n+1 -i) sc 8 (n -i) cur 83 (F.drop (i*8)) Tryz.underlying37 Tryz.T9 hg (by simp only[Nat.min_def];split<;>omega) hdl
   (fun j v hj=>by rw[Addr.add_lit];exact hFd _ v (by rwa [List.getElem?_drop]at hj)) (by rw[hdl,hsz];omega) (fun v hv=>hF1 v (List.mem_of_mem_drop hv))
 obtain⟨W1,hW1⟩:=Nm (w.drew.setRow g (spl cur ((i+1)*8) (F.drop (i*8))))
 rw[<-hW1]at hcpA
 have hg1:W1.heap[g]? =some (.cells (spl cur ((i+1)*8) (F.drop (i*8))) 83 (0,0)):=by rw[hW1];exact setRow_heap w.drew _ _ _ _ _ hg
 have ho1:Only g w W1:=hW1▸(show Only g w (w.drew.setRow g _) from⟨rfl,rfl,rfl,(Only.row (w:=w) (g:=g) (spl cur ((i+1)*8) (F.drop (i*8)))).size,(Only.row (w:=w) (g:=g) (spl cur ((i+1)*8) (F.drop (i*8)))).block⟩)
 have hv1:W1.heap[vb]? =some (.cells (CJ y) 83 (0,0)):=(ho1.block vb hvw hne).trans hv
 have hsp:(spl cur ((i+1)*8) (F.drop (i*8))).size=c*8:=by
  rw[<-hsz]
  exact oK (by rw[hdl,hsz];omega)
 have hcpB:∀ty dc,(Builtin.copy_ #[37,37] ty #[.slice (some ⟨g,i*8,none⟩) (n+1 -i) dc,.slice (some ⟨vb,0,none⟩) 1 1]).run Tryz.prog W1=.ok (goInt 1) (W1.setRow g (spl (spl cur ((i+1)*8) (F.drop (i*8))) (i*8) y.cells)):=fun ty dc=>
  TU W1 _ _ ty 83 g (i*8) (n+1 -i) dc ⟨vb,0,none⟩ 1 1 8 1 (spl cur ((i+1)*8) (F.drop (i*8))) 83 y.cells Tryz.underlying37 Tryz.T9 hg1 (by simp only[Nat.min_def];split<;>omega) rfl
   (fun j v hj=>by rw[Bl];exact Cx hv1 j v hj) (by rw[hYl,hsp];omega) (Ga y)
 obtain⟨W2,hW2⟩:=Nm (W1.setRow g (spl (spl cur ((i+1)*8) (F.drop (i*8))) (i*8) y.cells))
 rw[<-hW2]at hcpB
 have hg2:W2.heap[g]? =some (.cells (spl (spl cur ((i+1)*8) (F.drop (i*8))) (i*8) y.cells) 83 (0,0)):=by rw[hW2];exact setRow_heap W1 _ _ _ _ _ hg1
 have ho2:Only g w W2:=ho1.trans (hW2▸Only.row _)
 have hlen:(l.take i++y::l.drop i).length=n+1:=by rw[GZ8,GY8,GY6,List.length_drop,<-hn];omega
 have HO:=Hp (show aP W2 base (.slice (some ⟨g,0,none⟩) (n+1) c) (l.take i++y::l.drop i) from
  oZ hbg hg2 hlen.symm (by omega) hcm (by rw[oK (by rw[hsp,hYl];omega),hsp]) (by
   rw[hlen]
   have:=NH (L:=cur.toList) (F:=F) (Y:=y.cells) (p:=i*8) (by omega) (by rw[hFl,hn];exact hct) (by rw[hFl,hYl,Array.length_toList,hsz];omega)
   rw[hFl,hYl,show i*8+8=(i+1)*8 by omega,show n*8+8=(n+1)*8 by omega]at this
   refine this.trans ?_
   rw[hF,vJ,Ua,List.flatMap_append,List.flatMap_cons,List.append_assoc]))
 have HB:=Hp ho2
 have HA:=Hp hcpA
 have HC:=Hp hcpB
 have hz2:¬((i:Int)=(n:Int)):=by omega
 have hz3:¬((c:Int)<(n:Int)+1):=by omega
 have hw1:IntKind.i64.wrap ((i:Int)+1)=(i:Int)+1:=by rw[IntKind.wrap_i64];omega
 have hw2:IntKind.i64.wrap ((n:Int)+1)=(n:Int)+1:=by rw[IntKind.wrap_i64];omega
 have hb1':(0:Int)<=(i:Int)+1:=by omega
 have hin:i<=n:=by omega
 have htn:((i:Int)+1).toNat=i+1:=by omega
 have hb2:¬(c=i+1):=by omega
 have hb3':(i:Int)<=(n:Int)+1:=by omega
 have hb4:¬(c=i):=by omega
 have hG63:c<=9223372036854775807:=by unfold maxLen at hcm;omega
 clear hg hsz hct hbg hn hv hne hgw hvw hF hFl hF1 hYl hdl hFd hcpA hW1 hg1 ho1 hv1 hsp hcpB hW2 hg2 ho2 hlen hcm
 have hcB:=HC.out
 go_enter Tryz.func271,Tryz.ntmps271
 go_wp2_with (simp only[hov])
 go_region_law (refine step_copy_runI rfl _ _ 37 37 rfl (.slice (some ⟨g,(i+1)*8,none⟩) (n+1 -(i+1)) (c -(i+1))) (.slice (some ⟨g,i*8,none⟩) (n+1 -i) (c -i)) (by simp[Act.eval,Act.put]) (by simp[Act.eval,Act.put]) (HA.out _ _ _) ?_)
 go_wp2_with fail
 go_ret
 exact⟨rfl,HO.out,HB.out⟩
theorem NL {w:World}{vb:Nat}{y:Plc}(hv:w.heap[vb]? =some (.cells (CJ y) 83 (0,0))):Row Plc.cells 8 w (some ⟨vb,0,none⟩) [y]:=Ry (enc:=Plc.cells) (k:=8) (fun _=>rfl) hv rfl
theorem JH (base:Nat)(A:Option Addr)(c n vb:Nat)(l:List Plc)(y:Plc)(w:World)(ho:aP w base (.slice A n c) l)(hn:n=l.length)(hbase:base<=w.heap.size)(h8:n<=1000)
  (hv:w.heap[vb]? =some (.cells (CJ y) 83 (0,0))):
  Calls Tryz.prog 271 #[.slice A n c,.int .i64 n,.slice (some ⟨vb,0,none⟩) 1 1] w fun e w'=>
   (∃A' c',e=.returned (.slice A' (n+1) c')/\aP w' base (.slice A' (n+1) c') (l++[y]))/\Below base w w'/\w.grownBy w' (Value.slice A n c).ownBlock:=by
 have HO:=Hp ho
 have HR:=Hp (NL hv)
 have HL:=Hp (show l.length+([y]:List Plc).length<=1000000 by simp only[List.length_singleton];omega)
 have HB:=Hp hbase
 have hw1:IntKind.i64.wrap ((n:Int)+1)=(n:Int)+1:=by rw[IntKind.wrap_i64];omega
 have HN:=Hp hn
 rcases ho.2 with⟨e1,e2⟩|⟨g,cap,cur,e1,e2,e3,e4,e5,e6,e7⟩
 ·injection e1 with e1 _ e3
  subst e1 e3
  have hn0:n=0:=by omega
  subst hn0
  have hl0:l=[]:=GY9 hn.symm
  subst hl0
  clear ho hv hn hbase e2
  go_enter Tryz.func271,Tryz.ntmps271
  go_wp2_with (at_builtin;refine gN _ rfl _ _ rfl base (.slice none 0 0) [] rfl HO.out (some ⟨vb,0,none⟩) 1 [y] rfl HR.out HL.out HB.out ?_;intro v' w3 ho3 hb3 hgr3;obtain⟨A3,c3,rfl⟩:=bG ho3;have HO3:=Hp ho3;have HB3:=Hp hb3;have HG3:=Hp hgr3;clear ho3 hb3 hgr3)
  go_ret
  exact⟨⟨A3,c3,rfl,HO3.out⟩,HB3.out,HG3.out⟩
 ·injection e1 with e1 _ e8
  subst e1
  have hnc:n<=c:=by subst e8;omega
  have hcm:c<=9223372036854775807:=by subst e8;unfold maxLen at e5;omega
  by_cases hcn:c=n
  ·subst hcn
   clear ho hv hn hbase e2 e3 e4 e5 e6 e7 e8
   go_enter Tryz.func271,Tryz.ntmps271
   go_wp2_with (at_builtin;refine gN _ rfl _ _ rfl base (.slice (some ⟨g,0,none⟩) c c) l rfl HO.out (some ⟨vb,0,none⟩) 1 [y] rfl HR.out HL.out HB.out ?_;intro v' w3 ho3 hb3 hgr3;obtain⟨A3,c3,rfl⟩:=bG ho3;have HO3:=Hp ho3;have HB3:=Hp hb3;have HG3:=Hp hgr3;clear ho3 hb3 hgr3)
   go_ret
   have hl:(l++[y]).length=c+1:=by rw[GZ8,List.length_singleton,<-HN.out]
   refine⟨⟨A3,c3,(by first|rfl|(rw[HN.out];rfl)),by have:=HO3.out;rwa [hl]at this⟩,HB3.out,HG3.out⟩
  ·clear ho hv hn hbase e2 e3 e4 e5 e6 e7 e8
   go_enter Tryz.func271,Tryz.ntmps271
   go_wp2_with (at_builtin;refine gN _ rfl _ _ rfl base (.slice (some ⟨g,0,none⟩) n c) l rfl HO.out (some ⟨vb,0,none⟩) 1 [y] rfl HR.out HL.out HB.out ?_;intro v' w3 ho3 hb3 hgr3;obtain⟨A3,c3,rfl⟩:=bG ho3;have HO3:=Hp ho3;have HB3:=Hp hb3;have HG3:=Hp hgr3;clear ho3 hb3 hgr3)
   go_ret
   have hl:(l++[y]).length=n+1:=by rw[GZ8,List.length_singleton,<-HN.out]
   refine⟨⟨A3,c3,(by first|rfl|(rw[HN.out];rfl)),by have:=HO3.out;rwa [hl]at this⟩,HB3.out,HG3.out⟩
theorem BH (base:Nat)(A:Option Addr)(c n i vb:Nat)(l:List Plc)(y:Plc)(w:World)(ho:aP w base (.slice A n c) l)(hn:n=l.length)(hi:i<=n)(hbase:base<=w.heap.size)(h8:n<=1000)
  (hv:w.heap[vb]? =some (.cells (CJ y) 83 (0,0))) (hne:∀a,A=some a->a.block≠vb):
  Calls Tryz.prog 271 #[.slice A n c,.int .i64 i,.slice (some ⟨vb,0,none⟩) 1 1] w fun e w'=>
   (∃A' c',e=.returned (.slice A' (n+1) c')/\aP w' base (.slice A' (n+1) c') (l.take i++y::l.drop i))/\Kp [83] w w'/\Below base w w':=by
 rcases Nat.lt_or_ge i n with hlt|hge
 ·obtain⟨g,hA,_⟩:=aP.at_ (l:=l) (by rw[hn]at ho;exact ho) (j:=i) (by omega)
  subst hA
  obtain⟨cur,hbg,hg,h1,h2,h3,h4⟩:=Cw ho hn
  rcases Nat.lt_or_ge c (n+1)with hc|hc
  ·refine(F8 base g c i n vb l y w cur hg h3 h4 hbase hn (by omega) hlt h8 hc hv).mono ?_
   rintro e w' ⟨h,hb⟩
   exact⟨h,Kp.of_below hb,hb.mono hbase⟩
  ·refine(Ef base g c i n vb l y w cur hg h3 h4 hbg hn hlt h8 hc h2 hv (fun e=>hne _ rfl e.symm)).mono ?_
   rintro e w' ⟨rfl,ho',hon⟩
   exact⟨⟨_,_,rfl,ho'⟩,hon.kp hg (by simp),(hon.below (GY2 (ZL hg))).mono hbg⟩
 ·obtain rfl:i=n:=by omega
  refine(JH base A c i vb l y w ho hn hbase h8 hv).mono ?_
  rintro e w' ⟨⟨A',c',rfl,ho'⟩,hb,hgr⟩
  refine⟨⟨A',c',rfl,?_⟩,Kp.grown hgr (fun g hg=>?_),hb⟩
  ·rw[hn,List.take_length,List.drop_length]
   rw[hn]at ho'
   exact ho'
  ·obtain⟨cs,fz,h⟩:=own_kind ho g hg
   exact⟨cs,_,fz,h,by simp⟩
end
end Go.Proofs.YtjiedaialianmaaGreat
