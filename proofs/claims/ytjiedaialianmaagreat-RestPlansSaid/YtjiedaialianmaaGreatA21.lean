import Derived.Test.YtjiedaialianmaaGreatA18
import Derived.Test.YtjiedaialianmaaGreatA20
set_option maxRecDepth 100000
set_option maxHeartbeats 8000000
namespace Go.Proofs.YtjiedaialianmaaGreat
section
open Go.RowKit Go.Lib
theorem Tryz.RP :(Tryz.prog.info? 39).map (·.size)=some 4:=by kernel_rfl
theorem iL {a b:Mod}(h:gI a b):a.bare=b.bare:=by
 obtain⟨B,D,C,t,H,E,y,J,I,G,F,A,z⟩:=a
 obtain⟨n,p,o,x,u,q,k,w,v,s,r,m,l⟩:=b
 obtain⟨j,i,g,f,e,d,c⟩:=h
 simp only at j i g f e d c
 subst j i g f e d c
 rfl
theorem uS {a b:Mod}(h:a.bare=b.bare):gI a b:=by
 unfold Mod.bare at h
 injection h with h1 h2 h3 h4 h5 h6 h7
 exact⟨h1,h2,h3,h4,h5,h6,h7⟩
structure kI (W:World)(base:Nat)(v:Value)(l:List Plc):Prop where
 row:aP W base v l
 each:∀x∈l,x.m.own W base
structure jS (W:World)(base:Nat)(k:Krn)(A:Option Addr)(l:List Plc)(c:Nat):Prop where
 ex:ExpOwn W base (.slice k.eA k.ex.length k.eC) k.ex
 mods:kI W base (.slice A l.length c) l
theorem kI.kp {ts:List TypeId}{W c:World}{a:Nat}{v:Value}{l:List Plc}(h:kI W a v l)(b:Kp ts W c)(i:83 ∉ ts)(g:159 ∉ ts)(f:173 ∉ ts)(e:180 ∉ ts):kI c a v l:=
 ⟨own_kp h.row b i,fun x d=>(h.each x d).kp b g f e⟩
theorem kI.below {W c:World}{a:Nat}{v:Value}{l:List Plc}(h:kI W a v l)(b:Below W.heap.size W c):kI c a v l:=⟨aO h.row b,fun x d=>(h.each x d).below b⟩
theorem kI.le {W:World}{b a:Nat}{v:Value}{l:List Plc}(h:kI W b v l)(c:a<=b):kI W a v l:=⟨RH h.row c,fun x d=>(h.each x d).le c⟩
theorem jS.below {W d:World}{a:Nat}{k:Krn}{A:Option Addr}{l:List Plc}{c:Nat}(h:jS W a k A l c)(b:Below W.heap.size W d):jS d a k A l c:=⟨aO h.ex b,h.mods.below b⟩
theorem jS.kp {ts:List TypeId}{W e:World}{a:Nat}{k:Krn}{A:Option Addr}{l:List Plc}{c:Nat}(h:jS W a k A l c)(b:Kp ts W e)(i:83 ∉ ts)(d:159 ∉ ts)(g:173 ∉ ts)(f:180 ∉ ts):jS e a k A l c:=⟨own_kp h.ex b d,h.mods.kp b i d g f⟩
theorem kI.ok {W p:World}{b:Nat}{A q:Option Addr}{c n:Nat}{l d:List Plc}(h:kI W b (.slice A n c) l)(k:n=l.length)(g:l.map (fun x=>x.m.bare)=d.map (fun x=>x.m.bare))(j:aU p q d):aU W A l:=by
 subst k
 have a:l.length=d.length:=by have:=congrArg List.length g;simpa using this
 refine⟨Reads.of_own h.row,by rw[a];exact j.len,fun x f=>?_⟩
 obtain⟨i,o,rfl⟩:=List.getElem_of_mem f
 have e:(l.map (fun x=>x.m.bare))[i]'(by simpa using o)=(d.map (fun x=>x.m.bare))[i]'(by simp;omega):=by simp only[g]
 simp only[List.getElem_map]at e
 exact(h.each _ f).ok (uS e) (j.each _ (GZ9 _))
theorem jS.okK {W f:World}{a:Nat}{k b:Krn}{A:Option Addr}{l:List Plc}{c:Nat}(h:jS W a k A l c)(d:k.bare=b.bare)(e:b.ok f):k.ok W:=by
 unfold Krn.bare at d
 injection d with h1 h2 h3
 exact⟨⟨Reads.of_own h.ex,by rw[h3];exact e.ex.2.1,by rw[h3];exact e.ex.2.2⟩⟩
theorem Kp.of_below {ts:List TypeId}{W b:World}(c:Below W.heap.size W b):Kp ts W b:=fun i _ _ _ a _=>(c.block i (ZL a)).trans a
structure UX (w:World)(k:Krn)(b3 j:Nat)(l:List Plc)(W:World)(vE v:Value)(l':List Plc):Prop where
 heap:W.heap[b3]? =some (.cells #[.int .i64 k.major,.int .i64 k.minor,vE,v] 39 (0,0))
 ex:ExpOwn W w.heap.size vE k.ex
 row:aP W (b3+1) v l'
 each:∀x∈l',x.m.own W w.heap.size
 like:aD l'=aD (l.take j)
 bel:Below w.heap.size w W
 res:W.heap[w.heap.size+1]? =some (.cells #[.int .i64 0,.int .i64 0,.slice none 0 0,.slice none 0 0] 39 (0,0))
theorem QJ {d b:World}{a:Nat}{g f e v:Value}{t:TypeId}(l:d.heap[a]? =some (.cells #[g,f,e,v] t (0,0)))(i:Below d.drew.heap.size d.drew b):
  a<b.heap.size/\b.cell? ⟨a,3,none⟩=some v/\(∀o,(b.alloc o).cell? ⟨a,3,none⟩=some v)/\Hid (∀o,(b.alloc o).heap[a]? =some (.cells #[g,f,e,v] t (0,0))):=by
 have h:a<d.drew.heap.size:=(ZL l)
 have j:b.heap[a]? =some (.cells #[g,f,e,v] t (0,0)):=(i.block a h).trans l
 have c:=(ZL j)
 have k:∀o,(b.alloc o).heap[a]? =some (.cells #[g,f,e,v] t (0,0)):=fun o=>(heap_alloc_old b o c).trans j
 exact⟨c,heap_cell j 3,fun o=>heap_cell (k o) 3,Hp k⟩
theorem QN {w:World}{k:Krn}{f j:Nat}{l:List Plc}{wr c b:World}{p v:Value}{h:List Plc}(n:UX w k f j l wr p v h)(e:Below wr.heap.size wr c)(d:Below c.drew.heap.size c.drew b)(m:f<b.heap.size)(a:Mod)(z:Int):
  Hid (Kp [83,39] wr b)/\Hid (∀o,aP (b.alloc o) (f+1) v h)/\
  Hid (Row Plc.cells 8 (b.alloc (.cells #[.string a.name,.int .i64 a.major,.int .i64 a.minor,.string a.text,.slice a.eA a.ex.length a.eC,.slice a.iA a.im.length a.iC,.slice a.pA a.pa.length a.pC,.int .i64 z] 83)) (some ⟨b.heap.size,0,none⟩) [⟨a,z⟩])/\
  Hid (∀o,f+1<=(b.alloc o).heap.size)/\Hid (b.heap[w.heap.size+1]? =some (.cells #[.int .i64 0,.int .i64 0,.slice none 0 0,.slice none 0 0] 39 (0,0))):=by
 have t:Kp [83,39] wr c:=Kp.of_below e
 have s:Kp [83,39] c.drew b:=Kp.of_below d
 have r:aP c (f+1) v h:=aO n.row e
 have q:aP b (f+1) v h:=aO (w:=c.drew) r d
 have g:=(e.block (w.heap.size+1) (ZL n.res)).trans n.res
 have i:=(d.block (w.heap.size+1) (ZL g)).trans g
 exact⟨Hp (Kp.trans t s),Hp fun o=>World.ownsRow.alloc q o,Hp (Ry (enc:=Plc.cells) (k:=8) (fun _=>rfl) (heap_alloc_new b _) rfl),Hp fun o=>GY1 m (((GZ4 b.heap.size b).alloc (GZ3 _) o).size),Hp i⟩
theorem Q5 {w:World}{k:Krn}{a j:Nat}{l:List Plc}{wr w4 d b:World}{z v:Value}{e:List Plc}{i:Mod}{y:Plc}{q:Option Addr}{n:Nat}{o:Obj}(L:UX w k a j l wr z v e)(U:w.heap.size+3<=a)(t:Below w.heap.size w d)(K:Kp [83,39] wr d)
  (H:∀o,aP (d.alloc o) (a+1) v e) (F:a+1<=(d.alloc o).heap.size) (u:d.heap[w.heap.size+1]? =some (.cells #[.int .i64 0,.int .i64 0,.slice none 0 0,.slice none 0 0] 39 (0,0)))
  (J:b.heap[a]? =some (.cells #[.int .i64 k.major,.int .i64 k.minor,z,v] 39 (0,0))) (f:aP b (a+1) (.slice q (e++[(⟨i,y.first⟩:Plc)]).length n) (e++[⟨i,y.first⟩])) (G:(d.alloc o).grownBy b v.ownBlock) (s:Below (a+1) (d.alloc o) b)
  (D:gI i y.m) (E:i.own d w4.drew.heap.size) (A:w.heap.size<=w4.drew.heap.size) (C:aD (l.take (j+1))=aD (l.take j)++[y.bare]):
  UX w k a (j+1) l (b.setCell ⟨a,3,none⟩ (.slice q (e.length+1) n)) z (.slice q (e.length+1) n) (e++[⟨i,y.first⟩]):=by
 have I:aP b (a+1) (.slice q (e.length+1) n) (e++[⟨i,y.first⟩]):=by rw[GZ8,List.length_singleton]at f;exact f
 have _:=F
 have Q:Kp [83,39] d (d.alloc o):=Kp.of_below ((GZ4 _ _).alloc (GZ3 _) o)
 have P:Kp [83,39] (d.alloc o) b:=Kp.grown G fun g T=>by
  obtain⟨c,V,h⟩:=own_kind (H o) g T
  exact⟨c,_,V,h,by simp⟩
 have O:Kp [83,39] b (b.setCell ⟨a,3,none⟩ (.slice q (e.length+1) n)):=Kp.set J (by simp) _ _
 have N:=(K.trans Q).trans (P.trans O)
 have S:Below w.heap.size w (b.setCell ⟨a,3,none⟩ (.slice q (e.length+1) n)):=
  (t.trans (((GZ4 _ d).alloc (GZ3 _) o).mono t.size)).trans (((s.mono (by omega)).trans ((GZ4 w.heap.size b).setCell (p:=⟨a,3,none⟩) (by simp;omega) _)))
 refine⟨heap_setCell_same b a 3 _ _ _ J,own_kp L.ex N (by decide),?_,fun x r=>?_,?_,S,?_⟩
 ·exact own_kp I (Kp.set (ts:=[39]) J (by simp) _ _) (by decide)
 ·rcases List.mem_append.1 r with r|r
  ·exact(L.each x r).kp N (by decide) (by decide) (by decide)
  ·rw[List.mem_singleton.1 r]
   exact(E.kp (Q.trans (P.trans O)) (by decide) (by decide) (by decide)).le A
 ·rw[C,aD,List.map_append,<-L.like,List.map_singleton]
  congr 2
  show Plc.bare _=Plc.bare _
  unfold Plc.bare
  rw[iL D]
 ·have W:w.heap.size+1≠a:=by omega
  have R:=(heap_alloc_old d o (ZL u)).trans u
  have M:=(s.block (w.heap.size+1) (by omega)).trans R
  exact((Only.set (B:=a) (w:=b) 3 _).block (w.heap.size+1) (ZL M) W).trans M
theorem U8 (k:Krn)(A:Option Addr)(c:Nat)(l:List Plc)(w:World)(hk:k.ok w)(h:aU w A l)(hm:∀x∈l,aL x.m=0)(h8:l.length<=8)(e3:k.ex.length<=1000000):
  Calls Tryz.prog 82 #[rgV k A l c] w fun e w'=>(∃k' A' s c',e=.returned (rgV k' A' s c')/\k'.bare=k.bare/\aD s=aD l/\jS w' w.heap.size k' A' s c')/\Below w.heap.size w w':=by
 obtain⟨Q,z⟩:=Nm (w.alloc (.cells #[.int .i64 k.major,.int .i64 k.minor,.slice k.eA k.ex.length k.eC,.slice A l.length c] 39))
 obtain⟨P,u⟩:=Nm (Q.alloc (.cells #[.int .i64 0,.int .i64 0,.slice none 0 0,.slice none 0 0] 39))
 obtain⟨x1,t⟩:=Nm (P.alloc (.cells #[.int .i64 k.major,.int .i64 k.minor,.slice k.eA k.ex.length k.eC] 24))
 have d9:Q.heap.size=w.heap.size+1:=by rw[z];simp
 have c9:P.heap.size=w.heap.size+2:=by rw[u];simp;omega
 have c8:x1.heap.size=w.heap.size+3:=by rw[t];simp;omega
 have h0:Q.heap[w.heap.size]? =some (.cells #[.int .i64 k.major,.int .i64 k.minor,.slice k.eA k.ex.length k.eC,.slice A l.length c] 39 (0,0)):=by rw[z];exact heap_alloc_new w _
 have K:Below w.heap.size w Q:=z▸ZB
 have B:Below Q.heap.size Q P:=u▸ZB
 have I:Below P.heap.size P x1:=t▸ZB
 have b2:P.heap[w.heap.size+1]? =some (.cells #[.int .i64 0,.int .i64 0,.slice none 0 0,.slice none 0 0] 39 (0,0)):=by rw[u,<-d9];exact heap_alloc_new Q _
 have E:x1.heap[w.heap.size+2]? =some (.cells #[.int .i64 k.major,.int .i64 k.minor,.slice k.eA k.ex.length k.eC] 24 (0,0)):=by rw[t,<-c9];exact heap_alloc_new P _
 have b8:=Hp ((I.block (w.heap.size+1) (by omega)).trans b2)
 have a1:=Hp ((K.trans (B.mono K.size)).trans (I.mono (GY1 K.size B.size)))
 have c4:=Hp ((I.block w.heap.size (by omega)).trans ((B.block w.heap.size (by omega)).trans h0))
 have c3:=Hp E
 have b5:=Hp c8
 have L:=(B.block w.heap.size (by omega)).trans h0
 have f0:=heap_cell L 0
 have f1:=heap_cell L 1
 have f2:=heap_cell L 2
 have e0:=heap_cell E 0
 have e1:=heap_cell E 1
 have e2:=heap_cell E 2
 simp only[GZ2,GZ0,GZ1]at f0 f1 f2 e0 e1 e2
 have HP:=Hp h
 have HM:=Hp hm
 have c1:=Hp (fun W(hb:Below w.heap.size w W)=>U6 k.eA k.eC k.ex W (hk.ex.1.below hb) e3)
 have g8:=z.symm
 have g6:=u.symm
 have g5:=t.symm
 clear z u t h0 K B I b2 E hk h hm L
 go_enter Tryz.func82,Tryz.ntmps82
 go_wp2_with fail
 refine(c1.out _ a1.out).mono ?_;rintro e b ⟨⟨r,q,rfl,a7⟩,f⟩
 have f4:=Hp a7
 have g4:=Hp (a1.trans (f.mono a1.size))
 have Z:=Hp (show w.heap.size+3<=b.heap.size by have:=f.size;have:=b5.out;omega)
 have e8:=Hp ((f.block (w.heap.size+1) (ZL b8)).trans b8)
 have a0:=Hp ((f.block w.heap.size (ZL c4)).trans c4)
 have n:=(f.block (w.heap.size+2) (ZL c3.out)).trans c3.out
 have i3:=Hp n
 have k0:=heap_cell n 0
 have k1:=heap_cell n 1
 have k2:=heap_cell n 2
 have kf:=heap_free n 2
 have g3:=heap_cell a0.out 3
 simp only[GZ2,GZ0,GZ1]at k0 k1 k2 g3
 clear a7 f n c1 f0 f1 f2 e0 e1 e2
 obtain⟨N,G⟩:∃N,N=(b.setCell ⟨w.heap.size+2,2,none⟩ (.slice r k.ex.length q)).alloc (.cells #[.int .i64 k.major,.int .i64 k.minor,.slice r k.ex.length q,.slice none 0 0] 39):=⟨_,rfl⟩
 have d:Only (w.heap.size+2) b (b.setCell ⟨w.heap.size+2,2,none⟩ (.slice r k.ex.length q)):=Only.set 2 _
 have S:(b.setCell ⟨w.heap.size+2,2,none⟩ (.slice r k.ex.length q)).heap.size=b.heap.size:=by simp
 have C:Below b.heap.size (b.setCell ⟨w.heap.size+2,2,none⟩ (.slice r k.ex.length q)) N:=by rw[G,<-S];exact ZB
 have b3:N.heap[b.heap.size]? =some (.cells #[.int .i64 k.major,.int .i64 k.minor,.slice r k.ex.length q,.slice none 0 0] 39 (0,0)):=by rw[G,<-S];exact heap_alloc_new _ _
 have d8:=Z.out
 have h7:=b5.out
 have a6:ExpOwn N x1.heap.size (.slice r k.ex.length q) k.ex:=own_same f4.out fun g h1 h2=>(C.block g h2).trans (d.block g h2 (by omega))
 have b1:Below w.heap.size w N:=g4.trans ((d.below (by omega)).mono (by omega) |>.trans (C.mono (by omega)))
 have a4:=(C.block (w.heap.size+1) (by omega)).trans ((d.block (w.heap.size+1) (by omega) (by omega)).trans e8.out)
 have b0:=(C.block w.heap.size (by omega)).trans ((d.block w.heap.size (by omega) (by omega)).trans a0.out)
 have f9:=Hp (show UX w k b.heap.size 0 l N (.slice r k.ex.length q) (.slice none 0 0) [] from
  ⟨b3,RH a6 (by omega),World.ownsRow_nil _ _ _ _,by simp,rfl,b1,a4⟩)
 have i4:=Hp b0
 have n3:∀o,((b.setCell ⟨w.heap.size+2,2,none⟩ (.slice r k.ex.length q)).alloc o).cell? ⟨w.heap.size,3,none⟩=some (.slice A l.length c):=fun o=>by
  have h1:=(d.block w.heap.size (by omega) (by omega)).trans a0.out
  have h2:=(heap_alloc_old _ o (ZL h1)).trans h1
  exact heap_cell h2 3
 have b6:=Hp G.symm
 clear G d C b3 d8 a6 b1 a4 b0 g3
 have O:N.heap.size=b.heap.size+1:=by rw[<-b6.out];simp
 have i2:=Hp O
 clear O S
 go_wp2_with fail
 rw[b6.out]
 go_loopw [18] (fun i wr=>∃(j:Nat)(v:Value)(s:List Plc),j<=l.length/\i=.int .i64 j/\UX w k b.heap.size j l wr (.slice r k.ex.length q) v s) (fun i _=>l.length -(intOf i).toNat)
 case atStart=>exact⟨0,_,_,by omega,rfl,f9.out⟩
 case round=>
  obtain⟨j,v,s,hj,rfl,a⟩:=hrel
  have F:=Hp a
  by_cases H:j<l.length
  ·have g9:(j:Int)<l.length:=by omega
   obtain⟨ad,rfl,i0,p0,p1,p2,p3,p4,p5,p6,p7⟩:=RS HP.row a.bel j H
   have hx:=HP.each l[j] (GZ9 _)
   have U:=HM.out l[j] (GZ9 _)
   have b7:=Hp (show aD (l.take (j+1))=aD (l.take j)++[(l[j]'H).bare] by rw[List.take_succ_eq_append_getElem H,aD,List.map_append];rfl)
   obtain⟨y,hy⟩:=Nm (l[j]'H)
   simp only[<-hy]at p0 p1 p2 p3 p4 p5 p6 p7 hx U b7
   have cO:=Hp (fun W(hb:Below w.heap.size w W)=>Ei y.m W (hx.below hb) (xQ U))
   obtain⟨w4,R⟩:=Nm (wr.alloc (.cells #[.string y.m.name,.int .i64 y.m.major,.int .i64 y.m.minor,.string y.m.text,.slice y.m.eA y.m.ex.length y.m.eC,.slice y.m.iA y.m.im.length y.m.iC,.slice y.m.pA y.m.pa.length y.m.pC,.int .i64 y.first] 83))
   obtain⟨d0,d1,d2,d3,d4,d5,d6,d7,a2,J⟩:=zH R
   have g7:=R.symm
   have X:=(ZL a.heap)
   have h4:=(J.block b.heap.size X).trans a.heap
   have q3:=heap_cell h4 3
   have qf:=heap_free h4 3
   simp only[GZ2,GZ0,GZ1]at q3
   have H4:=Hp h4
   have M:=Hp (a.bel.trans (J.mono a.bel.size))
   have c7:=Hp J
   have e4:=Hp a2
   clear R J a2 h4 a hx U hy
   have f6:=Hp (show s.length<=8 by
    have:=congrArg List.length F.like
    simp only[List.length_map,GY6]at this
    omega)
   have c0:=Hp (fun(x:Plc)=>show s.length+([x]:List Plc).length<=1000000 by have:=f6.out;simp only[List.length_singleton];omega)
   have b4:=Hp (show wr.heap.size<w4.heap.size by have:=e4.out;omega)
   go_wp2_with fail
   go_upto_region 7 with fail
   go_region_law (first
    |(refine Kc _ (by rfl) (.tmp 23) (.tmp 30) (by rfl) (b.heap.size+1) v s (by rfl) (b9.out _) (some ⟨w5.heap.size,0,none⟩) 1 [⟨m',y.first⟩] (by rfl) e7.out f5.out (c5.out _) ?_;intro v' w6 T Y a9;obtain⟨A6,c6,rfl⟩:=bG T;have h6:=(Y.block b.heap.size (Nat.lt_succ_self _)).trans (f8.out _);have z3:=heap_cell h6 3;have zf:=heap_free h6 3;simp only[GZ2,GZ0,GZ1]at z3;have H6:=Hp h6;have e9:=Hp T;have g0:=Hp a9;have g1:=Hp Y;clear h6 T Y a9)
    |(go_simp;go_at_call 125;(with_reducible refine(cO.out _ M.out.drew).mono ?_);rintro e w5 ⟨⟨m',rfl,a3,a5⟩,D⟩;obtain⟨a8,h5,h3,f8⟩:=QJ H4.out D;obtain⟨f7,b9,e7,c5,e6⟩:=QN F.out c7.out D a8 m' y.first;have i1:=(D.cell (p:=⟨wr.heap.size,7,none⟩) b4.out).trans d7;have g2:=Hp (M.out.drew.trans (D.mono M.out.size));have e5:=Hp a3;have f3:=Hp a5;have f5:=Hp (c0.out ⟨m',y.first⟩);clear a8 a3 a5 D))
   all_goals(
    go_wp2_with fail
    go_roundw
    case rel=>exact⟨j+1,_,_,by omega,by go_num,Q5 (w4:=w4) F.out Z.out g2.out f7.out b9.out (c5.out _) e6.out H6.out e9.out g0.out g1.out e5.out f3.out M.size b7.out⟩
    case measure=>(simp[intOf];try omega))
  ·obtain rfl:j=l.length:=by omega
   have X:=a.bel
   obtain⟨A',c',rfl⟩:=bG a.row
   have z0:=heap_cell a.heap 0
   have z1:=heap_cell a.heap 1
   have z2:=heap_cell a.heap 2
   have z3:=heap_cell a.heap 3
   have r0:=heap_cell a.res 0
   have r1:=heap_cell a.res 1
   have r2:=heap_cell a.res 2
   have r3:=heap_cell a.res 3
   have q0:=heap_free a.res 0
   have q1:=heap_free a.res 1
   have q2:=heap_free a.res 2
   have q3:=heap_free a.res 3
   simp only[GZ2,GZ0,GZ1]at z0 z1 z2 z3 r0 r1 r2 r3
   clear a X
   go_wp2_with fail
   obtain⟨hg,ho⟩:=gY F.res (.int .i64 k.major) (.int .i64 k.minor) (.slice r k.ex.length q) (.slice A' s.length c')
   refine bodyPost_ret (results_cell_row rfl _ _ (w.heap.size+1) 39 _ (0,0) _ rfl hg Tryz.underlying39 rfl Tryz.RP) rfl ?_
   have V:=ho.kp F.res (ts:=[39]) (by simp)
   have h9:=Z.out
   refine⟨⟨⟨k.major,k.minor,k.ex,r,q⟩,A',s,c',rfl,rfl,by rw[F.like,List.take_length],⟨own_kp F.ex V (by decide),⟨RH (own_kp F.row V (by decide)) (by omega),fun x hx=>(F.each x hx).kp V (by decide) (by decide) (by decide)⟩⟩⟩,F.bel.trans ((ho.below (GY2 (ZL F.res))).mono (by omega))⟩
end
section
open Go.RowKit Go.Lib
theorem Ch (m:Mod):0<=aH m:=by unfold aH;omega
theorem DL :∀(l:List Plc)(j:Nat)(h:j<l.length)(a:Int),(l.flatMap Plc.cells).set (j*8+7) (.int .i64 a)=(l.set j ⟨l[j].m,a⟩).flatMap Plc.cells
 |x::l,0,_,a=>by
  show(x.cells++l.flatMap Plc.cells).set 7 (.int .i64 a)=(⟨x.m,a⟩:Plc).cells++l.flatMap Plc.cells
  rw[List.set_append_left _ _ (by show 7<(x.cells).length;exact Nat.lt_of_lt_of_eq (by decide:7<8) rfl)]
  rfl
 |x::l,j+1,h,a=>by
  show(x.cells++l.flatMap Plc.cells).set ((j+1)*8+7) (.int .i64 a)=x.cells++(l.set j ⟨(x::l)[j+1].m,a⟩).flatMap Plc.cells
  have b:x.cells.length=8:=rfl
  rw[List.set_append_right _ _ (by rw[b];omega),b,show(j+1)*8+7 -8=j*8+7 by omega,DL l j (by simpa using h) a]
  rfl
theorem aP.at_ {w:World}{base:Nat}{A:Option Addr}{c j:Nat}{l:List Plc}(h:aP w base (.slice A l.length c) l)(v:j<l.length):
  ∃g,A=some ⟨g,0,none⟩/\base<=g/\g<w.heap.size/\(∃y,w.heap[g]? =some (.cells y 83 (0,0)))/\(∃u,w.cell? ⟨g,j*8+7,none⟩=some u)/\w.frozen? ⟨g,j*8+7,none⟩=false/\
   ∀a,aP (w.setCell ⟨g,j*8+7,none⟩ (.int .i64 a)) base (.slice A l.length c) (l.set j ⟨l[j].m,a⟩):=by
 obtain⟨z,x⟩:=h
 rcases x with⟨_,B⟩|⟨g,q,b,s,r,f,n,o,i,e⟩
 ·omega
 injection s with ha hk hc
 subst ha
 have t:j*8+7<l.length*8:=by omega
 have d:(l.flatMap Plc.cells).length=l.length*8:=flat_length (enc:=Plc.cells) (k:=8) (fun _=>rfl) l
 have p:j*8+7<b.size:=by
  have:=congrArg List.length e
  rw[GY6,d]at this
  simp at this
  omega
 refine⟨g,rfl,r,(ZL f),⟨b,f⟩,⟨b[j*8+7],by rw[heap_cell f,Array.getElem?_eq_getElem p]⟩,heap_free f _,fun a=>?_⟩
 refine⟨by rw[List.length_set,flat_length (enc:=Plc.cells) (k:=8) (fun _=>rfl),List.length_set],.inr ⟨g,q,b.setIfInBounds (j*8+7) (.int .i64 a),?_,r,heap_setCell_same w g _ b _ _ f,?_,o,by simpa using i,?_⟩⟩
 ·rw[<-hc,List.length_set]
 ·simpa using n
 ·rw[Array.toList_setIfInBounds,List.take_set,List.length_set,e,DL l j v a]
theorem step_cons (a:Int)(x:Plc)(l:List Plc):Rj a (x::l)=if a<x.first then some (⟨x.m,a⟩::l)else(Rj (aR x) l).map (x:: ·):=rfl
theorem KS {l:List Plc}{j:Nat}{a:Int}(h:j<l.length)(d:Rj 0 l=(Rj a (l.drop j)).map (l.take j++ ·)):
  (a<l[j].first->Rj 0 l=some (l.set j ⟨l[j].m,a⟩))/\(¬a<l[j].first->Rj 0 l=(Rj (aR l[j]) (l.drop (j+1))).map (l.take (j+1)++ ·)):=by
 rw[GY4 h,step_cons]at d
 constructor
 ·intro c
  have b:=d
  rw[if_pos c]at b
  rw[b,Option.map_some,List.set_eq_take_append_cons_drop,if_pos h]
 ·intro c
  have b:=d
  rw[if_neg c]at b
  rw[b,Option.map_map]
  congr 1
  funext r
  show l.take j++(l[j]::r)=l.take (j+1)++r
  rw[List.take_succ_eq_append_getElem h,List.append_assoc];rfl
theorem Ip (bp b:Nat)(x0 x1:Int)(vE:Value)(A:Option Addr)(c:Nat)(l:List Plc)(w:World)(d:w.heap[bp]? =some (.cells #[.int .i64 x0,.int .i64 x1,vE,.slice A l.length c] 182 (0,0)))
  (U:aP w b (.slice A l.length c) l) (q:b<=w.heap.size) (hm:∀x∈l,x.m.text.size<=256) (hr:bW 0 l) (h8:l.length<=8):
  Calls Tryz.prog 122 #[.pointer (some ⟨bp,0,none⟩)] w fun e P=>e=.returned (.bool (Rj 0 l).isSome)/\aP P b (.slice A l.length c) ((Rj 0 l).getD l)/\Kp [83] w P/\Below b w P:=by
 have HO:=Hp U
 have HM:=Hp hm
 have p3:=heap_cell d 3
 simp only[GZ2,GZ0,GZ1]at p3
 have HP:=Hp d
 have Z:=(ZL d)
 have M:=Hp (show Row Plc.cells 8 w A l from Reads.of_own U)
 have HR:=Hp (show∀x∈l,0<=x.first/\aR x<=16/\x.first<=16 from fun x B=>by
  have:∀{r:List Plc}{a:Int},0<=a->bW a r->∀x∈r,0<=x.first/\aR x<=16/\x.first<=16:=by
   intro r
   induction r with
   |nil=>intro a _ _ x B;cases B
   |cons y r ih=>
    intro a ha ⟨g1,g2,g3,g4⟩ x B
    have e:aR y=y.first+aH y.m:=rfl
    have V:=g4.le
    rcases List.mem_cons.1 B with rfl|B
    ·exact⟨by omega,V,by omega⟩
    ·exact ih (by omega) g4 x B
  exact this (Int.le_refl _) hr x B)
 have HB:=Hp q
 obtain⟨S,hS⟩:=Nm (Rj 0 l)
 have HS:=Hp hS
 rw[<-hS]
 clear d U hm hr hS q
 go_enter Tryz.func122,Tryz.ntmps122
 go_wp2_with fail
 go_loopw [3,12] (fun at_ i wr=>∃(j:Nat)(a:Int),j<=l.length/\i=.int .i64 j/\at_=.int .i64 a/\0<=a/\a<=16/\Rj 0 l=(Rj a (l.drop j)).map (l.take j++ ·)/\Below w.heap.size w wr) (fun _ i _=>l.length -(intOf i).toNat)
 case atStart=>exact⟨0,0,by omega,rfl,rfl,by omega,by omega,by simp,GZ4 _ _⟩
 case round=>
  obtain⟨j,a,hj,rfl,rfl,a9,a5,hs,d⟩:=hrel
  have f:=Hp d
  have L:=Hp hs
  have q3:=(d.cell (p:=⟨bp,3,none⟩) Z).trans p3
  clear hs
  by_cases o:j<l.length
  ·have a4:(j:Int)<l.length:=by omega
   obtain⟨g,hA,hg,X,⟨cs,H⟩,_,_,_⟩:=HO.at_ o
   obtain⟨ad,J,a8,f0,f1,f2,f3,f4,f5,f6,f7⟩:=RS M.out d j o
   rw[hA]at J
   obtain rfl:=GY3 J
   have u:=aO HO.out d
   obtain⟨g',K,_,_,_,_,a7,s⟩:=aP.at_ u o
   rw[hA]at K
   obtain rfl:g=g':=by injection K with h;injection h
   have z:=Hp s
   obtain⟨s1,s2⟩:=KS o L.out
   have O:=Hp s1
   have N:=Hp s2
   have E:=HM.out l[j] (GZ9 _)
   obtain⟨T,R,Q⟩:=HR.out l[j] (GZ9 _)
   have a0:=fun v=>Hp (show Kp [83] w (wr.setCell ⟨g,j*8+7,none⟩ v) from(show Kp [83] w wr from fun i cs t fr hi _=>(d.block i (ZL hi)).trans hi).trans (Kp.set ((d.block g X).trans H) (by simp) _ _))
   have F:∀(n:Nat),(⟨g,0,none⟩:Addr).add (j*8)=⟨g,j*8,none⟩:=fun _=>by
    by_cases h0:j=0
    ·subst h0;rfl
    ·rw[add_pos_ _ _ (by omega)];simp
   rw[F 0]at f0 f1 f2 f3 f4 f5 f6 f7
   have a6:=F 0
   simp only at f0 f1 f2 f3 f4 f5 f6 f7
   subst hA
   obtain⟨y,hy⟩:=Nm (l[j]'o)
   simp only[<-hy]at O N f0 f1 f2 f3 f4 f5 f6 f7 E T R Q z
   have cE:=Hp (fun W=>zR y W E T Q)
   clear d s s1 s2 F hy H u
   by_cases G:a<y.first
   ·have k:=O.out G
    have a1:=Hp (show S=_ from HS.trans k)
    have a3:=Hp (f.mono HB)
    clear k O N T R Q E
    go_wp2_with fail
    go_ret
    rw[a1.out]
    exact⟨rfl,z.out a,(a0 _).out,a3.setCell (p:=⟨g,j*8+7,none⟩) hg _⟩
   ·have D:=Hp (N.out G)
    have Y:0<=aR y:=by have:=Ch y.m;unfold aR;omega
    clear O N
    go_wp2_with (go_at_call 91;(with_reducible refine(cE.out _).mono ?_);rintro e w5 ⟨rfl,I⟩;have a2:=Hp (f.out.trans (I.mono f.out.size));clear I)
    go_roundw
    case rel=>exact⟨j+1,aR y,by omega,by go_num,rfl,Y,R,D.out,a2.out⟩
    case measure=>(simp[intOf];try omega)
  ·obtain rfl:j=l.length:=by omega
   have C:=Hp (show S=none from by rw[HS.out,L.out,List.drop_eq_nil_of_le (GZ3 _)];rfl)
   clear d
   go_wp2_with fail
   go_ret
   rw[C.out]
   exact⟨rfl,aO HO.out f.out,Kp.of_below f.out,f.mono HB.out⟩
end
section
open Go.RowKit Go.Lib
abbrev CJ (y:Plc):Array Value:=#[.string y.m.name,.int .i64 y.m.major,.int .i64 y.m.minor,.string y.m.text,.slice y.m.eA y.m.ex.length y.m.eC,.slice y.m.iA y.m.im.length y.m.iC,.slice y.m.pA y.m.pa.length y.m.pC,.int .i64 y.first]
theorem Cx {w:World}{a:Nat}{y:Plc}{t:TypeId}(b:w.heap[a]? =some (.cells (CJ y) t (0,0))):∀j v,y.cells[j]? =some v->w.cell? ⟨a,j,none⟩=some v:=
 mH (F:=y.cells) (k:=8) b rfl
theorem Ga (y:Plc):∀v∈y.cells,v.oneCell'=true:=fun v a=>pG [y] v (by simpa using a)
theorem Bl (b j:Nat):(⟨b,0,none⟩:Addr).add j=⟨b,j,none⟩:=by rw[Addr.add_lit,Nat.zero_add]
theorem F8 (x g c i n V:Nat)(l:List Plc)(y:Plc)(w:World)(U:Array Value)(hg:w.heap[g]? =some (.cells U 83 (0,0)))(_hsz:U.size=c*8)(N:U.toList.take (l.length*8)=l.flatMap Plc.cells)
  (s:x<=w.heap.size) (hn:n=l.length) (b0:n<=c) (hi:i<n) (h8:n<=1000) (m:c<n+1) (hv:w.heap[V]? =some (.cells (CJ y) 83 (0,0))):
  Calls Tryz.prog 271 #[.slice (some ⟨g,0,none⟩) n c,.int .i64 i,.slice (some ⟨V,0,none⟩) 1 1] w fun e w'=>
   (∃A' c',e=.returned (.slice A' (n+1) c')/\aP w' x (.slice A' (n+1) c') (l.take i++y::l.drop i))/\Below w.heap.size w w':=by
 obtain⟨i0,a3,X,W,M⟩:=info_parts Tryz.vH
 have b1:c=n:=by omega
 have a4:=(ZL hg)
 have Z:=(ZL hv)
 obtain⟨F,hF⟩:=Nm (l.flatMap Plc.cells)
 have d:F.length=n*8:=by rw[hF,hn];exact mK l
 rw[<-hF]at N
 have S:∀j v,F[j]? =some v->w.cell? ⟨g,j,none⟩=some v:=mH hg N
 have a9:∀v∈F,v.oneCell'=true:=by rw[hF];exact pG l
 have L:(Builtin.firstCells i0.size i (.slice (some ⟨g,0,none⟩) i c)).run Tryz.prog w.drew=.ok (F.take (i*8)).toArray w.drew:=by
  rw[W]
  exact run_firstCells_some w.drew 8 i ⟨g,0,none⟩ i c (F.take (i*8)) (by rw[GY6];omega) (fun j v A=>by
   rw[Bl]
   rw[List.getElem?_take]at A
   split at A
   ·exact S j v A
   ·cases A)
 have k:∀f,(Builtin.append_ #[37,3] f #[.slice (some ⟨g,0,none⟩) i c,.int .i64 ((n:Int)+1 -(i:Int))]).run Tryz.prog w=
   .ok (.slice (some ⟨w.heap.size,0,none⟩) (n+1) (grownCap w (n+1) c 83)) (w.drew.alloc (.cells ((F.take (i*8)).toArray++Builtin.zeroCells kN.cells (n+1 -i)++Builtin.zeroCells kN.cells (grownCap w (n+1) c 83 -(n+1))) 83)):=fun f=>by
  have h:=Lib.run_append_grow_zeros w 37 3 f 83 i0 kN .i64 .i64 Tryz.underlying37 Tryz.underlying3 a3 X (some ⟨g,0,none⟩) i c (F.take (i*8)) L (n+1 -i) (by omega) (by omega) (by omega) (by omega) (by rw[M];omega) (by rw[M,show i+(n+1 -i)=n+1 by omega];exact growslice_fits m (by omega))
  rw[show i+(n+1 -i)=n+1 by omega,show((n+1 -i:Nat):Int)=(n:Int)+1 -(i:Int) by omega]at h
  exact h
 obtain⟨G,hG⟩:=Nm (grownCap w (n+1) c 83)
 have c6:n+1<=G:=by rw[hG];exact grownCap_ge w _ _ _
 have Q:G<=maxLen:=by rw[hG];exact grownCap_le_maxLen w (n+1) c 83 (by unfold maxLen;omega)
 obtain⟨a,b⟩:∃a:Array Value,a=(F.take (i*8)).toArray++Builtin.zeroCells kN.cells (n+1 -i)++Builtin.zeroCells kN.cells (G -(n+1)):=⟨_,rfl⟩
 rw[<-hG]at k
 rw[<-b]at k
 have u:a.size=G*8:=by
  rw[b]
  simp[Builtin.zeroCells,Value.cells,d]
  omega
 have a7:a.toList.take (i*8)=F.take (i*8):=by
  rw[b]
  simp only[Array.toList_append,List.append_assoc]
  rw[List.take_append_of_le_length (by simp[d];omega),List.take_of_length_le (by simp;omega)]
 obtain⟨K,J⟩:=Nm (w.drew.alloc (.cells a 83))
 rw[<-J]at k
 have D:K.heap[w.heap.size]? =some (.cells a 83 (0,0)):=by rw[J];exact heap_alloc_new w.drew _
 have P:Below w.heap.size w K:=by rw[J];exact(GZ4 _ w).drew.alloc (GZ3 _) _
 have a0:K.heap[V]? =some (.cells (CJ y) 83 (0,0)):=(P.block V Z).trans hv
 have t:y.cells.length=8:=rfl
 have r:∀f T,(Builtin.copy_ #[37,37] f #[.slice (some ⟨w.heap.size,i*8,none⟩) (n+1 -i) T,.slice (some ⟨V,0,none⟩) 1 1]).run Tryz.prog K=.ok (goInt 1) (K.setRow w.heap.size (spl a (i*8) y.cells)):=fun f T=>
  TU K _ _ f 83 w.heap.size (i*8) (n+1 -i) T ⟨V,0,none⟩ 1 1 8 1 a 83 y.cells Tryz.underlying37 Tryz.T9 D (by simp only[Nat.min_def];split<;>omega) rfl
   (fun j v A=>by rw[Bl];exact Cx a0 j v A) (by rw[t,u];omega) (Ga y)
 obtain⟨z,I⟩:=Nm (K.setRow w.heap.size (spl a (i*8) y.cells))
 rw[<-I]at r
 have C:z.heap[w.heap.size]? =some (.cells (spl a (i*8) y.cells) 83 (0,0)):=by rw[I];exact setRow_heap K _ _ _ _ _ D
 have a2:Only w.heap.size K z:=I▸Only.row _
 have O:Below w.heap.size w z:=P.trans (a2.below (GY2 (ZL D)))
 have a8:∀j v,F[j]? =some v->z.drew.cell? ⟨g,j,none⟩=some v:=fun j v A=>(World.cell?_of_block (w:=w) (w':=z.drew) (O.block g a4)).trans (S j v A)
 have E:(F.drop (i*8)).length=(n -i)*8:=by rw[List.length_drop,d];omega
 have B:(spl a (i*8) y.cells).size=G*8:=by
  rw[<-u]
  exact oK (by rw[u,t];omega)
 have q:∀f T sc,(Builtin.copy_ #[37,37] f #[.slice (some ⟨w.heap.size,(i+1)*8,none⟩) (n+1 -(i+1)) T,.slice (some ⟨g,i*8,none⟩) (n -i) sc]).run Tryz.prog z.drew=.ok (goInt ((n -i:Nat):Int)) (z.drew.setRow w.heap.size (spl (spl a (i*8) y.cells) ((i+1)*8) (F.drop (i*8)))):=fun f T sc=>
  TU z.drew _ _ f 83 w.heap.size ((i+1)*8) (n+1 -(i+1)) T ⟨g,i*8,none⟩ (n -i) sc 8 (n -i) (spl a (i*8) y.cells) 83 (F.drop (i*8)) Tryz.underlying37 Tryz.T9 C (by simp only[Nat.min_def];split<;>omega) E
   (fun j v A=>by rw[Addr.add_lit];exact a8 _ v (by rwa [List.getElem?_drop]at A)) (by rw[E,B];omega) (fun v hv=>a9 v (List.mem_of_mem_drop hv))
 obtain⟨W3,H⟩:=Nm (z.drew.setRow w.heap.size (spl (spl a (i*8) y.cells) ((i+1)*8) (F.drop (i*8))))
 rw[<-H]at q
 have a5:W3.heap[w.heap.size]? =some (.cells (spl (spl a (i*8) y.cells) ((i+1)*8) (F.drop (i*8))) 83 (0,0)):=by rw[H];exact setRow_heap z.drew _ _ _ _ _ C
 have a1:Only w.heap.size z.drew W3:=H▸Only.row _
 have a6:Below w.heap.size w W3:=O.drew.trans (a1.below (GY2 (ZL C)))
 have o:(l.take i++y::l.drop i).length=n+1:=by rw[GZ8,GY8,GY6,List.length_drop,<-hn];omega
 have HO:=Hp (show aP W3 x (.slice (some ⟨w.heap.size,0,none⟩) (n+1) G) (l.take i++y::l.drop i) from
  oZ s a5 o.symm (by omega) Q (by
   rw[oK (by rw[B,E];omega),B]) (by
   rw[o]
   have:=PR (R:=a.toList) (F:=F) (Y:=y.cells) (p:=i*8) (by omega) a7 (by rw[d,t,Array.length_toList,u];omega)
   rw[d,t,show i*8+8=(i+1)*8 by omega,show n*8+8=(n+1)*8 by omega]at this
   refine this.trans ?_
   rw[hF,vJ,Ua,List.flatMap_append,List.flatMap_cons,List.append_assoc]))
 have HB:=Hp a6
 have HZ:=Hp k
 have HA:=Hp r
 have HC:=Hp q
 have b7:¬((i:Int)=(n:Int)):=by omega
 have b6:(c:Int)<(n:Int)+1:=by omega
 have c0:IntKind.i64.wrap ((i:Int)+1)=(i:Int)+1:=by rw[IntKind.wrap_i64];omega
 have b9:IntKind.i64.wrap ((n:Int)+1)=(n:Int)+1:=by rw[IntKind.wrap_i64];omega
 have b3:(0:Int)<=(i:Int)+1:=by omega
 have c2:i<=n:=by omega
 have c1:((i:Int)+1).toNat=i+1:=by omega
 have b2:(i:Int)<=(n:Int):=by omega
 have c7:¬(G=i):=by omega
 have b4:¬(G=i+1):=by omega
 have c4:¬(c=i):=by omega
 have c3:i<=c:=by omega
 have b5:G<=9223372036854775807:=by unfold maxLen at Q;omega
 have b8:IntKind.i64.wrap ((n:Int)+1 -(i:Int))=(n:Int)+1 -(i:Int):=by rw[IntKind.wrap_i64];omega
 clear hg _hsz N s hn b0 m hv a3 X W M b1 a4 Z hF d S a9 L k b u a7 J D P a0 t r I C a2 O a8 E B q H a5 a1 a6 o hG Q
 go_enter Tryz.func271,Tryz.ntmps271
 have c5:=HA.out
 go_wp2_with (at_builtin;refine Lib.wpList_append_run _ rfl _ _ _ _ rfl _ _ rfl rfl _ _ (HZ.out _) ?_)
 go_region_law (refine step_copy_runI rfl _ _ 37 37 rfl (.slice (some ⟨w.heap.size,(i+1)*8,none⟩) (n+1 -(i+1)) (G -(i+1))) (.slice (some ⟨g,i*8,none⟩) (n -i) (c -i)) (by simp[Act.eval,Act.put]) (by simp[Act.eval,Act.put]) (HC.out _ _ _) ?_)
 go_wp2_with fail
 go_ret
 exact⟨⟨_,_,rfl,HO.out⟩,HB.out⟩
theorem Hg {w:World}{b:Nat}{a:Array Value}{t:TypeId}{c:Nat×Nat}(h:w.heap[b]? =some (.cells a t c)):w.shape? b=some (t,a.size):=by simp[World.shape?,h]
theorem Ju {w:World}{b:Nat}{a:Array Value}{t:TypeId}(h:w.heap[b]? =some (.cells a t (0,0)))(o:Nat):w.frozen? ⟨b,o,none⟩=false:=by simp[World.frozen?,h]
theorem Ef (o g c i n q:Nat)(l:List Plc)(y:Plc)(w:World)(a:Array Value)(I:w.heap[g]? =some (.cells a 83 (0,0)))(b:a.size=c*8)(t:a.toList.take (l.length*8)=l.flatMap Plc.cells)
  (O:o<=g) (R:n=l.length) (hi:i<n) (h8:n<=1000) (U:n+1<=c) (G:c<=maxLen) (z:w.heap[q]? =some (.cells (CJ y) 83 (0,0))) (D:q≠g):
  Calls Tryz.prog 271 #[.slice (some ⟨g,0,none⟩) n c,.int .i64 i,.slice (some ⟨q,0,none⟩) 1 1] w fun e w'=>
   e=.returned (.slice (some ⟨g,0,none⟩) (n+1) c)/\aP w' o (.slice (some ⟨g,0,none⟩) (n+1) c) (l.take i++y::l.drop i)/\Only g w w':=by
 have X:=(ZL I)
 have J:=(ZL z)
 obtain⟨F,hF⟩:=Nm (l.flatMap Plc.cells)
 have m:F.length=n*8:=by rw[hF,R];exact mK l
 rw[<-hF]at t
 have Q:∀v∈F,v.oneCell'=true:=by rw[hF];exact pG l
 have k:y.cells.length=8:=rfl
 have V:∀T Z,(callFunc 288 #[.slice (some ⟨q,0,none⟩) 1 1,.slice (some ⟨g,(i+1)*8,none⟩) T Z]).run Tryz.prog w=.ok (.value (.bool false)) w:=fun T Z=>by
  rw[run_callFunc_extern Tryz.func288 (by kernel_rfl) (by kernel_rfl) (by kernel_rfl) (e:=Extern.SlicesOverlaps.overlaps #[37,37] #[4]) (by kernel_rfl),
   Lib.run_overlaps_apart w 37 4 83 Tryz.underlying37 8 (fun w=>by kernel_rfl) ⟨q,0,none⟩ ⟨g,(i+1)*8,none⟩ 1 1 T Z D 83 83 8 a.size (Hg z) (Hg I) (by rw[b];omega) (Ju z _) (Ju z _)]
  rfl
 have s:(F.drop (i*8)).length=(n -i)*8:=by rw[List.length_drop,m];omega
 have P:∀j v,F[j]? =some v->w.drew.cell? ⟨g,j,none⟩=some v:=mH (w:=w.drew) I t
 have h:∀B H S,(Builtin.copy_ #[37,37] B #[.slice (some ⟨g,(i+1)*8,none⟩) (n+1 -(i+1)) H,.slice (some ⟨g,i*8,none⟩) (n+1 -i) S]).run Tryz.prog w.drew=.ok (goInt ((n -i:Nat):Int)) (w.drew.setRow g (spl a ((i+1)*8) (F.drop (i*8)))):=fun B H S=>
  TU w.drew _ _ B 83 g ((i+1)*8) (n+1 -(i+1)) H ⟨g,i*8,none⟩ (n+1 -i) S 8 (n -i) a 83 (F.drop (i*8)) Tryz.underlying37 Tryz.T9 I (by simp only[Nat.min_def];split<;>omega) s
   (fun j v W=>by rw[Addr.add_lit];exact P _ v (by rwa [List.getElem?_drop]at W)) (by rw[s,b];omega) (fun v z=>Q v (List.mem_of_mem_drop z))
 obtain⟨A,x⟩:=Nm (w.drew.setRow g (spl a ((i+1)*8) (F.drop (i*8))))
 rw[<-x]at h
 have E:A.heap[g]? =some (.cells (spl a ((i+1)*8) (F.drop (i*8))) 83 (0,0)):=by rw[x];exact setRow_heap w.drew _ _ _ _ _ I
 have C:Only g w A:=x▸(show Only g w (w.drew.setRow g _) from⟨rfl,rfl,rfl,(Only.row (w:=w) (g:=g) (spl a ((i+1)*8) (F.drop (i*8)))).size,(Only.row (w:=w) (g:=g) (spl a ((i+1)*8) (F.drop (i*8)))).block⟩)
 have K:A.heap[q]? =some (.cells (CJ y) 83 (0,0)):=(C.block q J D).trans z
 have r:(spl a ((i+1)*8) (F.drop (i*8))).size=c*8:=by
  rw[<-b]
  exact oK (by rw[s,b];omega)
 have f:∀B H,(Builtin.copy_ #[37,37] B #[.slice (some ⟨g,i*8,none⟩) (n+1 -i) H,.slice (some ⟨q,0,none⟩) 1 1]).run Tryz.prog A=.ok (goInt 1) (A.setRow g (spl (spl a ((i+1)*8) (F.drop (i*8))) (i*8) y.cells)):=fun B H=>
  TU A _ _ B 83 g (i*8) (n+1 -i) H ⟨q,0,none⟩ 1 1 8 1 (spl a ((i+1)*8) (F.drop (i*8))) 83 y.cells Tryz.underlying37 Tryz.T9 E (by simp only[Nat.min_def];split<;>omega) rfl
   (fun j v W=>by rw[Bl];exact Cx K j v W) (by rw[k,r];omega) (Ga y)
 obtain⟨W2,u⟩:=Nm (A.setRow g (spl (spl a ((i+1)*8) (F.drop (i*8))) (i*8) y.cells))
 rw[<-u]at f
 have N:W2.heap[g]? =some (.cells (spl (spl a ((i+1)*8) (F.drop (i*8))) (i*8) y.cells) 83 (0,0)):=by rw[u];exact setRow_heap A _ _ _ _ _ E
 have M:Only g w W2:=C.trans (u▸Only.row _)
 have d:(l.take i++y::l.drop i).length=n+1:=by rw[GZ8,GY8,GY6,List.length_drop,<-R];omega
 have HO:=Hp (show aP W2 o (.slice (some ⟨g,0,none⟩) (n+1) c) (l.take i++y::l.drop i) from
  oZ O N d.symm (by omega) G (by rw[oK (by rw[r,k];omega),r]) (by
   rw[d]
   have:=NH (L:=a.toList) (F:=F) (Y:=y.cells) (p:=i*8) (by omega) (by rw[m,R];exact t) (by rw[m,k,Array.length_toList,b];omega)
   rw[m,k,show i*8+8=(i+1)*8 by omega,show n*8+8=(n+1)*8 by omega]at this
   refine this.trans ?_
   rw[hF,vJ,Ua,List.flatMap_append,List.flatMap_cons,List.append_assoc]))
 have HB:=Hp M
 have HA:=Hp h
 have HC:=Hp f
 have a4:¬((i:Int)=(n:Int)):=by omega
 have a3:¬((c:Int)<(n:Int)+1):=by omega
 have a6:IntKind.i64.wrap ((i:Int)+1)=(i:Int)+1:=by rw[IntKind.wrap_i64];omega
 have a5:IntKind.i64.wrap ((n:Int)+1)=(n:Int)+1:=by rw[IntKind.wrap_i64];omega
 have a1:(0:Int)<=(i:Int)+1:=by omega
 have a8:i<=n:=by omega
 have a7:((i:Int)+1).toNat=i+1:=by omega
 have b1:¬(c=i+1):=by omega
 have a0:(i:Int)<=(n:Int)+1:=by omega
 have b0:¬(c=i):=by omega
 have a2:c<=9223372036854775807:=by unfold maxLen at G;omega
 clear I b t O R z D X J hF m Q k s P h x E C K r f u N M d G
 have a9:=HC.out
 go_enter Tryz.func271,Tryz.ntmps271
 go_wp2_with (simp only[V])
 go_region_law (refine step_copy_runI rfl _ _ 37 37 rfl (.slice (some ⟨g,(i+1)*8,none⟩) (n+1 -(i+1)) (c -(i+1))) (.slice (some ⟨g,i*8,none⟩) (n+1 -i) (c -i)) (by simp[Act.eval,Act.put]) (by simp[Act.eval,Act.put]) (HA.out _ _ _) ?_)
 go_wp2_with fail
 go_ret
 exact⟨rfl,HO.out,HB.out⟩
theorem NL {w:World}{a:Nat}{y:Plc}(b:w.heap[a]? =some (.cells (CJ y) 83 (0,0))):Row Plc.cells 8 w (some ⟨a,0,none⟩) [y]:=Ry (enc:=Plc.cells) (k:=8) (fun _=>rfl) b rfl
theorem JH (d:Nat)(A:Option Addr)(c n o:Nat)(l:List Plc)(y:Plc)(w:World)(p:aP w d (.slice A n c) l)(q:n=l.length)(f:d<=w.heap.size)(W:n<=1000)
  (t:w.heap[o]? =some (.cells (CJ y) 83 (0,0))):
  Calls Tryz.prog 271 #[.slice A n c,.int .i64 n,.slice (some ⟨o,0,none⟩) 1 1] w fun e z=>
   (∃Q P,e=.returned (.slice Q (n+1) P)/\aP z d (.slice Q (n+1) P) (l++[y]))/\Below d w z/\w.grownBy z (Value.slice A n c).ownBlock:=by
 have H:=Hp p
 have G:=Hp (NL t)
 have I:=Hp (show l.length+([y]:List Plc).length<=1000000 by simp only[List.length_singleton];omega)
 have J:=Hp f
 have R:IntKind.i64.wrap ((n:Int)+1)=(n:Int)+1:=by rw[IntKind.wrap_i64];omega
 have x:=Hp q
 rcases p.2 with⟨m,v⟩|⟨g,V,U,m,v,u,O,F,N,M⟩
 ·injection m with m _ u
  subst m u
  have B:n=0:=by omega
  subst B
  have C:l=[]:=GY9 q.symm
  subst C
  clear p t q f v
  go_enter Tryz.func271,Tryz.ntmps271
  go_wp2_with (at_builtin;refine gN _ rfl _ _ rfl d (.slice none 0 0) [] rfl H.out (some ⟨o,0,none⟩) 1 [y] rfl G.out I.out J.out ?_;intro L K b h a;obtain⟨s,r,rfl⟩:=bG b;have i:=Hp b;have k:=Hp h;have j:=Hp a;clear b h a)
  go_ret
  exact⟨⟨s,r,rfl,i.out⟩,k.out,j.out⟩
 ·injection m with m _ e8
  subst m
  have S:n<=c:=by subst e8;omega
  have T:c<=9223372036854775807:=by subst e8;unfold maxLen at F;omega
  by_cases E:c=n
  ·subst E
   clear p t q f v u O F N M e8
   go_enter Tryz.func271,Tryz.ntmps271
   go_wp2_with (at_builtin;refine gN _ rfl _ _ rfl d (.slice (some ⟨g,0,none⟩) c c) l rfl H.out (some ⟨o,0,none⟩) 1 [y] rfl G.out I.out J.out ?_;intro L K b h a;obtain⟨s,r,rfl⟩:=bG b;have i:=Hp b;have k:=Hp h;have j:=Hp a;clear b h a)
   go_ret
   have D:(l++[y]).length=c+1:=by rw[GZ8,List.length_singleton,<-x.out]
   refine⟨⟨s,r,(by first|rfl|(rw[x.out];rfl)),by have:=i.out;rwa [D]at this⟩,k.out,j.out⟩
  ·clear p t q f v u O F N M e8
   go_enter Tryz.func271,Tryz.ntmps271
   go_wp2_with (at_builtin;refine gN _ rfl _ _ rfl d (.slice (some ⟨g,0,none⟩) n c) l rfl H.out (some ⟨o,0,none⟩) 1 [y] rfl G.out I.out J.out ?_;intro L K b h a;obtain⟨s,r,rfl⟩:=bG b;have i:=Hp b;have k:=Hp h;have j:=Hp a;clear b h a)
   go_ret
   have D:(l++[y]).length=n+1:=by rw[GZ8,List.length_singleton,<-x.out]
   refine⟨⟨s,r,(by first|rfl|(rw[x.out];rfl)),by have:=i.out;rwa [D]at this⟩,k.out,j.out⟩
theorem BH (b:Nat)(A:Option Addr)(c n i o:Nat)(l:List Plc)(y:Plc)(w:World)(r:aP w b (.slice A n c) l)(k:n=l.length)(N:i<=n)(d:b<=w.heap.size)(F:n<=1000)
  (B:w.heap[o]? =some (.cells (CJ y) 83 (0,0))) (C:∀a,A=some a->a.block≠o):
  Calls Tryz.prog 271 #[.slice A n c,.int .i64 i,.slice (some ⟨o,0,none⟩) 1 1] w fun e m=>
   (∃z x,e=.returned (.slice z (n+1) x)/\aP m b (.slice z (n+1) x) (l.take i++y::l.drop i))/\Kp [83] w m/\Below b w m:=by
 rcases Nat.lt_or_ge i n with s|I
 ·obtain⟨g,J,_⟩:=aP.at_ (l:=l) (by rw[k]at r;exact r) (j:=i) (by omega)
  subst J
  obtain⟨u,t,p,O,K,H,G⟩:=Cw r k
  rcases Nat.lt_or_ge c (n+1)with E|E
  ·refine(F8 b g c i n o l y w u p H G d k (by omega) s F E B).mono ?_
   rintro e m ⟨h,v⟩
   exact⟨h,Kp.of_below v,v.mono d⟩
  ·refine(Ef b g c i n o l y w u p H G t k s F E K B (fun e=>C _ rfl e.symm)).mono ?_
   rintro e m ⟨rfl,f,q⟩
   exact⟨⟨_,_,rfl,f⟩,q.kp p (by simp),(q.below (GY2 (ZL p))).mono t⟩
 ·obtain rfl:i=n:=by omega
  refine(JH b A c i o l y w r k d F B).mono ?_
  rintro e m ⟨⟨z,x,rfl,f⟩,v,D⟩
  refine⟨⟨z,x,rfl,?_⟩,Kp.grown D (fun g p=>?_),v⟩
  ·rw[k,List.take_length,List.drop_length]
   rw[k]at f
   exact f
  ·obtain⟨M,L,h⟩:=own_kind r g p
   exact⟨M,_,L,h,by simp⟩
end
end Go.Proofs.YtjiedaialianmaaGreat
