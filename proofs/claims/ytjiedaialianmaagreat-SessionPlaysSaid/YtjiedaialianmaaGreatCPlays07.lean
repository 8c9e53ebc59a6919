import Derived.Test.YtjiedaialianmaaGreatA23
set_option maxRecDepth 100000
set_option maxHeartbeats 8000000
namespace Go.Proofs.YtjiedaialianmaaGreat
section
open Go.RowKit Go.Lib
theorem I5 {l:List Plc}{j n:Nat}(h:j<l.length):(l.take (j+1)).eraseIdx n=if j=n then(l.take j).eraseIdx n else(l.take j).eraseIdx n++[l[j]]:=by
 rw[List.take_succ_eq_append_getElem h]
 have a:(l.take j).length=j:=by rw[GY6];omega
 by_cases e:j=n
 ·rw[if_pos e,List.eraseIdx_append_of_length_le (by omega),a,show n -j=0 by omega,List.eraseIdx_of_length_le (by omega:(l.take j).length<=n)]
  simp
 ·rw[if_neg e]
  rcases Nat.lt_or_ge n j with c|c
  ·rw[List.eraseIdx_append_of_lt_length (by omega)]
  ·rw[List.eraseIdx_append_of_length_le (by omega),a,List.eraseIdx_of_length_le (by omega:(l.take j).length<=n)]
   obtain⟨d,b⟩:∃d,n -j=d+1:=⟨n -j -1,by omega⟩
   rw[b];rfl
theorem VC (A:Option Addr)(c:Nat)(l:List Plc)(n:Nat)(w:World)(h:aU w A l)(X:l.length<=1000):
  Calls Tryz.prog 110 #[.slice A l.length c,.int .i64 n] w fun e C=>(∃r q,e=.returned (.slice r (l.eraseIdx n).length q)/\aP C w.heap.size (.slice r (l.eraseIdx n).length q) (l.eraseIdx n))/\Below w.heap.size w C:=by
 have R:=Hp h
 clear h
 go_enter Tryz.func110,Tryz.ntmps110
 go_wp2_with fail
 go_loopw [5,6] (fun v i wr=>∃j:Nat,j<=l.length/\i=.int .i64 j/\aP wr w.heap.size v ((l.take j).eraseIdx n)/\Below w.heap.size w wr) (fun _ i _=>l.length -(intOf i).toNat)
 case atStart=>exact⟨0,by omega,rfl,World.ownsRow_nil _ _ _ _,GZ4 _ _⟩
 case round=>
  obtain⟨j,W,rfl,a,b⟩:=hrel
  have F:=Hp b
  have S:=Hp a
  by_cases d:j<l.length
  ·have E:(j:Int)<l.length:=by omega
   have f:=I5 (n:=n) d
   obtain⟨Y,rfl,O,N,M,L,K,J,I,H,G⟩:=RS R.row b j d
   by_cases e:j=n
   ·rw[if_pos e]at f
    have x:=Hp f
    have P:((j:Int) != (n:Int))=false:=by simp[e]
    clear a b f e
    go_wp2_with fail
    go_roundw
    case rel=>exact⟨j+1,by omega,by go_num,by rw[x.out];exact S.out,F.out⟩
    case measure=>(simp[intOf];try omega)
   ·rw[if_neg e]at f
    obtain⟨y,D⟩:=Nm (l[j]'d)
    simp only[<-D]at N M L K J I H G f
    have x:=Hp f
    have P:((j:Int) != (n:Int))=true:=by simp;omega
    have T:=Hp (show((l.take j).eraseIdx n).length+([y]:List Plc).length<=1000000 by
     have:=List.length_eraseIdx_le (l.take j) n
     rw[GY6]at this
     simp only[List.length_singleton];omega)
    have Q:=Hp (show∀o,w.heap.size<=(wr.alloc o).heap.size from fun o=>GY1 b.size ((GZ4 wr.heap.size wr).alloc (GZ3 _) o).size)
    have s:=Hp (show∀o,aP (wr.alloc o) w.heap.size u5 ((l.take j).eraseIdx n) from fun o=>World.ownsRow.alloc a o)
    have z:=Hp (show∀o,Below w.heap.size w (wr.alloc o) from fun o=>b.trans ((GZ4 wr.heap.size wr).alloc (GZ3 _) o |>.mono b.size))
    have p:=Hp (KD wr y)
    clear a b f e D
    go_wp2_with (at_builtin;refine gN (wr.alloc (.cells #[.string y.m.name,.int .i64 y.m.major,.int .i64 y.m.minor,.string y.m.text,.slice y.m.eA y.m.ex.length y.m.eC,.slice y.m.iA y.m.im.length y.m.iC,.slice y.m.pA y.m.pa.length y.m.pC,.int .i64 y.first] 83)) rfl _ _ rfl w.heap.size u5 ((l.take j).eraseIdx n) rfl (s.out _) (some ⟨wr.heap.size,0,none⟩) 1 [y] rfl p.out T.out (Q.out _) ?_;intro V U g k _;have t:=Hp g;have B:=Hp ((z.out _).trans k);clear g k)
    go_roundw
    case rel=>exact⟨j+1,by omega,by go_num,by rw[x.out];exact t.out,B.out⟩
    case measure=>(simp[intOf];try omega)
  ·obtain rfl:j=l.length:=by omega
   rw[List.take_length]at a
   obtain⟨r,q,rfl⟩:=bG a
   have u:=Hp a
   clear a b
   go_wp2_with fail
   go_ret
   exact⟨⟨r,q,rfl,u.out⟩,F.out⟩
end
section
open Go.RowKit Go.Lib
theorem Pg {W b:World}{a:Nat}{A n:Option Addr}{c:Nat}{l d:List Plc}(h:aP W a (.slice A l.length c) l)(f:l.map (·.m)=d.map (·.m))(g:aU b n d)(k:Below b.heap.size b W):aU W A l:=
 ⟨Reads.of_own h,by rw[kL f];exact g.len,fun x j=>by
  obtain⟨y,i,e⟩:=oF f.symm j
  rw[<-e];exact(g.each y i).below k⟩
theorem Pn {a d:World}{l:List Plc}{h:Value}(b:d.ownsRow a.heap.size 83 8 h (0+l.length) ([]++l.flatMap Plc.cells))(c:(a.alloc (.cells #[] 83)).grownBy d (Value.slice (some ⟨a.heap.size,0,none⟩) 0 0).ownBlock):
  ∃g f,h=.slice g l.length f/\Hid (aP d a.heap.size (.slice g l.length f) l)/\Below a.heap.size a d:=by
 obtain⟨g,f,i⟩:=bG b
 rw[Nat.zero_add]at i
 subst i
 exact⟨g,f,rfl,Hp (by unfold aP;simpa using b),((GZ4 _ a).alloc (GZ3 _) _).grown c (by simp) (iW (World.ownsRow_made a #[] 0 (GZ3 _) (Nat.zero_le _) rfl (e:=83) (size:=8)))⟩
theorem Ol {e a:World}{b n:Nat}{i g f c:Value}{t:TypeId}(k:Below n e a)(j:b<n)(h:e.heap[b]? =some (.cells #[i,g,f,c] t (0,0))):
  Hid (a.heap[b]? =some (.cells #[i,g,f,c] t (0,0)))/\a.cell? ⟨b,3,none⟩=some c/\a.frozen? ⟨b,3,none⟩=false:=by
 have d:=(k.block b j).trans h
 exact⟨Hp d,heap_cell d 3,heap_free d 3⟩
theorem JG (k:Krn)(A:Option Addr)(c:Nat)(l:List Plc)(w:World)(h:aU w A l)(hm:∀x∈l,aL x.m=0)(hr:bW 0 l)(h8:l.length<=8):
  Calls Tryz.prog 243 #[rgV k A l c] w fun e w'=>(∃K p,e=.returned (.tuple #[rgV k K ((Rj 0 l).getD l) p,.bool (Rj 0 l).isSome])/\aP w' w.heap.size (.slice K l.length p) ((Rj 0 l).getD l))/\Below w.heap.size w w':=by
 obtain⟨w0,B⟩:=Nm (w.alloc (.cells #[.int .i64 k.major,.int .i64 k.minor,.slice k.eA k.ex.length k.eC,.slice A l.length c] 39))
 obtain⟨g0,g1,g2,g3,c5,D⟩:=oJ B
 obtain⟨E,d⟩:=Nm (w0.alloc (.cells #[.int .i64 0,.int .i64 0,.slice none 0 0,.slice none 0 0] 39))
 obtain⟨n,q⟩:=Nm (E.alloc (.cells #[.int .i64 k.major,.int .i64 k.minor,.slice k.eA k.ex.length k.eC,.slice A l.length c] 39))
 have Q:Below w0.heap.size w0 E:=d▸ZB
 have C:Below E.heap.size E n:=q▸ZB
 have c3:E.heap.size=w.heap.size+2:=by rw[d];simp;omega
 have a0:n.heap.size=w.heap.size+3:=by rw[q];simp;omega
 have U:E.heap[w.heap.size]? =some (.cells #[.int .i64 k.major,.int .i64 k.minor,.slice k.eA k.ex.length k.eC,.slice A l.length c] 39 (0,0)):=by rw[d,heap_alloc_old w0 _ (by omega),B];exact heap_alloc_new w _
 have a9:E.heap[w.heap.size+1]? =some (.cells #[.int .i64 0,.int .i64 0,.slice none 0 0,.slice none 0 0] 39 (0,0)):=by rw[d,<-c5];exact heap_alloc_new w0 _
 obtain⟨_,k0,k1,k2,k3,_⟩:=aB U
 have d8:=Hp ((C.block (w.heap.size+1) (by omega)).trans a9)
 have b0:=(C.block w.heap.size (by omega)).trans U
 have d6:=Hp (show n.heap[w.heap.size+2]? =some (.cells #[.int .i64 k.major,.int .i64 k.minor,.slice k.eA k.ex.length k.eC,.slice A l.length c] 39 (0,0)) by rw[q,<-c3];exact heap_alloc_new E _)
 have n3:∀o,(n.alloc o).cell? ⟨w.heap.size,3,none⟩=some (.slice A l.length c):=fun o=>heap_cell ((heap_alloc_old n o (by omega)).trans b0) 3
 have c2:=Hp ((D.trans (Q.mono D.size)).trans (C.mono (GY1 D.size Q.size)))
 have V:=Hp a0
 have HP:=Hp h
 have HM:=Hp hm
 have e3:=Hp hr
 obtain⟨i0,hi,d0,c9,c8⟩:=info_parts Tryz.vH
 have G:Reads (n.alloc (.cells #[] 83)) (n.heap.size+1) 8 A l.length (l.flatMap Plc.cells):=by
  have:=(h.row.below c2.out).below ((GZ4 _ _).alloc (GZ3 _) (.cells #[] 83))
  unfold Row at this
  simpa using this
 have b7:=Hp G
 have e1:=Hp (show w.heap.size+2<n.heap.size by omega)
 have e6:=B.symm
 have e5:=d.symm
 have e4:=q.symm
 obtain⟨S,hS⟩:=Nm (Rj 0 l)
 have HS:=Hp hS
 rw[<-hS]
 clear B d q D Q C h hm hr G U a9 b0 g0 g1 g2 g3 a0 hS
 go_enter Tryz.func243,Tryz.ntmps243
 go_wp2_with (at_builtin;refine eO (n.alloc (.cells #[] 83)) rfl _ _ 37 rfl n.heap.size 83 i0 kN 8 128 Tryz.underlying37 hi d0 c9 c8 rfl (by decide) _ _ _ rfl (World.ownsRow_made n #[] 0 (GZ3 _) (Nat.zero_le _) rfl) (n.heap.size+1) A l.length c (l.flatMap Plc.cells) rfl b7.out (pG l) (by unfold maxLen;omega) (by omega) (by simp) ?_;intro v' w3 b u _;obtain⟨K,p,rfl,e0,R⟩:=Pn b u;obtain⟨b5,t3,tf⟩:=Ol R e1.out d6.out;have Y:=Hp R;clear b u R)
 obtain⟨Z,z⟩:=Nm (w3.setCell ⟨w.heap.size+2,3,none⟩ (.slice K l.length p))
 rw[<-z]
 have s:Only (w.heap.size+2) w3 Z:=z▸Only.set 3 _
 have h4:Z.heap[w.heap.size+2]? =some (.cells #[.int .i64 k.major,.int .i64 k.minor,.slice k.eA k.ex.length k.eC,.slice K l.length p] 39 (0,0)):=z▸heap_setCell_same w3 (w.heap.size+2) 3 _ _ (.slice K l.length p) b5.out
 have M:=V.out
 have c6:=Y.size
 have d9:=Hp (own_kp e0.out (s.kp b5.out (ts:=[39]) (by simp)) (by decide))
 have c1:=Hp (show Below w.heap.size w Z from(c2.trans (Y.mono (by omega))).trans ((s.below (by omega)).mono (by omega)))
 have b8:=Hp ((s.block (w.heap.size+1) (by omega) (by omega)).trans ((Y.block (w.heap.size+1) (by omega)).trans d8.out))
 have b4:=Hp h4
 have b3:=Hp (show w.heap.size+3<=Z.heap.size from GY1 (by omega) s.size)
 clear z s h4 M c6 t3 tf
 go_loopw [5,6] (fun en i wr=>∃(j:Nat)(a:Int),j<=l.length/\i=.int .i64 j/\en=.int .i64 a/\0<=a/\a<=16/\bW a (l.drop j)/\Rj 0 l=(Rj a (l.drop j)).map (l.take j++ ·)/\Below Z.heap.size Z wr) (fun _ i _=>l.length -(intOf i).toNat)
 case atStart=>exact⟨0,0,by omega,rfl,rfl,by omega,by omega,e3.out,by simp,GZ4 _ _⟩
 case round=>
  obtain⟨j,a,hj,rfl,rfl,f7,e8,H,hs,hb⟩:=hrel
  have f:=Hp hb
  have b6:=Hp hs
  have b9:=Hp H
  have a7:=(hb.block (w.heap.size+2) (ZL b4.out)).trans b4.out
  obtain⟨f8,t0,t1,t2,t3,_⟩:=aB a7
  have a8:=(hb.block (w.heap.size+1) (ZL b8.out)).trans b8.out
  obtain⟨v,r0,r1,r2,r3,f0,f1,f2,f3⟩:=aB a8
  have X:=Hp (aO d9 hb)
  clear hs H a7 a8
  by_cases t:j<l.length
  ·have e7:(j:Int)<l.length:=by omega
   obtain⟨g,hA,hg,f4,_,_,f5,F⟩:=aP.at_ X.out t
   obtain⟨ad,b2,f6,p0,p1,p2,p3,p4,p5,p6,p7⟩:=RS (Reads.of_own X.out) (GZ4 _ _) j t
   rw[hA]at b2
   obtain rfl:=GY3 b2
   have J:=Hp F
   obtain⟨s1,s2⟩:=KS t b6.out
   have hd:=b9.out
   rw[GY4 t]at hd
   obtain⟨d1,d2,d3,d4⟩:=hd
   have D4:=Hp d4
   have S1:=Hp s1
   have S2:=Hp s2
   have a3:=(aY (HM.out l[j] (GZ9 _))).2.2.1
   have a5:=d4.le
   have b1:(⟨g,0,none⟩:Addr).add (j*8)=⟨g,j*8,none⟩:=by
    by_cases h0:j=0
    ·subst h0;rfl
    ·rw[add_pos_ _ _ (by omega)];simp
   rw[b1]at p0 p1 p2 p3 p4 p5 p6 p7
   simp only at p0 p1 p2 p3 p4 p5 p6 p7
   subst hA
   obtain⟨y,hy⟩:=Nm (l[j]'t)
   simp only[<-hy]at S1 S2 D4 p0 p1 p2 p3 p4 p5 p6 p7 a3 d1 d2 d3 a5 J
   have cE:=Hp (fun W=>lH y.m W (GY1 a3 (by unfold big;omega)))
   clear F s1 s2 b1 hy d4
   by_cases e9:y.first=a
   ·have a2:¬a<y.first:=by omega
    have a4:aR y=a+aH y.m:=by unfold aR;omega
    have c0:=Hp a4
    have O:=Hp (S2.out a2)
    have hw:=IntWalk.i64_in (a+aH y.m) (by omega)
    clear S1 S2 a2 a4
    go_wp2_with (go_at_call 107;(with_reducible refine(cE.out _).mono ?_);rintro e w5 ⟨rfl,a6⟩;have e2:=Hp (f.out.trans (a6.mono f.out.size));clear a6)
    go_roundw
    case rel=>exact⟨j+1,aR y,by omega,by go_num,by rw[c0.out],by rw[c0.out];omega,a5,D4.out,O.out,e2.out⟩
    case measure=>(simp[intOf];try omega)
   ·have I:a<y.first:=by omega
    have r:=S1.out I
    have d7:=Hp (show S=_ from HS.trans r)
    clear r S1 S2 I
    go_wp2_with fail
    have M:=V.out
    have a1:Only g wr (wr.setCell ⟨g,j*8+7,none⟩ (.int .i64 a)):=Only.set _ _
    have T:=(a1.block (w.heap.size+1) (ZL v.out) (by omega)).trans v.out
    obtain⟨P,ho⟩:=gY T (.int .i64 k.major) (.int .i64 k.minor) (.slice k.eA k.ex.length k.eC) (.slice (some ⟨g,0,none⟩) l.length p)
    refine bodyPost_ret (results_cell_tmp rfl _ _ (w.heap.size+1) 39 _ (0,0) _ rfl P Tryz.underlying39 rfl Tryz.RP) rfl ?_
    have b:=own_kp (J.out a) (ho.kp T (ts:=[39]) (by simp)) (by decide)
    have c7:∀(L:List Plc),L.length=l.length->rgV k (some ⟨g,0,none⟩) L p=rgV k (some ⟨g,0,none⟩) l p:=fun L hL=>by unfold rgV;rw[hL]
    have d5:=f.size
    have c4:=b3.out
    rw[d7.out]
    refine⟨⟨some ⟨g,0,none⟩,p,by rw[Option.getD_some,c7 _ (List.length_set ..)];rfl,RH b (by omega)⟩,?_⟩
    exact(c1.trans (f.mono (by omega))).trans (((a1.below (by omega)).mono (by omega)).trans ((ho.below (GY2 (ZL T))).mono (by omega)))
  ·obtain rfl:j=l.length:=by omega
   have N:=Hp (show S=none from by rw[HS.out,b6.out,List.drop_eq_nil_of_le (GZ3 _)];rfl)
   clear hb
   go_wp2_with fail
   have M:=V.out
   have d5:=f.size
   have c4:=b3.out
   obtain⟨P,ho⟩:=gY v.out (.int .i64 k.major) (.int .i64 k.minor) (.slice k.eA k.ex.length k.eC) (.slice K l.length p)
   refine bodyPost_ret (results_cell_tmp rfl _ _ (w.heap.size+1) 39 _ (0,0) _ rfl P Tryz.underlying39 rfl Tryz.RP) rfl ?_
   have b:=own_kp X.out (ho.kp v.out (ts:=[39]) (by simp)) (by decide)
   rw[N.out]
   refine⟨⟨K,p,rfl,RH b (by omega)⟩,?_⟩
   exact(c1.trans (f.mono (by omega))).trans ((ho.below (GY2 (ZL v.out))).mono (by omega))
structure Aw (w:World)(k:Krn)(A:Option Addr)(c:Nat)(l:List Plc)(q:Nat)(A1:Option Addr)(L:List Plc)(c1:Nat)(W:World):Prop where
 heap:W.heap[w.heap.size]? =some (.cells #[.int .i64 k.major,.int .i64 k.minor,.slice k.eA k.ex.length k.eC,.slice A1 L.length c1] 39 (0,0))
 res:W.heap[w.heap.size+1]? =some (.cells #[.int .i64 0,.int .i64 0,.slice none 0 0,.slice none 0 0] 39 (0,0))
 ok:aU W A1 L
 r16:bW 0 L
 same:L.map (·.m)=l.map (·.m)
 pack:bI 0 l=((bI 0 L).1,(bI 0 L).2+q)
 bel:Below w.heap.size w W
 own:(A1=A/\c1=c/\L=l)\/aP W w.heap.size (.slice A1 L.length c1) L
theorem Jf (k:Krn)(A:Option Addr)(c:Nat)(l:List Plc)(w:World)(h:aU w A l)(hm:∀x∈l,aL x.m=0)(hr:bW 0 l)(h8:l.length<=8):
  Calls Tryz.prog 210 #[rgV k A l c] w fun e w'=>(∃A' c',e=.returned (.tuple #[rgV k A' (bI 0 l).1 c',.int .i64 (bI 0 l).2])/\aU w' A' (bI 0 l).1/\((A'=A/\c'=c/\(bI 0 l).1=l)\/aP w' w.heap.size (.slice A' (bI 0 l).1.length c') (bI 0 l).1))/\Below w.heap.size w w':=by
 obtain⟨T,D⟩:=Nm (w.alloc (.cells #[.int .i64 k.major,.int .i64 k.minor,.slice k.eA k.ex.length k.eC,.slice A l.length c] 39))
 obtain⟨g0,g1,g2,g3,c0,P⟩:=oJ D
 obtain⟨x0,s⟩:=Nm (T.alloc (.cells #[.int .i64 0,.int .i64 0,.slice none 0 0,.slice none 0 0] 39))
 have a4:Below T.heap.size T x0:=s▸ZB
 have a8:x0.heap[w.heap.size]? =some (.cells #[.int .i64 k.major,.int .i64 k.minor,.slice k.eA k.ex.length k.eC,.slice A l.length c] 39 (0,0)):=by rw[s,heap_alloc_old T _ (by omega),D];exact heap_alloc_new w _
 have a6:x0.heap[w.heap.size+1]? =some (.cells #[.int .i64 0,.int .i64 0,.slice none 0 0,.slice none 0 0] 39 (0,0)):=by rw[s,<-c0];exact heap_alloc_new T _
 have b5:=Hp (P.trans (a4.mono P.size))
 have c9:=Hp (show Aw w k A c l 0 A l c x0 from⟨a8,a6,h.below b5.out,hr,rfl,rfl,b5.out,.inl ⟨rfl,rfl,rfl⟩⟩)
 have HM:=Hp hm
 have c8:=Hp (FK (l:=l) (a:=0))
 have d1:=D.symm
 have d0:=s.symm
 clear D s P a4 h hm hr a8 a6 g0 g1 g2 g3
 go_enter Tryz.func210,Tryz.ntmps210
 go_wp2_with fail
 go_loopw [4] (fun n wr=>∃(q:Nat)(A1:Option Addr)(L:List Plc)(c1:Nat),n=.int .i64 q/\q<=(bI 0 l).2/\Aw w k A c l q A1 L c1 wr) (fun n _=>(bI 0 l).2+1 -(intOf n).toNat)
 case atStart=>exact⟨0,A,l,c,rfl,Nat.zero_le _,c9.out⟩
 case round=>
  obtain⟨q,A1,L,c1,rfl,hq,p⟩:=hrel
  have f:=Hp p
  have d3:q<=8:=by have:=c8.out;omega
  have N:=kL p.same
  have Q:=Hp (JG k A1 c1 L wr p.ok (fun x hx=>by obtain⟨y,hy,e⟩:=oF p.same.symm hx;rw[<-e];exact HM.out y hy) p.r16 (by omega))
  obtain⟨_,p0,p1,p2,p3,X,W,V,U⟩:=aB p.heap
  have a5:=Hp (ZL p.heap)
  have d4:=Hp (Je L 0)
  cases g:Rj 0 L with
  |none=>
   have HN:=Hp (Uh p.r16 g)
   rw[g]at Q
   simp only[Option.getD_none,Option.isSome_none]at Q
   clear p g hq N
   go_wp2_with fail
   refine(Q.out).mono ?_;rintro e r ⟨⟨B,C,rfl,u⟩,j⟩
   obtain⟨J,d⟩:=Nm (r.alloc (.cells #[.int .i64 k.major,.int .i64 k.minor,.slice k.eA k.ex.length k.eC,.slice B L.length C] 39))
   have i:Below r.heap.size r J:=d▸ZB
   have h6:J.heap[r.heap.size]? =some (.cells #[.int .i64 k.major,.int .i64 k.minor,.slice k.eA k.ex.length k.eC,.slice B L.length C] 39 (0,0)):=by rw[d];exact heap_alloc_new r _
   have b:=j.trans (i.mono j.size)
   have S:=Hp (f.bel.trans (b.mono f.bel.size))
   have I:=Hp b
   have R:=Hp (show aP J wr.heap.size (.slice B L.length C) L from aO u i)
   obtain⟨z,a0,a1,a2,a3,b0,b1,b2,b3⟩:=aB ((b.block w.heap.size a5.out).trans f.heap)
   obtain⟨o,r0,r1,r2,r3,f0,f1,f2,f3⟩:=aB ((b.block (w.heap.size+1) (ZL f.res)).trans f.res)
   obtain⟨c4,b9,b8,b7,b6,_⟩:=aB h6
   have Y:=d.symm
   clear d i h6 j u b p0 p1 p2 p3 X W V U
   go_wp2_with fail
   obtain⟨H,F⟩:=gY o.out (.int .i64 k.major) (.int .i64 k.minor) (.slice k.eA k.ex.length k.eC) (.slice A1 L.length c1)
   refine bodyPost_ret (results_cell_tmp rfl _ _ (w.heap.size+1) 39 _ (0,0) _ rfl H Tryz.underlying39 rfl Tryz.RP) rfl ?_
   have c2:bI 0 l=(L,q):=by rw[f.pack,HN.out];simp
   rw[c2]
   have E:=aU.other ⟨0,0,none,0,0,none,0,0,o.out⟩ F (f.ok.below I.out)
   have G:=F.kp o.out (ts:=[39]) (by simp)
   exact⟨⟨A1,c1,rfl,E,f.own.imp id fun h=>own_kp (aO h I.out) G (by decide)⟩,S.trans ((F.below (GY2 (ZL o.out))).mono (by omega))⟩
  |some L'=>
   obtain⟨n1,n2⟩:=xS p.r16 g
   have hp:=p.pack
   rw[n2]at hp
   have c3:q+1<=(bI 0 l).2:=by have e:=congrArg Prod.snd hp;simp only at e;omega
   have c6:=Hp (show bI 0 l=((bI 0 L').1,(bI 0 L').2+(q+1)) by rw[hp];simp;omega)
   have c7:=Hp n1
   have a7:=rM g
   have b4:=Hp a7
   have v:L.length=L'.length:=by have:=kL b4.out;omega
   rw[g]at Q
   simp only[Option.getD_some,Option.isSome_some]at Q
   rw[v]at Q
   have d2:=Hp v
   clear p g hq n1 n2 hp N a7 v
   go_wp2_with fail
   refine(Q.out).mono ?_;rintro e r ⟨⟨B,C,rfl,u⟩,j⟩
   obtain⟨J,d⟩:=Nm (r.alloc (.cells #[.int .i64 k.major,.int .i64 k.minor,.slice k.eA k.ex.length k.eC,.slice B L'.length C] 39))
   have i:Below r.heap.size r J:=d▸ZB
   have h6:J.heap[r.heap.size]? =some (.cells #[.int .i64 k.major,.int .i64 k.minor,.slice k.eA k.ex.length k.eC,.slice B L'.length C] 39 (0,0)):=by rw[d];exact heap_alloc_new r _
   have b:=j.trans (i.mono j.size)
   have S:=Hp (f.bel.trans (b.mono f.bel.size))
   have I:=Hp b
   have R:=Hp (show aP J wr.heap.size (.slice B L'.length C) L' from aO u i)
   obtain⟨z,a0,a1,a2,a3,b0,b1,b2,b3⟩:=aB ((b.block w.heap.size a5.out).trans f.heap)
   obtain⟨o,r0,r1,r2,r3,f0,f1,f2,f3⟩:=aB ((b.block (w.heap.size+1) (ZL f.res)).trans f.res)
   obtain⟨c4,b9,b8,b7,b6,_⟩:=aB h6
   have Y:=d.symm
   clear d i h6 j u b p0 p1 p2 p3 X W V U
   go_wp2_with fail
   obtain⟨H,F⟩:=gY z.out (.int .i64 k.major) (.int .i64 k.minor) (.slice k.eA k.ex.length k.eC) (.slice B L'.length C)
   have Z:=(F.block (w.heap.size+1) (ZL o.out) (by omega)).trans o.out
   have G:=F.kp z.out (ts:=[39]) (by simp)
   have K:=own_kp R.out G (by decide)
   have t:L'.map (·.m)=L.map (·.m):=b4.out
   have M:aU J B L':=Pg R.out t f.ok I.out
   have E:=aU.other ⟨_,_,_,_,_,_,_,_,z.out⟩ F M
   have O:=S.trans (F.below (GY2 (ZL z.out)))
   have a9:=Hp (show Aw w k A c l (q+1) B L' C _ from⟨H,Z,E,c7.out,t.trans f.same,c6.out,O,.inr (RH K f.bel.size)⟩)
   clear H F Z G K M E O
   go_roundw
   case rel=>exact⟨q+1,B,L',C,by go_num,c3,a9.out⟩
   case measure=>(simp[intOf];try omega)
end
end Go.Proofs.YtjiedaialianmaaGreat
