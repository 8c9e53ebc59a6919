import Derived.Test.YtjiedaialianmaaGreatA19
import Derived.Test.YtjiedaialianmaaGreatA21
set_option maxRecDepth 100000
set_option maxHeartbeats 8000000
namespace Go.Proofs.YtjiedaialianmaaGreat
section
open Go.RowKit Go.Lib
structure UQ (W:World)(base:Nat)(k:Krn)(A:Option Addr)(l:List Plc)(c:Nat)(K:Krn)(L:List Plc):Prop where
 own:jS W base k A l c
 RU:k.bare=K.bare
 mods:aD l=aD L
structure KA (w w2:World)(bp base q:Nat)(k1:Krn)(A1:Option Addr)(c1:Nat)(l1 L:List Plc)(W:World):Prop where
 heap:W.heap[bp]? =some (.cells #[.int .i64 k1.major,.int .i64 k1.minor,.slice k1.eA k1.ex.length k1.eC,.slice A1 L.length c1] 182 (0,0))
 row:aP W base (.slice A1 L.length c1) L
 r16:bW 0 L
 same:L.map (·.m)=l1.map (·.m)
 pack:bI 0 l1=((bI 0 L).1,(bI 0 L).2+q)
 kp:Kp [83] w2 W
 bel:Below w.heap.size w W
 size:base<=W.heap.size
theorem aB {W:World}{b:Nat}{e d c a:Value}{t:TypeId}(h:W.heap[b]? =some (.cells #[e,d,c,a] t (0,0))):
  Hid (W.heap[b]? =some (.cells #[e,d,c,a] t (0,0)))/\W.cell? ⟨b,0,none⟩=some e/\W.cell? ⟨b,1,none⟩=some d/\W.cell? ⟨b,2,none⟩=some c/\W.cell? ⟨b,3,none⟩=some a/\W.frozen? ⟨b,0,none⟩=false/\W.frozen? ⟨b,1,none⟩=false/\W.frozen? ⟨b,2,none⟩=false/\W.frozen? ⟨b,3,none⟩=false:=
 ⟨Hp h,heap_cell h 0,heap_cell h 1,heap_cell h 2,heap_cell h 3,heap_free h 0,heap_free h 1,heap_free h 2,heap_free h 3⟩
theorem FP (k:Krn)(A:Option Addr)(c:Nat)(l:List Plc)(w:World)(hk:k.ok w)(h:aU w A l)(hm:∀x∈l,aL x.m=0)(hr:bW 0 l)(h8:l.length<=8)(a8:k.ex.length<=1000000):
  Calls Tryz.prog 123 #[rgV k A l c] w fun e w'=>(∃k' A' l' c',e=.returned (.tuple #[rgV k' A' l' c',.int .i64 (bI 0 l).2])/\UQ w' w.heap.size k' A' l' c' k (bI 0 l).1)/\Below w.heap.size w w':=by
 obtain⟨w0,J⟩:=Nm (w.alloc (.cells #[.int .i64 k.major,.int .i64 k.minor,.slice k.eA k.ex.length k.eC,.slice A l.length c] 39))
 obtain⟨g0,g1,g2,g3,a7,M⟩:=oJ J
 obtain⟨H,s⟩:=Nm (w0.alloc (.cells #[.int .i64 0,.int .i64 0,.slice none 0 0,.slice none 0 0] 39))
 have o:Below w0.heap.size w0 H:=s▸ZB
 have T:H.heap.size=w.heap.size+2:=by rw[s];simp;omega
 have a1:H.heap[w.heap.size+1]? =some (.cells #[.int .i64 0,.int .i64 0,.slice none 0 0,.slice none 0 0] 39 (0,0)):=by rw[s,<-a7];exact heap_alloc_new w0 _
 have k0:=(o.cell (p:=⟨w.heap.size,0,none⟩) (by simp;omega)).trans g0
 have k1:=(o.cell (p:=⟨w.heap.size,1,none⟩) (by simp;omega)).trans g1
 have k2:=(o.cell (p:=⟨w.heap.size,2,none⟩) (by simp;omega)).trans g2
 have k3:=(o.cell (p:=⟨w.heap.size,3,none⟩) (by simp;omega)).trans g3
 have HX:=Hp (M.trans (o.mono M.size))
 have O:=Hp a1
 have a2:=Hp T
 have HM:=Hp hm
 have c0:=Hp hr
 have c1:=Hp (fun W(hb:Below w.heap.size w W)=>U8 k A c l W (hk.below hb) (h.below hb) hm h8 a8)
 have c3:=J.symm
 have c2:=s.symm
 clear J s M o hk h g0 g1 g2 g3 a1 T hm hr
 go_enter Tryz.func123,Tryz.ntmps123
 go_wp2_with fail
 refine(c1.out _ HX.out).mono ?_;rintro e I ⟨⟨b,Q,j,i,rfl,a0,u,V⟩,C⟩
 have b0:=nY u
 have a6:=Hp (HX.trans (C.mono HX.size))
 obtain⟨R,B⟩:=Nm (I.alloc (.cells #[.int .i64 b.major,.int .i64 b.minor,.slice b.eA b.ex.length b.eC,.slice Q j.length i] 182))
 have z:Below I.heap.size I R:=B▸ZB
 have h2:R.heap[I.heap.size]? =some (.cells #[.int .i64 b.major,.int .i64 b.minor,.slice b.eA b.ex.length b.eC,.slice Q j.length i] 182 (0,0)):=by rw[B];exact heap_alloc_new I _
 have K:=C.size
 have N:=Hp (V.below z)
 have b7:=Hp u
 have b8:=Hp a0
 have a3:=Hp ((z.block (w.heap.size+1) (GY0 (ZL O) K)).trans ((C.block (w.heap.size+1) (ZL O)).trans O))
 have b9:=Hp (show KA w R I.heap.size H.heap.size 0 b Q i j j R from
  ⟨h2,N.mods.row,Jk u.symm c0.out,rfl,rfl,Kp.refl _ _,a6.trans (z.mono a6.size),GY1 K z.size⟩)
 have HT:=Hp (MK u (n:=256) fun x hx=>(aY (HM.out x hx)).2.2.1)
 have H8:=Hp (show j.length<=8 by omega)
 have b6:=Hp (FK (l:=j) (a:=0))
 have U:=B.symm
 have c5:=Hp U
 clear C V B z h2 K u a0 k0 k1 k2 k3 b0
 go_wp2_with fail
 go_loopw [5] (fun n wr=>∃(q:Nat)(L:List Plc),n=.int .i64 q/\q<=(bI 0 j).2/\KA w R I.heap.size H.heap.size q b Q i j L wr) (fun n _=>(bI 0 j).2+1 -(intOf n).toNat)
 case atStart=>exact⟨0,j,rfl,Nat.zero_le _,b9.out⟩
 case round=>
  obtain⟨q,L,rfl,hq,r⟩:=hrel
  have F:=Hp r
  have X:=kL r.same
  have cS:=Hp (Ip I.heap.size H.heap.size b.major b.minor (.slice b.eA b.ex.length b.eC) Q i L wr r.heap r.row r.size (LW r.same HT.out) r.r16 (by have:=H8.out;omega))
  have HQ:=Hp hq
  have c4:q<=8:=by have:=b6.out;have:=H8.out;omega
  clear X
  cases f:Rj 0 L with
  |none=>
   have HN:=Hp (Uh r.r16 f)
   rw[f]at cS
   have a5:=Hp r.kp
   clear r f hq
   go_wp2_with (go_at_call 122;refine(cS.out).mono ?_;rintro e w5 ⟨rfl,t,g,v⟩;have P:=Hp t;have E:=Hp g;have G:=Hp v;obtain⟨c6,p0,p1,p2,p3,_⟩:=aB (g _ _ _ _ F.heap (by decide));obtain⟨D,r0,r1,r2,r3,f0,f1,f2,f3⟩:=aB (g _ _ _ _ (a5.out _ _ _ _ a3.out (by decide)) (by decide));clear t g v)
   obtain⟨hg,S⟩:=gY D.out (.int .i64 b.major) (.int .i64 b.minor) (.slice b.eA b.ex.length b.eC) (.slice Q L.length i)
   refine bodyPost_ret (results_cell_tmp rfl _ _ (w.heap.size+1) 39 _ (0,0) _ rfl hg Tryz.underlying39 rfl Tryz.RP) rfl ?_
   have b2:=S.kp D.out (ts:=[83,39]) (by simp)
   have Z:Kp [83,39] R _:=((a5.mono (ts':=[83,39]) (by simp)).trans (E.mono (by simp))).trans b2
   have Y:=S.kp D.out (ts:=[39]) (by simp)
   have d:w.heap.size<=H.heap.size:=by have:=a2.out;omega
   have a9:bI 0 j=(L,q):=by rw[F.pack,HN.out];simp
   obtain⟨j1,j2⟩:=EG b7.out 0
   rw[a9]at j1 j2
   refine⟨⟨b,Q,L,i,by rw[<-j2];rfl,⟨⟨RH (own_kp N.ex Z (by decide)) d,⟨RH (own_kp P.out Y (by decide)) d,fun x hx=>?_⟩⟩,b8.out,j1⟩⟩,?_⟩
   ·obtain⟨y,hy,e⟩:=oF F.same.symm hx
    rw[<-e]
    exact((N.mods.each y hy).kp Z (by decide) (by decide) (by decide)).le d
   ·exact(F.bel.trans (G.mono d)).trans ((S.below (GY2 (ZL D.out))).mono (by omega))
  |some L'=>
   obtain⟨n1,n2⟩:=xS r.r16 f
   have a4:=Hp (rM f)
   have b4:=Hp n1
   have c7:=Hp n2
   rw[f]at cS
   have hp:=r.pack
   rw[n2]at hp
   have b1:q+1<=(bI 0 j).2:=by have e:=congrArg Prod.snd hp;simp only at e;omega
   have b3:=Hp (show bI 0 j=((bI 0 L').1,(bI 0 L').2+(q+1)) by rw[hp];simp;omega)
   have b5:=Hp (show L.length=L'.length from(kL a4.out).symm)
   clear r f hq n1 n2 hp
   go_wp2_with (go_at_call 122;refine(cS.out).mono ?_;rintro e w5 ⟨rfl,t,g,v⟩;have P:=Hp t;have E:=Hp g;have G:=Hp v;clear t g v)
   go_roundw
   case rel=>
    have hh:=E.out _ _ _ _ F.heap (by decide)
    have d:w.heap.size<=H.heap.size:=by have:=a2.out;omega
    have S:=P.out
    rw[b5.out]at hh S
    exact⟨q+1,L',by go_num,b1,⟨hh,S,b4.out,a4.trans F.same,b3.out,F.kp.trans E.out,F.bel.trans (G.mono d),GY1 F.size G.size⟩⟩
   case measure=>(simp[intOf];try omega)
end
section
open Go.RowKit Go.Lib
theorem dR {P:Program}{i:Func}{p u v:Tmp}{b:TypeId}(h:i.results=#[.cell p b,.tmp u,.tmp v])(a:Array Value)(w:World)(g:Nat)(t:TypeId)(c:Array Value)(f:Nat×Nat)(d:TypeDesc)
  (k:a.getD p undef=.pointer (some ⟨g,0,none⟩)) (m:w.heap[g]? =some (.cells c t f))
  (j:P.underlying b=some d) (n:(match d with| .struct _| .array _ _=>true|_=>false)=true) (l:(P.info? b).map (·.size)=some c.size):
  (results i a).run P w=.ok (.tuple #[.agg c,a.getD u undef,a.getD v undef]) w:=by
 have e:a[p]?.getD undef=.pointer (some ⟨g,0,none⟩):=by simpa using k
 simp[results,h,e,asAddr,run_loadVar_row w g t b c f d m j n l]
theorem EC {k:Krn}(h:bJ k=0):k.ex.length<=1000000:=by
 unfold bJ at h
 split at h
 ·omega
 ·split at h
  ·omega
  ·omega
theorem oL {k:Krn}{l:List Plc}(h:aZ k l=0):(∀x∈l,aL x.m=0)/\bW 0 l/\l.length<=8/\k.ex.length<=1000000:=by
 have e:=(Sz h).1
 obtain⟨c,b,f,_⟩:=dM e
 have a:=cZ b
 exact⟨fun x d=>(a.2.1 x d).1,a.2.2,a.1,EC c⟩
def wK (E:Int)(k:Krn):Krn:=if E≠0 then Rk else k
def wL (E:Int)(l:List Plc):List Plc:=if E≠0 then[]else l
theorem wK0 (k:Krn):wK 0 k=k:=rfl
theorem wL0 (l:List Plc):wL 0 l=l:=rfl
theorem wKE {E:Int}(h:E≠0)(k:Krn):wK E k=Rk:=if_pos h
theorem wLE {E:Int}(h:E≠0)(l:List Plc):wL E l=[]:=if_pos h
theorem oI (W:World)(a:Nat){E:Int}(h:E≠0)(k:Krn)(l:List Plc):UQ W a Rk none [] 0 (wK E k) (wL E l):=by
 rw[wKE h,wLE h]
 exact⟨⟨World.ownsRow_nil _ _ _ _,⟨World.ownsRow_nil _ _ _ _,by simp⟩⟩,rfl,rfl⟩
end
section
open Go.RowKit Go.Lib
theorem BZ (A Z:Option Addr)(c c':Nat)(l q:List Plc)(w:World)(h:aU w A l)(V:aU w Z q)(J:aD l=aD q):
  Calls Tryz.prog 85 #[.slice A l.length c,.slice Z q.length c'] w fun e w'=>e=.returned (.bool true)/\Below w.heap.size w w':=by
 have u:q.length=l.length:=by have:=congrArg List.length J;simpa using this.symm
 rw[u]
 have x:=h.len
 unfold big at x
 have Y:=Hp h
 have C:=Hp V
 have HS:=Hp (show∀j(K:j<l.length)(B:j<q.length),l[j].m.bare=q[j].m.bare/\l[j].first=q[j].first from fun j K B=>by
  have e:(aD l)[j]'(by simpa using K)=(aD q)[j]'(by simpa using B):=by simp only[J]
  simp only[List.getElem_map]at e
  exact⟨congrArg Plc.m e,by have:=congrArg Plc.first e;exact this⟩)
 have M:=Hp u
 clear h V J u
 go_enter Tryz.func85,Tryz.ntmps85
 go_wp2_with fail
 go_loopw [5] (fun i wr=>∃j:Nat,j<=l.length/\i=.int .i64 j/\Below w.heap.size w wr) (fun i _=>l.length -(intOf i).toNat)
 case atStart=>exact⟨0,by omega,rfl,GZ4 _ _⟩
 case round=>
  obtain⟨j,K,rfl,s⟩:=hrel
  have F:=Hp s
  by_cases r:j<l.length
  ·have R:(j:Int)<l.length:=by omega
   have o:j<q.length:=by rw[M.out];exact r
   obtain⟨H,G⟩:=HS.out j r o
   obtain⟨d,rfl,a2,p0,p1,p2,p3,p4,p5,p6,p7⟩:=RS Y.row s j r
   obtain⟨b,rfl,a0,q0,q1,q2,q3,q4,q5,q6,O⟩:=RS C.row s j o
   have I:=Y.each l[j] (GZ9 _)
   have t:=C.each q[j] (GZ9 _)
   obtain⟨y,Q⟩:=Nm (l[j]'r)
   obtain⟨z,P⟩:=Nm (q[j]'o)
   simp only[<-Q,<-P]at H G p0 p1 p2 p3 p4 p5 p6 p7 q0 q1 q2 q3 q4 q5 q6 O I t
   have cS:=Hp (fun W(s:Below w.heap.size w W)=>qA y.m z.m W (uS H) (I.below s) (t.below s))
   have U:(d.add (j*8)).block<wr.heap.size:=by rw[aA];have:=s.size;omega
   have T:(b.add (j*8)).block<wr.heap.size:=by rw[aA];have:=s.size;omega
   rw[<-G]at O
   clear s H G I t Q P o
   have p:=Hp (show fI wr (fun a=>Below wr.heap.size wr a/\a.cell? (d.add (j*8))=some (.string y.m.name)/\a.cell? ⟨(d.add (j*8)).block,(d.add (j*8)).off+1,none⟩=some (.int .i64 y.m.major)/\a.cell? ⟨(d.add (j*8)).block,(d.add (j*8)).off+2,none⟩=some (.int .i64 y.m.minor)/\a.cell? ⟨(d.add (j*8)).block,(d.add (j*8)).off+3,none⟩=some (.string y.m.text)/\a.cell? ⟨(d.add (j*8)).block,(d.add (j*8)).off+4,none⟩=some (.slice y.m.eA y.m.ex.length y.m.eC)/\a.cell? ⟨(d.add (j*8)).block,(d.add (j*8)).off+5,none⟩=some (.slice y.m.iA y.m.im.length y.m.iC)/\a.cell? ⟨(d.add (j*8)).block,(d.add (j*8)).off+6,none⟩=some (.slice y.m.pA y.m.pa.length y.m.pC)/\a.cell? ⟨(d.add (j*8)).block,(d.add (j*8)).off+7,none⟩=some (.int .i64 y.first)/\a.cell? (b.add (j*8))=some (.string z.m.name)/\a.cell? ⟨(b.add (j*8)).block,(b.add (j*8)).off+1,none⟩=some (.int .i64 z.m.major)/\a.cell? ⟨(b.add (j*8)).block,(b.add (j*8)).off+2,none⟩=some (.int .i64 z.m.minor)/\a.cell? ⟨(b.add (j*8)).block,(b.add (j*8)).off+3,none⟩=some (.string z.m.text)/\a.cell? ⟨(b.add (j*8)).block,(b.add (j*8)).off+4,none⟩=some (.slice z.m.eA z.m.ex.length z.m.eC)/\a.cell? ⟨(b.add (j*8)).block,(b.add (j*8)).off+5,none⟩=some (.slice z.m.iA z.m.im.length z.m.iC)/\a.cell? ⟨(b.add (j*8)).block,(b.add (j*8)).off+6,none⟩=some (.slice z.m.pA z.m.pa.length z.m.pC)/\a.cell? ⟨(b.add (j*8)).block,(b.add (j*8)).off+7,none⟩=some (.int .i64 y.first)) from dE (by repeat' first|(with_reducible exact bC.cell (by first|omega|(simp;omega)|(simp only[aA];omega)))|refine bC.and ?_ ?_))
   have f:=Hp (p.now ⟨GZ4 _ _,by assumption,by assumption,by assumption,by assumption,by assumption,by assumption,by assumption,by assumption,by assumption,by assumption,by assumption,by assumption,by assumption,by assumption,by assumption,by assumption⟩)
   have k:=Hp p.D
   have g:=Hp p.S
   have n:=Hp p.A
   have v:=Hp p.X
   have E:=Hp p.L
   go_wp2_with fail
   go_region_held3 (fun a=>Below wr.heap.size wr a/\a.cell? (d.add (j*8))=some (.string y.m.name)/\a.cell? ⟨(d.add (j*8)).block,(d.add (j*8)).off+1,none⟩=some (.int .i64 y.m.major)/\a.cell? ⟨(d.add (j*8)).block,(d.add (j*8)).off+2,none⟩=some (.int .i64 y.m.minor)/\a.cell? ⟨(d.add (j*8)).block,(d.add (j*8)).off+3,none⟩=some (.string y.m.text)/\a.cell? ⟨(d.add (j*8)).block,(d.add (j*8)).off+4,none⟩=some (.slice y.m.eA y.m.ex.length y.m.eC)/\a.cell? ⟨(d.add (j*8)).block,(d.add (j*8)).off+5,none⟩=some (.slice y.m.iA y.m.im.length y.m.iC)/\a.cell? ⟨(d.add (j*8)).block,(d.add (j*8)).off+6,none⟩=some (.slice y.m.pA y.m.pa.length y.m.pC)/\a.cell? ⟨(d.add (j*8)).block,(d.add (j*8)).off+7,none⟩=some (.int .i64 y.first)/\a.cell? (b.add (j*8))=some (.string z.m.name)/\a.cell? ⟨(b.add (j*8)).block,(b.add (j*8)).off+1,none⟩=some (.int .i64 z.m.major)/\a.cell? ⟨(b.add (j*8)).block,(b.add (j*8)).off+2,none⟩=some (.int .i64 z.m.minor)/\a.cell? ⟨(b.add (j*8)).block,(b.add (j*8)).off+3,none⟩=some (.string z.m.text)/\a.cell? ⟨(b.add (j*8)).block,(b.add (j*8)).off+4,none⟩=some (.slice z.m.eA z.m.ex.length z.m.eC)/\a.cell? ⟨(b.add (j*8)).block,(b.add (j*8)).off+5,none⟩=some (.slice z.m.iA z.m.im.length z.m.iC)/\a.cell? ⟨(b.add (j*8)).block,(b.add (j*8)).off+6,none⟩=some (.slice z.m.pA z.m.pa.length z.m.pC)/\a.cell? ⟨(b.add (j*8)).block,(b.add (j*8)).off+7,none⟩=some (.int .i64 y.first)) (first|exact f.out|exact k.out _ f.out|exact g.out _ _ (by assumption) (by assumption)|exact g.out _ _ f.out (by assumption)|exact g.out _ _ (k.out _ f.out) (by assumption)|exact g.out _ _ (k.out _ (by assumption)) (by assumption)|exact k.out _ (by assumption)|exact n.out _ _ (by assumption)|exact n.out _ _ f.out|exact n.out _ _ (k.out _ f.out)|exact k.out _ (n.out _ _ (by assumption))|exact n.out _ _ (g.out _ _ f.out (by assumption))|exact n.out _ _ (g.out _ _ (k.out _ f.out) (by assumption))|exact v.out _ _ _ _ (GZ3 _) (by assumption)|exact v.out _ _ _ _ (GZ3 _) (g.out _ _ (n.out _ _ f.out) (by assumption))|exact v.out _ _ _ _ (GZ3 _) (g.out _ _ (k.out _ (n.out _ _ f.out)) (by assumption))|assumption) (first|(go_at_call 51;(with_reducible refine(cS.out _ (F.out.trans ((E.out _ (by assumption)).mono F.out.size))).mono ?_);rintro e w5 ⟨rfl,a1⟩))
   have N:=Hp (F.trans ((E.out _ (by assumption)).mono F.size))
   go_wp2_with fail
   go_roundw
   case rel=>exact⟨j+1,by omega,by go_num,N.out⟩
   case measure=>(simp[intOf];try omega)
  ·go_wp2_with fail
   go_ret
   exact⟨rfl,F.out⟩
theorem Rw (k s:Krn)(A t:Option Addr)(c D:Nat)(l j:List Plc)(w:World)(z:k.ok w)(h:aU w A l)(m:s.ok w)(O:aU w t j)(M:k.bare=s.bare)(N:aD l=aD j):
  Calls Tryz.prog 22 #[rgV k A l c,rgV s t j D] w fun e w'=>e=.returned (.bool true)/\Below w.heap.size w w':=by
 obtain⟨I,H,C,Y,X⟩:=k
 obtain⟨a1,a0,a2,r,q⟩:=s
 unfold Krn.bare at M
 injection M with h1 h2 h3
 subst h1 h2 h3
 obtain⟨Z,f⟩:=Nm (w.alloc (.cells #[.int .i64 I,.int .i64 H,.slice Y C.length X,.slice A l.length c] 39))
 obtain⟨S,R,Q,P,y,g⟩:=oJ f
 obtain⟨G,d⟩:=Nm (Z.alloc (.cells #[.int .i64 I,.int .i64 H,.slice r C.length q,.slice t j.length D] 39))
 obtain⟨V,U,T,B,u,a⟩:=oJ d
 rw[y]at V U T B
 have k0:=(a.cell (p:=⟨w.heap.size,0,none⟩) (by simp;omega)).trans S
 have k1:=(a.cell (p:=⟨w.heap.size,1,none⟩) (by simp;omega)).trans R
 have k2:=(a.cell (p:=⟨w.heap.size,2,none⟩) (by simp;omega)).trans Q
 have J:=(a.cell (p:=⟨w.heap.size,3,none⟩) (by simp;omega)).trans P
 have E:=Hp (g.trans (a.mono g.size))
 have x:w.heap.size<G.heap.size:=by omega
 have v:w.heap.size+1<G.heap.size:=by omega
 have c1:=Hp (fun W(o:Below w.heap.size w W)=>mE Y r X q C W ((z.below o).ex.1) ((m.below o).ex.1) z.ex.2.1)
 have c2:=Hp (fun W(o:Below w.heap.size w W)=>BZ A t c D l j W (h.below o) (O.below o) N)
 have L:=f.symm
 have K:=d.symm
 clear f d g a z h m O N u S R Q P
 go_enter Tryz.func22,Tryz.ntmps22
 go_wp2_with fail
 refine(c1.out _ E.out).mono ?_;rintro e w1 ⟨rfl,b⟩
 have m3:=(b.cell (p:=⟨w.heap.size,3,none⟩) x).trans J
 have n3:=(b.cell (p:=⟨w.heap.size+1,3,none⟩) v).trans B
 have i:=Hp (E.trans (b.mono E.size))
 clear b k0 k1 k2 J V U T B
 go_wp2_with fail
 refine(c2.out _ i.out).mono ?_;rintro e w2 ⟨rfl,n⟩
 have F:=Hp (i.trans (n.mono i.size))
 clear n
 go_wp2_with fail
 go_ret
 exact⟨by simp,F.out⟩
end
section
open Go.RowKit Go.Lib
theorem UQ.QB {W d:World}{a:Nat}{k K:Krn}{A n:Option Addr}{l L b:List Plc}{c:Nat}(h:UQ W a k A l c K L)(g:K.ok d)(f:aU d n b)(e:L.map (·.m)=b.map (·.m)):k.ok W/\aU W A l:=by
 refine⟨h.own.okK h.RU g,h.own.mods.ok rfl ?_ f⟩
 have j:l.map (fun x=>x.m.bare)=(aD l).map (·.m):=by rw[List.map_map];rfl
 have i:b.map (fun x=>x.m.bare)=(b.map (·.m)).map Mod.bare:=by rw[List.map_map];rfl
 rw[j,h.mods,i,<-e,List.map_map,List.map_map];rfl
end
section
open Go.RowKit Go.Lib
def dL (W:World)(k:Krn)(A:Option Addr)(l:List Plc):Prop:=k.ok W/\aU W A l
theorem dL.below {W b:World}{k:Krn}{A:Option Addr}{l:List Plc}(h:dL W k A l)(a:Below W.heap.size W b):dL b k A l:=⟨h.1.below a,h.2.below a⟩
theorem dL.other {W d:World}{k:Krn}{A:Option Addr}{l:List Plc}{b:Nat}{t:TypeId}(h:dL W k A l)(a:zI W b t)(c:Only b W d):dL d k A l:=⟨Krn.ok.other a c h.1,aU.other a c h.2⟩
theorem aF {W a:World}{b:Nat}{o:Obj}(c:Below W.heap.size W a)(h:W.heap[b]? =some o):a.heap[b]? =some o:=(c.block b (ZL h)).trans h
end
end Go.Proofs.YtjiedaialianmaaGreat
