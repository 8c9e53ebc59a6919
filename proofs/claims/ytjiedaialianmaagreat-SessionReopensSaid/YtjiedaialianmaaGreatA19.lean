import Derived.Test.YtjiedaialianmaaGreatA10
import Derived.Test.YtjiedaialianmaaGreatA16
import Derived.Test.YtjiedaialianmaaGreatA17
set_option maxRecDepth 100000
set_option maxHeartbeats 8000000
namespace Go.Proofs.YtjiedaialianmaaGreat
section
open Go.RowKit Go.Lib
structure UQ (W:World)(base:Nat)(k:Krn)(A:Option Addr)(l:List Plc)(c:Nat)(K:Krn)(L:List Plc):Prop where
 own:jS W base k A l c
 RU:k.bare=K.bare
 mods:aD l=aD L
structure KA (w w2:World)(bp base q:Nat)(k1:Krn)(A1:Option Addr)(c1:Nat)(l1 L:List Plc)(W:World):Prop where
 heap:W.heap[bp]? =some (.cells #[.int .i64 k1.major,.int .i64 k1.minor,.slice k1.eA k1.ex.length k1.eC,.slice A1 L.length c1] 182 (0,0))
 row:aP W base (.slice A1 L.length c1) L
 r16:bW 0 L
 same:L.map (·.m)=l1.map (·.m)
 pack:bI 0 l1=((bI 0 L).1,(bI 0 L).2+q)
 kp:Kp [83] w2 W
 bel:Below w.heap.size w W
 size:base<=W.heap.size
theorem aB {W:World}{b:Nat}{v0 v1 v2 v3:Value}{t:TypeId}(h:W.heap[b]? =some (.cells #[v0,v1,v2,v3] t (0,0))):
  Hid (W.heap[b]? =some (.cells #[v0,v1,v2,v3] t (0,0)))/\W.cell? ⟨b,0,none⟩=some v0/\W.cell? ⟨b,1,none⟩=some v1/\W.cell? ⟨b,2,none⟩=some v2/\W.cell? ⟨b,3,none⟩=some v3/\W.frozen? ⟨b,0,none⟩=false/\W.frozen? ⟨b,1,none⟩=false/\W.frozen? ⟨b,2,none⟩=false/\W.frozen? ⟨b,3,none⟩=false:=
 ⟨Hp h,heap_cell h 0,heap_cell h 1,heap_cell h 2,heap_cell h 3,heap_free h 0,heap_free h 1,heap_free h 2,heap_free h 3⟩
theorem FP (k:Krn)(A:Option Addr)(c:Nat)(l:List Plc)(w:World)(hk:k.ok w)(h:aU w A l)(hm:∀x∈l,aL x.m=0)(hr:bW 0 l)(h8:l.length<=8)(hx8:k.ex.length<=1000000):
  Calls Tryz.prog 123 #[rgV k A l c] w fun e w'=>(∃k' A' l' c',e=.returned (.tuple #[rgV k' A' l' c',.int .i64 (bI 0 l).2])/\UQ w' w.heap.size k' A' l' c' k (bI 0 l).1)/\Below w.heap.size w w':=by
 obtain⟨w0,hw0⟩:=Nm (w.alloc (.cells #[.int .i64 k.major,.int .i64 k.minor,.slice k.eA k.ex.length k.eC,.slice A l.length c] 39))
 obtain⟨g0,g1,g2,g3,hz0,hb0⟩:=oJ hw0
 obtain⟨x0,hx0⟩:=Nm (w0.alloc (.cells #[.int .i64 0,.int .i64 0,.slice none 0 0,.slice none 0 0] 39))
 have hbx:Below w0.heap.size w0 x0:=hx0▸ZB
 have hzx:x0.heap.size=w.heap.size+2:=by rw[hx0];simp;omega
 have hR0:x0.heap[w.heap.size+1]? =some (.cells #[.int .i64 0,.int .i64 0,.slice none 0 0,.slice none 0 0] 39 (0,0)):=by rw[hx0,<-hz0];exact heap_alloc_new w0 _
 have k0:=(hbx.cell (p:=⟨w.heap.size,0,none⟩) (by simp;omega)).trans g0
 have k1:=(hbx.cell (p:=⟨w.heap.size,1,none⟩) (by simp;omega)).trans g1
 have k2:=(hbx.cell (p:=⟨w.heap.size,2,none⟩) (by simp;omega)).trans g2
 have k3:=(hbx.cell (p:=⟨w.heap.size,3,none⟩) (by simp;omega)).trans g3
 have HX:=Hp (hb0.trans (hbx.mono hb0.size))
 have HR0:=Hp hR0
 have HZX:=Hp hzx
 have HM:=Hp hm
 have H16:=Hp hr
 have c1:=Hp (fun W(hb:Below w.heap.size w W)=>U8 k A c l W (hk.below hb) (h.below hb) hm h8 hx8)
 have hw0':=hw0.symm
 have hx0':=hx0.symm
 clear hw0 hx0 hb0 hbx hk h g0 g1 g2 g3 hR0 hzx hm hr
 go_enter Tryz.func123,Tryz.ntmps123
 go_wp2_with fail
 refine(c1.out _ HX.out).mono ?_;rintro e w1 ⟨⟨k1',A1,l1,c1',rfl,hk1,hl1,hrg⟩,hb1⟩
 have hll:=nY hl1
 have HB1:=Hp (HX.trans (hb1.mono HX.size))
 obtain⟨w2,hw2⟩:=Nm (w1.alloc (.cells #[.int .i64 k1'.major,.int .i64 k1'.minor,.slice k1'.eA k1'.ex.length k1'.eC,.slice A1 l1.length c1'] 182))
 have hb2:Below w1.heap.size w1 w2:=hw2▸ZB
 have h2:w2.heap[w1.heap.size]? =some (.cells #[.int .i64 k1'.major,.int .i64 k1'.minor,.slice k1'.eA k1'.ex.length k1'.eC,.slice A1 l1.length c1'] 182 (0,0)):=by rw[hw2];exact heap_alloc_new w1 _
 have hs1:=hb1.size
 have HRG:=Hp (hrg.below hb2)
 have HL1:=Hp hl1
 have HK1:=Hp hk1
 have HRES:=Hp ((hb2.block (w.heap.size+1) (GY0 (ZL HR0) hs1)).trans ((hb1.block (w.heap.size+1) (ZL HR0)).trans HR0))
 have HI0:=Hp (show KA w w2 w1.heap.size x0.heap.size 0 k1' A1 c1' l1 l1 w2 from
  ⟨h2,HRG.mods.row,Jk hl1.symm H16.out,rfl,rfl,Kp.refl _ _,HB1.trans (hb2.mono HB1.size),GY1 hs1 hb2.size⟩)
 have HT:=Hp (MK hl1 (n:=256) fun x hx=>(aY (HM.out x hx)).2.2.1)
 have H8:=Hp (show l1.length<=8 by omega)
 have HLE:=Hp (FK (l:=l1) (a:=0))
 have hw2':=hw2.symm
 have HW2:=Hp hw2'
 clear hb1 hrg hw2 hb2 h2 hs1 hl1 hk1 k0 k1 k2 k3 hll
 go_wp2_with fail
 go_loopw [5] (fun n wr=>∃(q:Nat)(L:List Plc),n=.int .i64 q/\q<=(bI 0 l1).2/\KA w w2 w1.heap.size x0.heap.size q k1' A1 c1' l1 L wr) (fun n _=>(bI 0 l1).2+1 -(intOf n).toNat)
 case atStart=>exact⟨0,l1,rfl,Nat.zero_le _,HI0.out⟩
 case round=>
  obtain⟨q,L,rfl,hq,hI⟩:=hrel
  have HI:=Hp hI
  have hlen:=kL hI.same
  have cS:=Hp (Ip w1.heap.size x0.heap.size k1'.major k1'.minor (.slice k1'.eA k1'.ex.length k1'.eC) A1 c1' L wr hI.heap hI.row hI.size (LW hI.same HT.out) hI.r16 (by have:=H8.out;omega))
  have HQ:=Hp hq
  have hq8:q<=8:=by have:=HLE.out;have:=H8.out;omega
  clear hlen
  cases hst:Rj 0 L with
  |none=>
   have HN:=Hp (Uh hI.r16 hst)
   rw[hst]at cS
   have HKP:=Hp hI.kp
   clear hI hst hq
   go_wp2_with (go_at_call 122;refine(cS.out).mono ?_;rintro e w5 ⟨rfl,ho5,hk5,hb5⟩;have HO5:=Hp ho5;have HK5:=Hp hk5;have HB5:=Hp hb5;obtain⟨HP5,p0,p1,p2,p3,_⟩:=aB (hk5 _ _ _ _ HI.heap (by decide));obtain⟨HR5,r0,r1,r2,r3,f0,f1,f2,f3⟩:=aB (hk5 _ _ _ _ (HKP.out _ _ _ _ HRES.out (by decide)) (by decide));clear ho5 hk5 hb5)
   obtain⟨hg,ho⟩:=gY HR5.out (.int .i64 k1'.major) (.int .i64 k1'.minor) (.slice k1'.eA k1'.ex.length k1'.eC) (.slice A1 L.length c1')
   refine bodyPost_ret (results_cell_tmp rfl _ _ (w.heap.size+1) 39 _ (0,0) _ rfl hg Tryz.underlying39 rfl Tryz.RP) rfl ?_
   have hkr:=ho.kp HR5.out (ts:=[83,39]) (by simp)
   have hkk:Kp [83,39] w2 _:=((HKP.mono (ts':=[83,39]) (by simp)).trans (HK5.mono (by simp))).trans hkr
   have hkr':=ho.kp HR5.out (ts:=[39]) (by simp)
   have hbase:w.heap.size<=x0.heap.size:=by have:=HZX.out;omega
   have hpk:bI 0 l1=(L,q):=by rw[HI.pack,HN.out];simp
   obtain⟨j1,j2⟩:=EG HL1.out 0
   rw[hpk]at j1 j2
   refine⟨⟨k1',A1,L,c1',by rw[<-j2];rfl,⟨⟨RH (own_kp HRG.ex hkk (by decide)) hbase,⟨RH (own_kp HO5.out hkr' (by decide)) hbase,fun x hx=>?_⟩⟩,HK1.out,j1⟩⟩,?_⟩
   ·obtain⟨y,hy,e⟩:=oF HI.same.symm hx
    rw[<-e]
    exact((HRG.mods.each y hy).kp hkk (by decide) (by decide) (by decide)).le hbase
   ·exact(HI.bel.trans (HB5.mono hbase)).trans ((ho.below (GY2 (ZL HR5.out))).mono (by omega))
  |some L'=>
   obtain⟨n1,n2⟩:=xS hI.r16 hst
   have HMS:=Hp (rM hst)
   have HN1:=Hp n1
   have HN2:=Hp n2
   rw[hst]at cS
   have hp:=hI.pack
   rw[n2]at hp
   have hle:q+1<=(bI 0 l1).2:=by have e:=congrArg Prod.snd hp;simp only at e;omega
   have HPK:=Hp (show bI 0 l1=((bI 0 L').1,(bI 0 L').2+(q+1)) by rw[hp];simp;omega)
   have HLL:=Hp (show L.length=L'.length from(kL HMS.out).symm)
   clear hI hst hq n1 n2 hp
   go_wp2_with (go_at_call 122;refine(cS.out).mono ?_;rintro e w5 ⟨rfl,ho5,hk5,hb5⟩;have HO5:=Hp ho5;have HK5:=Hp hk5;have HB5:=Hp hb5;clear ho5 hk5 hb5)
   go_roundw
   case rel=>
    have hh:=HK5.out _ _ _ _ HI.heap (by decide)
    have hbase:w.heap.size<=x0.heap.size:=by have:=HZX.out;omega
    have ho:=HO5.out
    rw[HLL.out]at hh ho
    exact⟨q+1,L',by go_num,hle,⟨hh,ho,HN1.out,HMS.trans HI.same,HPK.out,HI.kp.trans HK5.out,HI.bel.trans (HB5.mono hbase),GY1 HI.size HB5.size⟩⟩
   case measure=>(simp[intOf];try omega)
end
section
open Go.RowKit Go.Lib
theorem dR {P:Program}{fn:Func}{p u v:Tmp}{ty:TypeId}(h:fn.results=#[.cell p ty,.tmp u,.tmp v])(tmps:Array Value)(w:World)(g:Nat)(t:TypeId)(cs:Array Value)(fr:Nat×Nat)(d:TypeDesc)
  (hp:tmps.getD p undef=.pointer (some ⟨g,0,none⟩)) (hg:w.heap[g]? =some (.cells cs t fr))
  (hu:P.underlying ty=some d) (hd:(match d with| .struct _| .array _ _=>true|_=>false)=true) (hi:(P.info? ty).map (·.size)=some cs.size):
  (results fn tmps).run P w=.ok (.tuple #[.agg cs,tmps.getD u undef,tmps.getD v undef]) w:=by
 have hp':tmps[p]?.getD undef=.pointer (some ⟨g,0,none⟩):=by simpa using hp
 simp[results,h,hp',asAddr,run_loadVar_row w g t ty cs fr d hg hu hd hi]
theorem EC {k:Krn}(h:bJ k=0):k.ex.length<=1000000:=by
 unfold bJ at h
 split at h
 ·omega
 ·split at h
  ·omega
  ·omega
theorem oL {k:Krn}{l:List Plc}(h:aZ k l=0):(∀x∈l,aL x.m=0)/\bW 0 l/\l.length<=8/\k.ex.length<=1000000:=by
 have h1:=(Sz h).1
 obtain⟨k1,k2,k3,_⟩:=dM h1
 have hr:=cZ k2
 exact⟨fun x hx=>(hr.2.1 x hx).1,hr.2.2,hr.1,EC k1⟩
def wK (E:Int)(k:Krn):Krn:=if E≠0 then Rk else k
def wL (E:Int)(l:List Plc):List Plc:=if E≠0 then[]else l
theorem wK0 (k:Krn):wK 0 k=k:=rfl
theorem wL0 (l:List Plc):wL 0 l=l:=rfl
theorem wKE {E:Int}(h:E≠0)(k:Krn):wK E k=Rk:=if_pos h
theorem wLE {E:Int}(h:E≠0)(l:List Plc):wL E l=[]:=if_pos h
theorem oI (W:World)(base:Nat){E:Int}(h:E≠0)(k:Krn)(l:List Plc):UQ W base Rk none [] 0 (wK E k) (wL E l):=by
 rw[wKE h,wLE h]
 exact⟨⟨World.ownsRow_nil _ _ _ _,⟨World.ownsRow_nil _ _ _ _,by simp⟩⟩,rfl,rfl⟩
end
section
open Go.RowKit Go.Lib
theorem BZ (A A':Option Addr)(c c':Nat)(l l':List Plc)(w:World)(h:aU w A l)(h':aU w A' l')(hs:aD l=aD l'):
  Calls Tryz.prog 85 #[.slice A l.length c,.slice A' l'.length c'] w fun e w'=>e=.returned (.bool true)/\Below w.heap.size w w':=by
 have hll:l'.length=l.length:=by have:=congrArg List.length hs;simpa using this.symm
 rw[hll]
 have hlen:=h.len
 unfold big at hlen
 have HP:=Hp h
 have HP':=Hp h'
 have HS:=Hp (show∀j(hj:j<l.length)(hj':j<l'.length),l[j].m.bare=l'[j].m.bare/\l[j].first=l'[j].first from fun j hj hj'=>by
  have e:(aD l)[j]'(by simpa using hj)=(aD l')[j]'(by simpa using hj'):=by simp only[hs]
  simp only[List.getElem_map]at e
  exact⟨congrArg Plc.m e,by have:=congrArg Plc.first e;exact this⟩)
 have HLL:=Hp hll
 clear h h' hs hll
 go_enter Tryz.func85,Tryz.ntmps85
 go_wp2_with fail
 go_loopw [5] (fun i wr=>∃j:Nat,j<=l.length/\i=.int .i64 j/\Below w.heap.size w wr) (fun i _=>l.length -(intOf i).toNat)
 case atStart=>exact⟨0,by omega,rfl,GZ4 _ _⟩
 case round=>
  obtain⟨j,hj,rfl,hb⟩:=hrel
  have HB:=Hp hb
  by_cases hlt:j<l.length
  ·have hlt':(j:Int)<l.length:=by omega
   have hlt2:j<l'.length:=by rw[HLL.out];exact hlt
   obtain⟨s1,s2⟩:=HS.out j hlt hlt2
   obtain⟨ad,rfl,hab,p0,p1,p2,p3,p4,p5,p6,p7⟩:=RS HP.row hb j hlt
   obtain⟨bd,rfl,hbb,q0,q1,q2,q3,q4,q5,q6,q7⟩:=RS HP'.row hb j hlt2
   have hx:=HP.each l[j] (GZ9 _)
   have hx':=HP'.each l'[j] (GZ9 _)
   obtain⟨y,hy⟩:=Nm (l[j]'hlt)
   obtain⟨z,hz⟩:=Nm (l'[j]'hlt2)
   simp only[<-hy,<-hz]at s1 s2 p0 p1 p2 p3 p4 p5 p6 p7 q0 q1 q2 q3 q4 q5 q6 q7 hx hx'
   have cS:=Hp (fun W(hb:Below w.heap.size w W)=>qA y.m z.m W (uS s1) (hx.below hb) (hx'.below hb))
   have habr:(ad.add (j*8)).block<wr.heap.size:=by rw[aA];have:=hb.size;omega
   have hbbr:(bd.add (j*8)).block<wr.heap.size:=by rw[aA];have:=hb.size;omega
   rw[<-s2]at q7
   clear hb s1 s2 hx hx' hy hz hlt2
   have HCH:=Hp (show fI wr (fun W'=>Below wr.heap.size wr W'/\W'.cell? (ad.add (j*8))=some (.string y.m.name)/\W'.cell? ⟨(ad.add (j*8)).block,(ad.add (j*8)).off+1,none⟩=some (.int .i64 y.m.major)/\W'.cell? ⟨(ad.add (j*8)).block,(ad.add (j*8)).off+2,none⟩=some (.int .i64 y.m.minor)/\W'.cell? ⟨(ad.add (j*8)).block,(ad.add (j*8)).off+3,none⟩=some (.string y.m.text)/\W'.cell? ⟨(ad.add (j*8)).block,(ad.add (j*8)).off+4,none⟩=some (.slice y.m.eA y.m.ex.length y.m.eC)/\W'.cell? ⟨(ad.add (j*8)).block,(ad.add (j*8)).off+5,none⟩=some (.slice y.m.iA y.m.im.length y.m.iC)/\W'.cell? ⟨(ad.add (j*8)).block,(ad.add (j*8)).off+6,none⟩=some (.slice y.m.pA y.m.pa.length y.m.pC)/\W'.cell? ⟨(ad.add (j*8)).block,(ad.add (j*8)).off+7,none⟩=some (.int .i64 y.first)/\W'.cell? (bd.add (j*8))=some (.string z.m.name)/\W'.cell? ⟨(bd.add (j*8)).block,(bd.add (j*8)).off+1,none⟩=some (.int .i64 z.m.major)/\W'.cell? ⟨(bd.add (j*8)).block,(bd.add (j*8)).off+2,none⟩=some (.int .i64 z.m.minor)/\W'.cell? ⟨(bd.add (j*8)).block,(bd.add (j*8)).off+3,none⟩=some (.string z.m.text)/\W'.cell? ⟨(bd.add (j*8)).block,(bd.add (j*8)).off+4,none⟩=some (.slice z.m.eA z.m.ex.length z.m.eC)/\W'.cell? ⟨(bd.add (j*8)).block,(bd.add (j*8)).off+5,none⟩=some (.slice z.m.iA z.m.im.length z.m.iC)/\W'.cell? ⟨(bd.add (j*8)).block,(bd.add (j*8)).off+6,none⟩=some (.slice z.m.pA z.m.pa.length z.m.pC)/\W'.cell? ⟨(bd.add (j*8)).block,(bd.add (j*8)).off+7,none⟩=some (.int .i64 y.first)) from dE (by repeat' first|(with_reducible exact bC.cell (by first|omega|(simp;omega)|(simp only[aA];omega)))|refine bC.and ?_ ?_))
   have HC0:=Hp (HCH.now ⟨GZ4 _ _,by assumption,by assumption,by assumption,by assumption,by assumption,by assumption,by assumption,by assumption,by assumption,by assumption,by assumption,by assumption,by assumption,by assumption,by assumption,by assumption⟩)
   have HCD:=Hp HCH.D
   have HCS:=Hp HCH.S
   have HCA:=Hp HCH.A
   have HCX:=Hp HCH.X
   have HCL:=Hp HCH.L
   go_wp2_with fail
   go_region_held3 (fun W'=>Below wr.heap.size wr W'/\W'.cell? (ad.add (j*8))=some (.string y.m.name)/\W'.cell? ⟨(ad.add (j*8)).block,(ad.add (j*8)).off+1,none⟩=some (.int .i64 y.m.major)/\W'.cell? ⟨(ad.add (j*8)).block,(ad.add (j*8)).off+2,none⟩=some (.int .i64 y.m.minor)/\W'.cell? ⟨(ad.add (j*8)).block,(ad.add (j*8)).off+3,none⟩=some (.string y.m.text)/\W'.cell? ⟨(ad.add (j*8)).block,(ad.add (j*8)).off+4,none⟩=some (.slice y.m.eA y.m.ex.length y.m.eC)/\W'.cell? ⟨(ad.add (j*8)).block,(ad.add (j*8)).off+5,none⟩=some (.slice y.m.iA y.m.im.length y.m.iC)/\W'.cell? ⟨(ad.add (j*8)).block,(ad.add (j*8)).off+6,none⟩=some (.slice y.m.pA y.m.pa.length y.m.pC)/\W'.cell? ⟨(ad.add (j*8)).block,(ad.add (j*8)).off+7,none⟩=some (.int .i64 y.first)/\W'.cell? (bd.add (j*8))=some (.string z.m.name)/\W'.cell? ⟨(bd.add (j*8)).block,(bd.add (j*8)).off+1,none⟩=some (.int .i64 z.m.major)/\W'.cell? ⟨(bd.add (j*8)).block,(bd.add (j*8)).off+2,none⟩=some (.int .i64 z.m.minor)/\W'.cell? ⟨(bd.add (j*8)).block,(bd.add (j*8)).off+3,none⟩=some (.string z.m.text)/\W'.cell? ⟨(bd.add (j*8)).block,(bd.add (j*8)).off+4,none⟩=some (.slice z.m.eA z.m.ex.length z.m.eC)/\W'.cell? ⟨(bd.add (j*8)).block,(bd.add (j*8)).off+5,none⟩=some (.slice z.m.iA z.m.im.length z.m.iC)/\W'.cell? ⟨(bd.add (j*8)).block,(bd.add (j*8)).off+6,none⟩=some (.slice z.m.pA z.m.pa.length z.m.pC)/\W'.cell? ⟨(bd.add (j*8)).block,(bd.add (j*8)).off+7,none⟩=some (.int .i64 y.first)) (first|exact HC0.out|exact HCD.out _ HC0.out|exact HCS.out _ _ (by assumption) (by assumption)|exact HCS.out _ _ HC0.out (by assumption)|exact HCS.out _ _ (HCD.out _ HC0.out) (by assumption)|exact HCS.out _ _ (HCD.out _ (by assumption)) (by assumption)|exact HCD.out _ (by assumption)|exact HCA.out _ _ (by assumption)|exact HCA.out _ _ HC0.out|exact HCA.out _ _ (HCD.out _ HC0.out)|exact HCD.out _ (HCA.out _ _ (by assumption))|exact HCA.out _ _ (HCS.out _ _ HC0.out (by assumption))|exact HCA.out _ _ (HCS.out _ _ (HCD.out _ HC0.out) (by assumption))|exact HCX.out _ _ _ _ (GZ3 _) (by assumption)|exact HCX.out _ _ _ _ (GZ3 _) (HCS.out _ _ (HCA.out _ _ HC0.out) (by assumption))|exact HCX.out _ _ _ _ (GZ3 _) (HCS.out _ _ (HCD.out _ (HCA.out _ _ HC0.out)) (by assumption))|assumption) (first|(go_at_call 51;(with_reducible refine(cS.out _ (HB.out.trans ((HCL.out _ (by assumption)).mono HB.out.size))).mono ?_);rintro e w5 ⟨rfl,hb5⟩))
   have HB5:=Hp (HB.trans ((HCL.out _ (by assumption)).mono HB.size))
   go_wp2_with fail
   go_roundw
   case rel=>exact⟨j+1,by omega,by go_num,HB5.out⟩
   case measure=>(simp[intOf];try omega)
  ·go_wp2_with fail
   go_ret
   exact⟨rfl,HB.out⟩
theorem Rw (k k':Krn)(A A':Option Addr)(c c':Nat)(l l':List Plc)(w:World)(hk:k.ok w)(h:aU w A l)(hk':k'.ok w)(h':aU w A' l')(hs:k.bare=k'.bare)(hl:aD l=aD l'):
  Calls Tryz.prog 22 #[rgV k A l c,rgV k' A' l' c'] w fun e w'=>e=.returned (.bool true)/\Below w.heap.size w w':=by
 obtain⟨mj,mn,ex,eA,eC⟩:=k
 obtain⟨mj',mn',ex',eA',eC'⟩:=k'
 unfold Krn.bare at hs
 injection hs with h1 h2 h3
 subst h1 h2 h3
 obtain⟨w0,hw0⟩:=Nm (w.alloc (.cells #[.int .i64 mj,.int .i64 mn,.slice eA ex.length eC,.slice A l.length c] 39))
 obtain⟨g0,g1,g2,g3,hz0,hb0⟩:=oJ hw0
 obtain⟨x0,hx0⟩:=Nm (w0.alloc (.cells #[.int .i64 mj,.int .i64 mn,.slice eA' ex.length eC',.slice A' l'.length c'] 39))
 obtain⟨f0,f1,f2,f3,hzx,hbx⟩:=oJ hx0
 rw[hz0]at f0 f1 f2 f3
 have k0:=(hbx.cell (p:=⟨w.heap.size,0,none⟩) (by simp;omega)).trans g0
 have k1:=(hbx.cell (p:=⟨w.heap.size,1,none⟩) (by simp;omega)).trans g1
 have k2:=(hbx.cell (p:=⟨w.heap.size,2,none⟩) (by simp;omega)).trans g2
 have k3:=(hbx.cell (p:=⟨w.heap.size,3,none⟩) (by simp;omega)).trans g3
 have HX:=Hp (hb0.trans (hbx.mono hb0.size))
 have hz1:w.heap.size<x0.heap.size:=by omega
 have hz2:w.heap.size+1<x0.heap.size:=by omega
 have c1:=Hp (fun W(hb:Below w.heap.size w W)=>mE eA eA' eC eC' ex W ((hk.below hb).ex.1) ((hk'.below hb).ex.1) hk.ex.2.1)
 have c2:=Hp (fun W(hb:Below w.heap.size w W)=>BZ A A' c c' l l' W (h.below hb) (h'.below hb) hl)
 have hw0':=hw0.symm
 have hx0':=hx0.symm
 clear hw0 hx0 hb0 hbx hk h hk' h' hl hzx g0 g1 g2 g3
 go_enter Tryz.func22,Tryz.ntmps22
 go_wp2_with fail
 refine(c1.out _ HX.out).mono ?_;rintro e w1 ⟨rfl,hb1⟩
 have m3:=(hb1.cell (p:=⟨w.heap.size,3,none⟩) hz1).trans k3
 have n3:=(hb1.cell (p:=⟨w.heap.size+1,3,none⟩) hz2).trans f3
 have HB1:=Hp (HX.trans (hb1.mono HX.size))
 clear hb1 k0 k1 k2 k3 f0 f1 f2 f3
 go_wp2_with fail
 refine(c2.out _ HB1.out).mono ?_;rintro e w2 ⟨rfl,hb2⟩
 have HB2:=Hp (HB1.trans (hb2.mono HB1.size))
 clear hb2
 go_wp2_with fail
 go_ret
 exact⟨by simp,HB2.out⟩
end
section
open Go.RowKit Go.Lib
theorem UQ.QB {W W0:World}{base:Nat}{k K:Krn}{A A0:Option Addr}{l L L0:List Plc}{c:Nat}(h:UQ W base k A l c K L)(hK:K.ok W0)(hL:aU W0 A0 L0)(hm:L.map (·.m)=L0.map (·.m)):k.ok W/\aU W A l:=by
 refine⟨h.own.okK h.RU hK,h.own.mods.ok rfl ?_ hL⟩
 have e1:l.map (fun x=>x.m.bare)=(aD l).map (·.m):=by rw[List.map_map];rfl
 have e2:L0.map (fun x=>x.m.bare)=(L0.map (·.m)).map Mod.bare:=by rw[List.map_map];rfl
 rw[e1,h.mods,e2,<-hm,List.map_map,List.map_map];rfl
end
section
open Go.RowKit Go.Lib
def dL (W:World)(k:Krn)(A:Option Addr)(l:List Plc):Prop:=k.ok W/\aU W A l
theorem dL.below {W W':World}{k:Krn}{A:Option Addr}{l:List Plc}(h:dL W k A l)(hb:Below W.heap.size W W'):dL W' k A l:=⟨h.1.below hb,h.2.below hb⟩
theorem dL.other {W W':World}{k:Krn}{A:Option Addr}{l:List Plc}{b:Nat}{t:TypeId}(h:dL W k A l)(hr:zI W b t)(ho:Only b W W'):dL W' k A l:=⟨Krn.ok.other hr ho h.1,aU.other hr ho h.2⟩
theorem aF {W W':World}{b:Nat}{o:Obj}(hb:Below W.heap.size W W')(h:W.heap[b]? =some o):W'.heap[b]? =some o:=(hb.block b (ZL h)).trans h
end
end Go.Proofs.YtjiedaialianmaaGreat
