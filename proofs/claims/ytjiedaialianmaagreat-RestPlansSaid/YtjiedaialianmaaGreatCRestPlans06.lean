import Derived.Test.YtjiedaialianmaaGreatCRestPlans03
import Derived.Test.YtjiedaialianmaaGreatCRestPlans04
import Derived.Test.YtjiedaialianmaaGreatCRestPlans05
set_option maxRecDepth 100000
set_option maxHeartbeats 4000000
namespace Go.Proofs.YtjiedaialianmaaGreat
section
open Go.RowKit
theorem sameRuns_any (A s:Option Addr)(c y:Nat)(l:List Run)(w:World)(h:xD w A l)(q:xD w s l)(C:l.length<=100):
  Calls Tryz.prog 121 #[.slice A l.length c,.slice s l.length y] w fun e t=>e=.returned (.bool true)/\Below w.heap.size w t:=by
 have H:=Hp h
 have B:=Hp q
 clear h q
 go_enter Tryz.func121,Tryz.ntmps121
 go_wp2_with fail
 go_loopw [5] (fun i wr=>∃(j:Nat),j<=l.length/\i=.int .i64 j/\Below w.heap.size w wr) (fun i _=>l.length -(intOf i).toNat)
 case atStart=>exact⟨0,by omega,rfl,GZ4 _ _⟩
 case round=>
  obtain⟨j,D,rfl,b⟩:=hrel
  have r:=Hp b
  by_cases a:j<l.length
  ·have n:(j:Int)<l.length:=by omega
   obtain⟨E,rfl,x,v,u⟩:=JN H.out b j a
   obtain⟨z,rfl,p,g,d⟩:=JN B.out b j a
   obtain⟨f,o⟩:=Nm (l[j].first)
   obtain⟨m,k⟩:=Nm (l[j].many)
   rw[<-o]at v g
   rw[<-k]at u d
   clear o k b
   go_wp2_with fail
   go_quiet (fail)
   go_wp2_with fail
   go_roundw
   case rel=>exact⟨j+1,by omega,by go_num,below_drewN r.out _⟩
   case measure=>(simp[intOf];try omega)
  ·go_wp2_with fail
   go_ret
   exact⟨rfl,r.out⟩
theorem begun_size (A B C a b c):aL (lW A B C a b c)=0/\aH (lW A B C a b c)=1:=⟨by kernel_rfl,by kernel_rfl⟩
theorem begun_reg (a1 a2 a3 a4 a5 a6 b1 b2 b3 b4 b5 b6):RY (pairL a1 a2 a3 b1 b2 b3 a4 a5 a6 b4 b5 b6)=0:=by kernel_rfl
theorem begun_free (a1 a2 a3 a4 a5 a6 b1 b2 b3 b4 b5 b6):freeOf (pairL a1 a2 a3 b1 b2 b3 a4 a5 a6 b4 b5 b6)=[⟨0,1⟩,⟨2,2⟩,⟨5,11⟩]:=by kernel_rfl
theorem begun_first (a1 a2 a3 a4 a5 a6 b1 b2 b3 b4 b5 b6):firstOf (pairL a1 a2 a3 b1 b2 b3 a4 a5 a6 b4 b5 b6) 2=(2,0):=by kernel_rfl
theorem regionBegun_any (w:World):Calls Tryz.prog 47 #[] w fun e I=>e=.returned (.bool true)/\Below w.heap.size w I:=by
 go_enter Tryz.func47,Tryz.ntmps47
 go_wp2_with fail
 refine(KF _).mono ?_;rintro e H ⟨⟨E,D,C,n,m,B,rfl,s⟩,j⟩
 have z:=Hp (Size_any _ H s)
 rw[(begun_size E D C n m B).1,if_neg (by omega),(begun_size E D C n m B).2]at z
 go_wp2_with fail
 refine(z.out).mono ?_;rintro e w2 ⟨rfl,i⟩
 clear z
 go_wp2_with fail
 refine(wF _).mono ?_;rintro e G ⟨⟨A3,W,n,a2,a3,a4,a5,a6,m,b2,Z,Y,X,l,rfl,u⟩,h⟩
 have y:=Hp (Free_any A3 W (pairL n a2 a3 m b2 Z a4 a5 a6 Y X l) G u)
 rw[begun_reg,begun_free]at y
 go_wp2_with fail
 refine(y.out).mono ?_;rintro e A ⟨⟨A4,V,rfl,r⟩,g⟩
 clear y
 go_wp2_with fail
 refine(wF _).mono ?_;rintro e F ⟨⟨A5,U,d1,d2,d3,d4,d5,d6,T,S,R,Q,P,O,rfl,t⟩,f⟩
 have x:=Hp (First_any A5 U (pairL d1 d2 d3 T S R d4 d5 d6 Q P O) 2 F t)
 rw[begun_first]at x
 go_wp2_with fail
 refine(x.out).mono ?_;rintro e a ⟨rfl,d⟩
 have q:=j.size
 have M:=i.size
 have L:=h.size
 have K:=g.size
 have p:=f.size
 have J:=d.size
 clear x
 have c:Below A.heap.size A a:=f.trans (d.mono p)
 have b:=fun o=>(GZ4 a.heap.size a).alloc (GZ3 _) o
 have N:=Hp (sameRuns_any A4 (some ⟨a.heap.size,0,none⟩) V 3 [⟨0,1⟩,⟨2,2⟩,⟨5,11⟩] (a.alloc (.cells #[.int .i64 0,.int .i64 1,.int .i64 2,.int .i64 2,.int .i64 5,.int .i64 11] 99)) (r.below (c.trans ((b _).mono (by omega)))) (Ry (enc:=Run.cells) (k:=2) (fun _=>rfl) (heap_alloc_new a _) rfl) (by simp))
 go_wp2_with (go_at_call 121;refine(N.out).mono ?_;rintro e w7 ⟨rfl,v⟩)
 go_ret
 refine⟨by simp,?_⟩
 have l:Below w.heap.size w a:=j.trans ((i.mono q).trans ((h.mono (by omega)).trans ((g.mono (by omega)).trans (c.mono (by omega)))))
 exact l.trans (((b _).mono (by have:=l.size;omega)).trans (v.mono (by have:=l.size;simp;omega)))
end
section
open Go.RowKit Go.Lib
theorem two_of {l:List Plc}{d c:Mod}{b a:Int}(h:aD l=aD [⟨d,b⟩,⟨c,a⟩]):∃x y,l=[x,y]/\x.first=b/\y.first=a:=by
 have e:=nY h
 obtain⟨x,y,rfl⟩:∃x y,l=[x,y]:=by
  match l,e with| [x,y],_=>exact⟨x,y,rfl⟩
 refine⟨x,y,rfl,?_,?_⟩
 ·have:=congrArg (fun z:List Plc=>(z[0]?).map Plc.first) h;simpa[aD,Plc.bare]using this
 ·have:=congrArg (fun z:List Plc=>(z[1]?).map Plc.first) h;simpa[aD,Plc.bare]using this
section
variable (a1 a2 a3 b1 b2 b3:Option Addr) (a4 a5 a6 b4 b5 b6:Nat)
theorem cb_step :Rj 0 (gX a1 a2 a3 b1 b2 b3 a4 a5 a6 b4 b5 b6)=some [⟨TH a1 a2 a3 a4 a5 a6,0⟩,⟨lW b1 b2 b3 b4 b5 b6,4⟩]:=by kernel_rfl
theorem cb_pack :bI 0 (gX a1 a2 a3 b1 b2 b3 a4 a5 a6 b4 b5 b6)=([⟨TH a1 a2 a3 a4 a5 a6,0⟩,⟨lW b1 b2 b3 b4 b5 b6,1⟩],2):=by kernel_rfl
end
theorem compactBegun_any (w:World):Calls Tryz.prog 48 #[] w fun e w'=>e=.returned (.bool true)/\Below w.heap.size w w':=by
 go_enter Tryz.func48,Tryz.ntmps48
 go_wp2_with fail
 refine(FJ _).mono ?_;rintro e w1 ⟨⟨A1,c1,A2,c2,a1,a2,a3,a4,a5,a6,b1,b2,b3,b4,b5,b6,rfl,E,C⟩,F⟩
 have Q:=Hp (CStep_any (RU A1 c1) A2 c2 (gX a1 a2 a3 b1 b2 b3 a4 a5 a6 b4 b5 b6) w1 E C)
 rw[Mk,cb_step]at Q
 have z:=Hp F
 clear E C F
 go_wp2_with fail
 refine(Q.out).mono ?_;rintro e o ⟨⟨f,a0,l2,I,rfl,a⟩,t⟩
 obtain⟨x,y,rfl,hx,hy⟩:=two_of a.mods
 obtain⟨g,O,_⟩:=aP.at_ (l:=[x,y]) a.own.mods.row (j:=0) (by simp)
 subst O
 have b:=Reads.of_own a.own.mods.row
 have p:=Hp (show Row Plc.cells 8 o (some ⟨g,0,none⟩) [x,y] from b)
 obtain⟨T,i⟩:=Nm (o.alloc (.cells #[.int .i64 f.major,.int .i64 f.minor,.slice f.eA f.ex.length f.eC,.slice (some ⟨g,0,none⟩) 2 I] 39))
 have s:Below o.heap.size o T:=i▸ZB
 have H3:=Hp (show T.heap[o.heap.size]? =some (.cells #[.int .i64 f.major,.int .i64 f.minor,.slice f.eA f.ex.length f.eC,.slice (some ⟨g,0,none⟩) 2 I] 39 (0,0)) by rw[i];exact heap_alloc_new o _)
 have L:=Hp ((z.trans (t.mono z.size)).trans (s.mono (GY1 z.size t.size)))
 have J:=Hp s
 have Y:=i.symm
 clear a t b i s Q
 go_wp2_with fail
 refine(FJ _).mono ?_;rintro e w4 ⟨⟨A3,c3,A4,c4,d1,d2,d3,d4,d5,d6,g1,g2,g3,g4,G,g6,rfl,D,B⟩,k⟩
 have P:=Hp (CPack_any (RU A3 c3) A4 c4 (gX d1 d2 d3 g1 g2 g3 d4 d5 d6 g4 G g6) w4 D B)
 rw[Mk,cb_pack]at P
 have K:=Hp (L.trans (k.mono L.size))
 have m:=Hp (J.trans (k.mono J.size))
 have H4:=Hp ((k.block o.heap.size (ZL H3)).trans H3)
 clear D B k
 go_wp2_with fail
 refine(P.out).mono ?_;rintro e A ⟨⟨n,d,A5,l5,c5,rfl,Z,a⟩,r⟩
 obtain⟨u,v,rfl,hu,hv⟩:=two_of a.mods
 have M:n=2:=by simpa using Z
 subst M
 obtain⟨G,N,_⟩:=aP.at_ (l:=[u,v]) a.own.mods.row (j:=0) (by simp)
 subst N
 have b:Row Plc.cells 8 A (some ⟨G,0,none⟩) [u,v]:=Reads.of_own a.own.mods.row
 obtain⟨S,h⟩:=Nm (A.alloc (.cells #[.int .i64 d.major,.int .i64 d.minor,.slice d.eA d.ex.length d.eC,.slice (some ⟨G,0,none⟩) 2 c5] 39))
 have q:Below A.heap.size A S:=h▸ZB
 have c:=r.trans (q.mono r.size)
 have R:=Hp (K.trans (c.mono K.size))
 obtain⟨_,_,_,_,p3,_⟩:=aB ((c.block o.heap.size (ZL H4.out)).trans H4.out)
 have h6:S.heap[A.heap.size]? =some (.cells #[.int .i64 d.major,.int .i64 d.minor,.slice d.eA d.ex.length d.eC,.slice (some ⟨G,0,none⟩) 2 c5] 39 (0,0)):=by rw[h];exact heap_alloc_new A _
 obtain⟨_,_,_,_,q3,_⟩:=aB h6
 obtain⟨_,H,_,_,_,_,_,_,_,_,W⟩:=RS p.out (m.trans (c.mono m.size)) 0 (by simp)
 obtain rfl:=GY3 H
 obtain⟨_,H,_,_,_,_,_,_,_,_,V⟩:=RS p.out (m.trans (c.mono m.size)) 1 (by simp)
 obtain rfl:=GY3 H
 obtain⟨_,H,_,_,_,_,_,_,_,_,U⟩:=RS b q 1 (by simp)
 obtain rfl:=GY3 H
 simp only[List.getElem_cons_zero,List.getElem_cons_succ,hx,hy,hv]at W V U
 simp[Addr.add]at W V U
 have X:=h.symm
 clear a Z r b h q c h6 P
 go_wp2_with fail
 go_ret
 exact⟨by simp,R.out⟩
end
section
open Go
open Go.RowKit Go.Lib
theorem rg_lens {W:World}{k:Krn}{A:Option Addr}{l:List Plc}(h:dL W k A l):k.ex.length<=big/\l.length<=big/\∀x∈l,x.m.ex.length<=big/\x.m.im.length<=big/\x.m.pa.length<=big:=
 ⟨h.1.ex.2.1,h.2.len,fun x a=>⟨(h.2.each x a).ex.2.1,(h.2.each x a).im.2.1,(h.2.each x a).pa.2⟩⟩
theorem t_spoil {w:World}{a b:Nat}{A:Option Addr}{c:Nat}{l:List ByteArray}(h:dA w b (.slice A l.length c) l)(d:a<=b):StrAt w a A l.length 1 0:=by
 have e:w.ownsRow a 9 1 (.slice A l.length c) l.length (l.flatMap strCells):=by
  have:=RH h d
  rw[<-rZ]
  exact this
 exact str_at (enc:=strCells) (k:=1) (o:=0) (fun _=>rfl) (by omega) (fun x=>⟨x,rfl⟩) e
theorem StrAt.keep {w d:World}{a:Nat}{A:Option Addr}{n k o:Nat}(h:StrAt w a A n k o)(b:Below w.heap.size w d):StrAt d a A n k o:=
 ⟨fun j f=>by
  obtain⟨g,s,e,m,l,i,c⟩:=h.each j f
  exact⟨g,s,e,(b.cell (p:=⟨g,_,none⟩) c).trans m,(b.frozen (p:=⟨g,_,none⟩) c).trans l,i,GY0 c b.size⟩⟩
theorem StrAt.below {w w':World}{a:Nat}{A:Option Addr}{n k o:Nat}(h:StrAt w a A n k o)(b:Below w.heap.size w w'):StrAt w' a A n k o:=h.keep b
theorem IntAt.below {w w':World}{a:Nat}{A:Option Addr}{n k o:Nat}(h:IntAt w a A n k o)(b:Below w.heap.size w w'):IntAt w' a A n k o:=
 ⟨fun j d=>by
  obtain⟨g,s,e,l,i,f,c⟩:=h.each j d
  exact⟨g,s,e,(b.cell (p:=⟨g,_,none⟩) c).trans l,(b.frozen (p:=⟨g,_,none⟩) c).trans i,f,GY0 c b.size⟩⟩
structure RfMem (w:World)(k:Krn)(bk bD bI:Nat)(g gi:Fl)(F:List ByteArray)(A6:Option Addr)(Rs:List ByteArray)(oA cA:Option Addr)(cs:List Cm)(W:World):Prop where
 bel:Below w.heap.size w W
 kr:W.heap[bk]? =some (.cells #[.int .i64 k.major,.int .i64 k.minor,.slice k.eA k.ex.length k.eC] 24 (0,0))
 fb:W.heap[bD]? =some (.cells #[.slice g.a g.bl.length g.c] 29 (0,0))
 ib:W.heap[bI]? =some (.cells #[.slice gi.a gi.bl.length gi.c] 29 (0,0))
 fo:g.ok W
 io:gi.ok W
 fe:g.bl=F
 ie:gi.bl=F
 all:Row strCells 1 W A6 Rs
 own:Row Exp.cells 2 W oA k.ex
 krn:k.ok W
 cms:nE W cA cs
theorem RfMem.below {w:World}{k:Krn}{f j i:Nat}{g c:Fl}{F:List ByteArray}{n:Option Addr}{m:List ByteArray}{b e:Option Addr}{d:List Cm}{W l:World}(h:RfMem w k f j i g c F n m b e d W)(a:Below W.heap.size W l):RfMem w k f j i g c F n m b e d l:=
 ⟨h.bel.trans (a.mono h.bel.size),aF a h.kr,aF a h.fb,aF a h.ib,h.fo.below a,h.io.below a,h.fe,h.ie,h.all.below a,h.own.below a,h.krn.below a,h.cms.below a⟩
theorem jS.le {W:World}{b a:Nat}{k:Krn}{A:Option Addr}{l:List Plc}{c:Nat}(h:jS W b k A l c)(d:a<=b):jS W a k A l c:=⟨RH h.ex d,h.mods.le d⟩
end
section
open Go.RowKit Go.Lib
def extraM :Mod:=⟨⟨#[101,120,116,114,97]⟩,0,0,⟨#[49,50,51,52]⟩,[],[],[],none,0,none,0,none,0⟩
def lib9 (b1 b2 b3:Option Addr)(b4 b5 b6:Nat):Mod:={lW b1 b2 b3 b4 b5 b6 with minor:=9}
theorem extraM_ok (w:World):extraM.ok w:=⟨⟨Row.nil,Nat.zero_le _,by simp[extraM]⟩,⟨Row.nil,Nat.zero_le _,by simp[extraM]⟩,⟨Row.nil,Nat.zero_le _⟩,by unfold big extraM;decide,by unfold big extraM;decide⟩
theorem twice_of {l:List Plc}(h:(txs l).Nodup):dD l=false:=by
 cases a:dD l
 ·rfl
 ·exact absurd h ((SQ l).1 a)
theorem rg_zero {k:Krn}{l:List Plc}(e:bJ k=0)(d:RY l=0)(c:dD l=false)(b:eH l=false)(a:(bU k l l 0).2=0):aZ k l=0:=by
 unfold aZ aX
 rw[e,d,c,b,a];rfl
theorem cm_of {k:Krn}{c:Cm}{l L:List Plc}(e:aZ k l=0)(d:kC c l=0)(a:cmL c l=L)(b:aZ k L=0):planErr k c l=0/\cmL c l=L:=by
 refine⟨?_,a⟩
 unfold planErr
 rw[if_neg (by omega)]
 unfold kP
 rw[if_neg (by omega),a];exact b
section
variable (A:Option Addr) (c:Nat) (a1 a2 a3 b1 b2 b3 d1 d2 d3:Option Addr) (a4 a5 a6 b4 b5 b6 d4 d5 d6:Nat)
theorem pb_inst :planErr (RU A c) ⟨1,extraM,⟨#[]⟩⟩ (gX a1 a2 a3 b1 b2 b3 a4 a5 a6 b4 b5 b6)=0/\cmL ⟨1,extraM,⟨#[]⟩⟩ (gX a1 a2 a3 b1 b2 b3 a4 a5 a6 b4 b5 b6)=[⟨extraM,0⟩,⟨TH a1 a2 a3 a4 a5 a6,1⟩,⟨lW b1 b2 b3 b4 b5 b6,4⟩]:=
 cm_of (Mk ..) (by kernel_rfl) (by kernel_rfl) (rg_zero (by kernel_rfl) (by kernel_rfl) (twice_of (of_decide_eq_true (by kernel_rfl))) (by kernel_rfl) (by kernel_rfl))
theorem pb_app :planErr (RU A c) ⟨2,jB,⟨#[97,112,112]⟩⟩ (gX a1 a2 a3 b1 b2 b3 a4 a5 a6 b4 b5 b6)=0/\cmL ⟨2,jB,⟨#[97,112,112]⟩⟩ (gX a1 a2 a3 b1 b2 b3 a4 a5 a6 b4 b5 b6)=[⟨lW b1 b2 b3 b4 b5 b6,4⟩]:=
 cm_of (Mk ..) (by kernel_rfl) (by kernel_rfl) (rg_zero (by kernel_rfl) (by kernel_rfl) (twice_of (of_decide_eq_true (by kernel_rfl))) (by kernel_rfl) (by kernel_rfl))
theorem pb_lib :planErr (RU A c) ⟨2,jB,⟨#[108,105,98]⟩⟩ (gX a1 a2 a3 b1 b2 b3 a4 a5 a6 b4 b5 b6)=4:=by
 unfold planErr
 rw[if_neg (by rw[Mk];simp)]
 have h:kC ⟨2,jB,⟨#[108,105,98]⟩⟩ (gX a1 a2 a3 b1 b2 b3 a4 a5 a6 b4 b5 b6)=4:=by kernel_rfl
 unfold kP
 rw[h];rfl
theorem pb_upg :planErr (RU A c) ⟨3,lib9 d1 d2 d3 d4 d5 d6,⟨#[]⟩⟩ (gX a1 a2 a3 b1 b2 b3 a4 a5 a6 b4 b5 b6)=0/\cmL ⟨3,lib9 d1 d2 d3 d4 d5 d6,⟨#[]⟩⟩ (gX a1 a2 a3 b1 b2 b3 a4 a5 a6 b4 b5 b6)=[⟨TH a1 a2 a3 a4 a5 a6,1⟩,⟨lib9 d1 d2 d3 d4 d5 d6,4⟩]:=
 cm_of (Mk ..) (by kernel_rfl) (by kernel_rfl) (rg_zero (by kernel_rfl) (by kernel_rfl) (twice_of (of_decide_eq_true (by kernel_rfl))) (by kernel_rfl) (by kernel_rfl))
end
theorem extra_any (w:World):Calls Tryz.prog 111 #[] w fun e b=>e=.returned extraM.v/\Below w.heap.size w b:=by
 obtain⟨f,c⟩:=Nm (w.alloc (.cells #[.string ⟨#[]⟩,.int .i64 0,.int .i64 0,.string ⟨#[]⟩,.slice none 0 0,.slice none 0 0,.slice none 0 0] 70))
 have d:∀a,(w.alloc (.cells a 70)).heap[w.heap.size]? =some (.cells a 70 (0,0)):=fun a=>heap_alloc_new w _
 go_enter Tryz.func111,Tryz.ntmps111
 go_wp2_with fail
 try simp only[Exit.inBlock,Exit.then]
 refine bodyPost_ret (results_cell_row rfl _ _ w.heap.size 70 _ (0,0) _ rfl (d _) Tryz.underlying70 rfl Tryz.AX) rfl ?_
 exact⟨rfl,ZB⟩
theorem first_of {l L:List Plc}{j:Nat}(h:aD l=aD L)(b:j<l.length)(a:j<L.length):l[j].first=L[j].first/\l[j].m.bare=L[j].m.bare:=by
 have e:(aD l)[j]'(by simpa using b)=(aD L)[j]'(by simpa using a):=by simp only[h]
 simp only[List.getElem_map]at e
 exact⟨by have:=congrArg Plc.first e;exact this,congrArg Plc.m e⟩
def UpgCut (w:World)(d:Mod)(p e:Value)(a:World):Prop:=∃(b:Nat)(k:Krn)(A:Option Addr)(x y:Plc)(c:Nat),p=.pointer (some ⟨b,0,none⟩)/\e=.int .i64 0/\
 a.heap[b]? =some (.cells #[.int .i64 k.major,.int .i64 k.minor,.slice k.eA k.ex.length k.eC,.slice A 2 c] 39 (0,0))/\Row Plc.cells 8 a A [x,y]/\y.first=4/\y.m.minor=d.minor/\Below w.heap.size w a
theorem UpgCut.new {w a:World}{d:Mod}{k:Krn}{A:Option Addr}{x y:Plc}{c:Nat}(e:Below w.heap.size w a)(b:Row Plc.cells 8 a A [x,y]/\y.first=4/\y.m.minor=d.minor):
  UpgCut w d (.pointer (some ⟨a.heap.size,0,none⟩)) (.int .i64 0) (a.alloc (.cells #[.int .i64 k.major,.int .i64 k.minor,.slice k.eA k.ex.length k.eC,.slice A 2 c] 39)):=
 have f:Below a.heap.size a (a.alloc (.cells #[.int .i64 k.major,.int .i64 k.minor,.slice k.eA k.ex.length k.eC,.slice A 2 c] 39)):=ZB
 ⟨_,k,A,x,y,c,rfl,rfl,heap_alloc_new a _,b.1.below f,b.2.1,b.2.2,e.trans (f.mono e.size)⟩
theorem UpgCut.old {w a:World}{g:Mod}{k:Krn}{A:Option Addr}{x y:Plc}{c b:Nat}(j:Below w.heap.size w a)(d:a.heap[b]? =some (.cells #[.int .i64 0,.int .i64 0,.slice none 0 0,.slice none 0 0] 39 (0,0)))(f:w.heap.size<=b)(e:Row Plc.cells 8 a A [x,y]/\y.first=4/\y.m.minor=g.minor):
  UpgCut w g (.pointer (some ⟨b,0,none⟩)) (.int .i64 0) ((((a.setCell ⟨b,0,none⟩ (.int .i64 k.major)).setCell ⟨b,1,none⟩ (.int .i64 k.minor)).setCell ⟨b,2,none⟩ (.slice k.eA k.ex.length k.eC)).setCell ⟨b,3,none⟩ (.slice A 2 c)):=by
 obtain⟨i,h⟩:=gY d (.int .i64 k.major) (.int .i64 k.minor) (.slice k.eA k.ex.length k.eC) (.slice A 2 c)
 exact⟨_,k,A,x,y,c,rfl,rfl,i,Reads.other e.1 ⟨_,_,_,_,_,_,_,_,d⟩ h (fun _=>.inl ⟨x.m.name,rfl⟩),e.2.1,e.2.2,j.trans ((h.below (GY2 (ZL d))).mono f)⟩
theorem zero_kept (w:World):∀a:World,Below (w.alloc (.cells #[.int .i64 0,.int .i64 0,.slice none 0 0,.slice none 0 0] 39)).heap.size (w.alloc (.cells #[.int .i64 0,.int .i64 0,.slice none 0 0,.slice none 0 0] 39)) a->a.heap[w.heap.size]? =some (.cells #[.int .i64 0,.int .i64 0,.slice none 0 0,.slice none 0 0] 39 (0,0)):=
 fun a b=>(b.block w.heap.size (by show w.heap.size<(w.alloc _).heap.size;simp)).trans (heap_alloc_new w _)
theorem upg_call {d a:World}{b:Mod}{k:Krn}{A:Option Addr}{l:List Plc}{t:Plc}{c:Nat}(w:Below d.heap.size d a)(D:k.ok a)(C:aU a A l)(p:b.ok d)(u:planErr k ⟨3,b,⟨#[]⟩⟩ l=0/\cmL ⟨3,b,⟨#[]⟩⟩ l=[t,⟨b,4⟩]):
  ∀W,Below a.heap.size a W->Calls Tryz.prog 37 #[rgV k A l c,b.v] W fun e n=>(∃r q x y s,e=.returned (.tuple #[rgV r q [x,y] s,.int .i64 0])/\Row Plc.cells 8 n q [x,y]/\y.first=4/\y.m.minor=b.minor)/\Below W.heap.size W n/\Below a.heap.size a n:=fun W i=>by
 have h:=PUpgrade_any k A c l b W (D.below i) (C.below i) (p.below (w.trans (i.mono w.size)))
 rw[u.1,u.2]at h
 refine h.mono ?_
 rintro e n ⟨⟨r,q,o,s,rfl,f⟩,g⟩
 have p:aD o=aD [t,⟨b,4⟩]:=f.mods
 have B:o.length=2:=by have:=nY p;simpa using this
 obtain⟨x,y,rfl⟩:∃x y,o=[x,y]:=by
  match o,B with| [x,y],_=>exact⟨x,y,rfl⟩
 have z:=first_of p (j:=1) (by simp) (by simp)
 refine⟨⟨r,q,x,y,s,rfl,Reads.of_own f.own.mods.row,z.1,?_⟩,g,i.trans (g.mono i.size)⟩
 have E:=congrArg Mod.minor z.2
 exact E
theorem planBegun_any (w:World):Calls Tryz.prog 42 #[] w fun e w'=>e=.returned (.bool true)/\Below w.heap.size w w':=by
 go_enter Tryz.func42,Tryz.ntmps42
 go_wp2_with fail
 refine(FJ _).mono ?_;rintro e w1 ⟨⟨A1,c1,A2,c2,a1,a2,a3,a4,a5,a6,b1,b2,b3,b4,b5,b6,rfl,i4,i1⟩,i6⟩
 have g8:=Hp i6
 have j4:=Hp (show dL w1 (RU A1 c1) A2 (gX a1 a2 a3 b1 b2 b3 a4 a5 a6 b4 b5 b6) from⟨i4,i1⟩)
 clear i4 i1 i6
 go_wp2_with fail
 refine(extra_any _).mono ?_;rintro e w2 ⟨rfl,f7⟩
 have l4:=Hp (g8.trans (f7.mono g8.size))
 have g0:=j4.below f7
 have f2:=Hp (PInstall_any (RU A1 c1) A2 c2 (gX a1 a2 a3 b1 b2 b3 a4 a5 a6 b4 b5 b6) extraM w2 g0.1 g0.2 (extraM_ok _))
 rw[(pb_inst A1 c1 a1 a2 a3 b1 b2 b3 a4 a5 a6 b4 b5 b6).1,(pb_inst A1 c1 a1 a2 a3 b1 b2 b3 a4 a5 a6 b4 b5 b6).2]at f2
 clear f7 j4 g0 g8
 go_wp2_with fail
 refine(f2.out).mono ?_;rintro e w3 ⟨⟨k3,A3,l3,c3,rfl,Q⟩,i5⟩
 have f4:aD l3=aD [⟨extraM,0⟩,⟨TH a1 a2 a3 a4 a5 a6,1⟩,⟨lW b1 b2 b3 b4 b5 b6,4⟩]:=Q.mods
 have h8:l3.length=3:=by have:=nY f4;simpa using this
 obtain⟨x3,y3,z3,rfl⟩:∃x y z,l3=[x,y,z]:=by
  match l3,h8 with| [x,y,z],_=>exact⟨x,y,z,rfl⟩
 have p6:=Hp (show x3.m.name=⟨#[101,120,116,114,97]⟩ from by have:=(first_of f4 (j:=0) (by simp) (by simp)).2;exact congrArg Mod.name this)
 have l2:=Hp (l4.trans (i5.mono l4.size))
 have p2:=Hp (show Row Plc.cells 8 w3 A3 [x3,y3,z3] from Reads.of_own Q.own.mods.row)
 obtain⟨w4,O⟩:=Nm (w3.alloc (.cells #[.int .i64 k3.major,.int .i64 k3.minor,.slice k3.eA k3.ex.length k3.eC,.slice A3 3 c3] 39))
 have f6:Below w3.heap.size w3 w4:=O▸ZB
 have l1:=Hp (l2.trans (f6.mono l2.size))
 have p1:=Hp (p2.below f6)
 have q8:=Hp (show w4.heap[w3.heap.size]? =some (.cells #[.int .i64 k3.major,.int .i64 k3.minor,.slice k3.eA k3.ex.length k3.eC,.slice A3 3 c3] 39 (0,0)) by rw[O];exact heap_alloc_new w3 _)
 have s0:=Hp (show w4.heap.size=w3.heap.size+1 by rw[O];simp)
 have r8:=O.symm
 clear O f6
 clear Q f4 h8 i5 f2
 go_wp2_with fail
 refine(FJ _).mono ?_;rintro e w5 ⟨⟨A5,c5,A6,c6,d1,d2,d3,d4,d5,d6,e1,e2,e3,e4,e5,e6,rfl,i3,i0⟩,b0⟩
 have l0:=Hp (l1.trans (b0.mono l1.size))
 have p0:=Hp (p1.below b0)
 have q7:=Hp (aF b0 q8)
 have f5:=Hp (PRemove_any (RU A5 c5) A6 c6 (gX d1 d2 d3 e1 e2 e3 d4 d5 d6 e4 e5 e6) ⟨#[97,112,112]⟩ w5 i3 i0)
 rw[(pb_app A5 c5 d1 d2 d3 e1 e2 e3 d4 d5 d6 e4 e5 e6).1,(pb_app A5 c5 d1 d2 d3 e1 e2 e3 d4 d5 d6 e4 e5 e6).2]at f5
 clear i3 i0 b0
 go_wp2_with fail
 refine(f5.out).mono ?_;rintro e w6 ⟨⟨k6,A7,l6,c7,rfl,b9⟩,a9⟩
 have h7:l6.length=1:=by have:=nY (show aD l6=aD [⟨lW e1 e2 e3 e4 e5 e6,4⟩] from b9.mods);simpa using this
 obtain⟨x6,rfl⟩:∃x,l6=[x]:=by
  match l6,h7 with| [x],_=>exact⟨x,rfl⟩
 have k8:=Hp (l0.trans (a9.mono l0.size))
 have o9:=Hp (p0.below a9)
 have l8:=Hp (aF a9 q7)
 obtain⟨w7,N⟩:=Nm (w6.alloc (.cells #[.int .i64 k6.major,.int .i64 k6.minor,.slice k6.eA k6.ex.length k6.eC,.slice A7 1 c7] 39))
 have a8:Below w6.heap.size w6 w7:=N▸ZB
 have o1:=Hp (Nat.ne_of_lt (ZL l8.out))
 have k7:=Hp (k8.trans (a8.mono k8.size))
 have o8:=Hp (o9.below a8)
 have q0:=Hp (aF a8 l8)
 have p8:=Hp (show w7.heap[w6.heap.size]? =some (.cells #[.int .i64 k6.major,.int .i64 k6.minor,.slice k6.eA k6.ex.length k6.eC,.slice A7 1 c7] 39 (0,0)) by rw[N];exact heap_alloc_new w6 _)
 have r9:=Hp (show w7.heap.size=w6.heap.size+1 by rw[N];simp)
 have r7:=N.symm
 clear N a8
 clear b9 h7 a9 f5
 go_wp2_with fail
 refine(FJ _).mono ?_;rintro e w8 ⟨⟨A8,c8,A9,c9,g1,g2,g3,g4,g5,g6,h1,h2,h3,h4,h5,h6,rfl,i2,h9⟩,Y⟩
 have k5:=Hp (k7.trans (Y.mono k7.size))
 have o7:=Hp (o8.below Y)
 have p9:=Hp (aF Y q0)
 have p7:=Hp (aF Y p8)
 have f8:=Hp (PRemove_any (RU A8 c8) A9 c9 (gX g1 g2 g3 h1 h2 h3 g4 g5 g6 h4 h5 h6) ⟨#[108,105,98]⟩ w8 i2 h9)
 rw[pb_lib A8 c8 g1 g2 g3 h1 h2 h3 g4 g5 g6 h4 h5 h6]at f8
 clear i2 h9 Y
 go_wp2_with fail
 refine(f8.out).mono ?_;rintro e w9 ⟨⟨k9,m4,l9,i8,rfl,h0⟩,V⟩
 have k4:=Hp (k5.trans (V.mono k5.size))
 have o6:=Hp (o7.below V)
 have l7:=Hp (aF V p9)
 have j8:=Hp (aF V p7)
 obtain⟨f3,r⟩:=Nm (w9.alloc (.cells #[.int .i64 k9.major,.int .i64 k9.minor,.slice k9.eA k9.ex.length k9.eC,.slice m4 l9.length i8] 39))
 have t:Below w9.heap.size w9 f3:=r▸ZB
 have o0:=Hp (Nat.ne_of_lt (ZL l7.out))
 have n9:=Hp (Nat.ne_of_lt (ZL j8.out))
 have f0:=Hp (k4.trans (t.mono k4.size))
 have j3:=Hp (o6.below t)
 have m3:=Hp (aF t l7)
 have k2:=Hp (aF t j8)
 have j7:=Hp (show f3.heap[w9.heap.size]? =some (.cells #[.int .i64 k9.major,.int .i64 k9.minor,.slice k9.eA k9.ex.length k9.eC,.slice m4 l9.length i8] 39 (0,0)) by rw[r];exact heap_alloc_new w9 _)
 have p3:=Hp (show f3.heap.size=w9.heap.size+1 by rw[r];simp)
 have n8:=r.symm
 clear r t
 clear h0 V f8
 go_wp2_with fail
 refine(KF _).mono ?_;rintro e a ⟨⟨F,E,C,B,v,u,rfl,c4⟩,q⟩
 have e9:=Hp (f0.trans (q.mono f0.size))
 have j2:=Hp (j3.below q)
 have m2:=Hp (aF q m3)
 have k1:=Hp (aF q k2)
 have j6:=Hp (aF q j7)
 have e7:=Hp c4
 clear q c4
 go_wp2_with fail
 generalize P:World.alloc a _=w12
 have Z:=Hp (show w12.heap[a.heap.size]? =some (.cells #[.string (lib9 F E C B v u).name,.int .i64 (lib9 F E C B v u).major,.int .i64 (lib9 F E C B v u).minor,.string (lib9 F E C B v u).text,.slice (lib9 F E C B v u).eA (lib9 F E C B v u).ex.length (lib9 F E C B v u).eC,.slice (lib9 F E C B v u).iA (lib9 F E C B v u).im.length (lib9 F E C B v u).iC,.slice (lib9 F E C B v u).pA (lib9 F E C B v u).pa.length (lib9 F E C B v u).pC] 70 (0,0)) by rw[<-P];exact heap_alloc_new a _)
 have l:Below a.heap.size a w12:=P▸ZB
 have e8:=Hp (e9.trans (l.mono e9.size))
 have j1:=Hp (j2.below l)
 have m1:=Hp (aF l m2)
 have k0:=Hp (aF l k1)
 have j5:=Hp (aF l j6)
 have c0:(lib9 F E C B v u).ok w12:=by
  have h:=e7.below l
  exact⟨h.ex,h.im,h.pa,h.name,h.text⟩
 have e0:=Hp c0
 obtain⟨d,G⟩:=Nm (lib9 F E C B v u)
 have p4:=Hp (show∀(A:Option Addr)(c:Nat)(a1 a2 a3 b1 b2 b3:Option Addr)(a4 a5 a6 b4 b5 b6:Nat),planErr (RU A c) ⟨3,d,⟨#[]⟩⟩ (gX a1 a2 a3 b1 b2 b3 a4 a5 a6 b4 b5 b6)=0/\cmL ⟨3,d,⟨#[]⟩⟩ (gX a1 a2 a3 b1 b2 b3 a4 a5 a6 b4 b5 b6)=[⟨TH a1 a2 a3 a4 a5 a6,1⟩,⟨d,4⟩] from
  fun A c a1 a2 a3 b1 b2 b3 a4 a5 a6 b4 b5 b6=>by rw[G];exact pb_upg A c a1 a2 a3 b1 b2 b3 F E C a4 a5 a6 b4 b5 b6 B v u)
 have p5:=Hp (show d.minor=9 by rw[G];rfl)
 rw[<-G]at Z e0
 obtain⟨n0,n1,n2,n3,n4,n5,n6⟩:=RF Z.out
 have t9:=(ZL Z.out)
 clear P l c0 G e7
 have K:=Hp (show fI w12 (fun n=>Below w12.heap.size w12 n/\n.cell? ⟨a.heap.size,0,none⟩=some (.string d.name)/\n.cell? ⟨a.heap.size,1,none⟩=some (.int .i64 d.major)/\n.cell? ⟨a.heap.size,2,none⟩=some (.int .i64 d.minor)/\n.cell? ⟨a.heap.size,3,none⟩=some (.string d.text)/\n.cell? ⟨a.heap.size,4,none⟩=some (.slice d.eA d.ex.length d.eC)/\n.cell? ⟨a.heap.size,5,none⟩=some (.slice d.iA d.im.length d.iC)/\n.cell? ⟨a.heap.size,6,none⟩=some (.slice d.pA d.pa.length d.pC)) from dE (by repeat' first|(with_reducible exact bC.cell (by first|omega|(simp;omega)|(simp only[aA];omega)))|refine bC.and ?_ ?_))
 have k:=Hp (K.now ⟨GZ4 _ _,by assumption,by assumption,by assumption,by assumption,by assumption,by assumption,by assumption⟩)
 have g7:=Hp K.D
 have H:=Hp K.S
 have M:=Hp K.A
 have b7:=Hp K.X
 have w0:=Hp K.L
 have o5:=Hp (show∀n:World,Below (w12.alloc (.cells #[.int .i64 0,.int .i64 0,.slice none 0 0,.slice none 0 0] 39)).drew.heap.size (w12.alloc (.cells #[.int .i64 0,.int .i64 0,.slice none 0 0,.slice none 0 0] 39)).drew n->n.heap[w12.heap.size]? =some (.cells #[.int .i64 0,.int .i64 0,.slice none 0 0,.slice none 0 0] 39 (0,0)) from
  fun n hb=>(hb.block w12.heap.size (by show w12.heap.size<(w12.alloc _).heap.size;simp)).trans (heap_alloc_new w12 _))
 have f9:=Hp (show∀(W:World),(Below w12.heap.size w12 W/\W.cell? ⟨a.heap.size,0,none⟩=some (.string d.name)/\W.cell? ⟨a.heap.size,1,none⟩=some (.int .i64 d.major)/\W.cell? ⟨a.heap.size,2,none⟩=some (.int .i64 d.minor)/\W.cell? ⟨a.heap.size,3,none⟩=some (.string d.text)/\W.cell? ⟨a.heap.size,4,none⟩=some (.slice d.eA d.ex.length d.eC)/\W.cell? ⟨a.heap.size,5,none⟩=some (.slice d.iA d.im.length d.iC)/\W.cell? ⟨a.heap.size,6,none⟩=some (.slice d.pA d.pa.length d.pC))->∀(b:Nat),w12.heap.size<=b->∀v0 v1 v2 v3 W2,W2=(((W.setCell ⟨b,0,none⟩ v0).setCell ⟨b,1,none⟩ v1).setCell ⟨b,2,none⟩ v2).setCell ⟨b,3,none⟩ v3->(Below w12.heap.size w12 W2/\W2.cell? ⟨a.heap.size,0,none⟩=some (.string d.name)/\W2.cell? ⟨a.heap.size,1,none⟩=some (.int .i64 d.major)/\W2.cell? ⟨a.heap.size,2,none⟩=some (.int .i64 d.minor)/\W2.cell? ⟨a.heap.size,3,none⟩=some (.string d.text)/\W2.cell? ⟨a.heap.size,4,none⟩=some (.slice d.eA d.ex.length d.eC)/\W2.cell? ⟨a.heap.size,5,none⟩=some (.slice d.iA d.im.length d.iC)/\W2.cell? ⟨a.heap.size,6,none⟩=some (.slice d.pA d.pa.length d.pC)) from
  fun W hS b hb v0 v1 v2 v3 W2 e=>by rw[e];exact b7.out _ _ _ _ hb (b7.out _ _ _ _ hb (b7.out _ _ _ _ hb (b7.out _ _ _ _ hb hS))))
 go_cut [8,9] from 28 to 33 (fun p e wx=>UpgCut w12 d p e wx)
 case first=>
  go_region_held3 (fun n=>Below w12.heap.size w12 n/\n.cell? ⟨a.heap.size,0,none⟩=some (.string d.name)/\n.cell? ⟨a.heap.size,1,none⟩=some (.int .i64 d.major)/\n.cell? ⟨a.heap.size,2,none⟩=some (.int .i64 d.minor)/\n.cell? ⟨a.heap.size,3,none⟩=some (.string d.text)/\n.cell? ⟨a.heap.size,4,none⟩=some (.slice d.eA d.ex.length d.eC)/\n.cell? ⟨a.heap.size,5,none⟩=some (.slice d.iA d.im.length d.iC)/\n.cell? ⟨a.heap.size,6,none⟩=some (.slice d.pA d.pa.length d.pC)) (first|with_reducible exact k.out|with_reducible exact g7.out _ k.out|with_reducible assumption|with_reducible exact H.out _ _ k.out g.out|with_reducible exact f9.out _ (H.out _ _ k.out g.out) _ a7.out _ _ _ _ _ rfl|with_reducible exact f9.out _ (H.out _ _ k.out g.out) _ (GZ3 _) _ _ _ _ _ rfl|with_reducible exact H.out _ _ k.out i.out|with_reducible exact M.out _ _ (g7.out _ k.out)|with_reducible exact M.out _ _ k.out|with_reducible exact M.out _ _ (H.out _ _ k.out i.out)|with_reducible exact M.out _ _ (H.out _ _ k.out g.out)|with_reducible exact g7.out _ (M.out _ _ k.out)|with_reducible exact f9.out _ (M.out _ _ (H.out _ _ k.out g.out)) _ (GZ3 _) _ _ _ _ _ rfl) (first|(go_at_call 73;(with_reducible refine(FJ _).mono ?_);rintro e f1 ⟨⟨r0,o4,x0,o3,r1,r2,r3,r4,r5,r6,s1,s2,s3,s4,s5,s6,rfl,d7,d0⟩,s⟩;have i:=Hp (show Below w12.heap.size w12 f1 from by first|with_reducible exact(GZ4 _ w12).drew.trans (s.mono (GZ3 _))|exact((GZ4 _ w12).alloc (GZ3 _) _).drew.trans (s.mono (by simp))|exact((GZ4 _ w12).drew.alloc (GZ3 _) _).trans (s.mono (by simp))|exact((GZ4 _ w12).alloc (GZ3 _) _).trans (s.mono (by simp)));(try(have g9:=(by with_reducible exact o5.out f1 s)));have a7:=Hp i.out.size;have i9:=Hp (zero_kept f1);have cU:=Hp (upg_call (c:=o3) i.out d7 d0 e0.out (p4.out r0 o4 r1 r2 r3 s1 s2 s3 r4 r5 r6 s4 s5 s6));clear d7 d0)|(go_at_call 37;(with_reducible refine(cU.out _ (by first|with_reducible exact GZ4 _ _|with_reducible exact ZB|with_reducible exact(GZ4 _ _).drew|with_reducible exact(ZB).drew)).mono ?_);rintro e n7 ⟨⟨t8,q9,t5,t3,o2,rfl,J,b8,T⟩,d9,U⟩;have a0:=Hp (And.intro J (And.intro b8 T));have g:=Hp (i.out.trans (U.mono i.out.size));(first|(have f:=(by with_reducible exact i9.out n7 d9))|(have f:=(by with_reducible exact aF d9 g9))|skip);(try(have m8:=heap_cell f 0;have m7:=heap_cell f 1;have m6:=heap_cell f 2;have m5:=heap_cell f 3;have t1:=heap_free f 0;have t0:=heap_free f 1;have s9:=heap_free f 2;have s8:=heap_free f 3;simp only[GZ2,GZ0,GZ1]at m8 m7 m6 m5));clear J b8 T U))
  all_goals(
   go_wp2_with fail
   go_meet
   first
    |exact UpgCut.new g.out a0.out
    |exact UpgCut.old g.out f a7.out a0.out
    |exact UpgCut.old g.out f (GZ3 _) a0.out)
 case rest=>
  obtain⟨v4,t7,q9,t4,t2,o2,rfl,rfl,i7,I,d8,R,o⟩:=hcut
  obtain⟨t6,rfl⟩:=Nm wc
  have l5:=Hp (e8.trans (o.mono e8.size))
  have j0:=Hp (j1.below o)
  have m0:=Hp (aF o m1)
  have j9:=Hp (aF o k0)
  have s7:=Hp (aF o j5)
  have G:=R.trans p5.out
  obtain⟨ad,rfl,_,v0,_⟩:=RS j0.out (GZ4 _ _) 0 (by simp)
  obtain⟨v5,rfl,_,_,_,u2,_,_,_,_,u7⟩:=RS I (GZ4 _ _) 1 (by simp)
  simp only[List.getElem_cons_zero,List.getElem_cons_succ,p6.out,G,d8]at v0 u2 u7
  simp[Addr.add]at v0 u2 u7
  obtain⟨_,v9,v8,v7,v6,_⟩:=aB m0.out
  obtain⟨_,u9,u8,u6,u5,_⟩:=aB j9.out
  obtain⟨_,u4,u3,u1,u0,_⟩:=aB i7
  clear o G R d8 I i7
  go_wp2_with fail
  go_ret
  exact⟨by simp,l5.out⟩
end
section
open Go
open Go.RowKit Go.Lib
open Gs (Tx)
theorem i_spoil {w:World}{a b:Nat}{A:Option Addr}{c:Nat}{l:List Int}(h:Ints w b (.slice A l.length c) l)(d:a<=b):IntAt w a A l.length 1 0:=by
 have e:w.ownsRow a 3 1 (.slice A l.length c) l.length (l.flatMap fun n=>[iv n]):=by
  have:=RH h d
  rwa [qJ]at this
 exact int_at_ (enc:=fun n=>[iv n]) (k:=1) (o:=0) (fun _=>rfl) (by omega) (fun x=>⟨x,rfl⟩) e
theorem ru_spoil {w:World}{a b:Nat}{A:Option Addr}{c:Nat}{l:List Run}(h:gQ w b (.slice A l.length c) l)(d:a<=b):IntAt w a A l.length 2 0:=
 int_at_ (enc:=Run.cells) (k:=2) (o:=0) (fun _=>rfl) (by omega) (fun x=>⟨_,rfl⟩) (RH h d)
theorem tr_spoil {w:World}{a b:Nat}{v:Value}{d:List Tx}(h:TR w b v d)(e:a<=b):∃A c,v=.slice A d.length c/\StrAt w a A d.length 1 0:=by
 obtain⟨A,c,rfl⟩:=bG h.own
 refine⟨A,c,rfl,?_⟩
 have f:dA w b (.slice A (d.map bs).length c) (d.map bs):=by
  have:=h
  unfold TR at this
  rwa [List.length_map]
 have:=t_spoil f e
 rwa [List.length_map]at this
theorem addrs_len {k:Krn}{l:List Plc}:∀(a:List Imp),(aN k l a).1.length<=a.length
 | []=>GZ3 _
 |i::r=>by
  unfold aN
  split
  ·exact Nat.zero_le _
  ·split
   ·exact Nat.zero_le _
   ·exact Nat.succ_le_succ (addrs_len r)
theorem all_len {k:Krn}{l:List Plc}{m:Mod}:(allOf k l m).1.length<=m.im.length:=by
 unfold allOf
 split
 ·exact Nat.zero_le _
 ·split
  ·exact Nat.zero_le _
  ·exact addrs_len _
theorem free_len {l:List Plc}:(freeOf l).length<=l.length+1:=by
 unfold freeOf
 split
 ·exact Nat.zero_le _
 ·exact iY l 0
theorem noMod_own (w:World)(a:Nat):jB.own w a:=⟨ExpOwn.nil _ _,ImpOwn.nil _ _,PatOwn.nil _ _⟩
theorem E8.own_ {k:Krn}{l:List Plc}{b:ByteArray}{W:World}{a:Nat}{X:Plc}(h:E8 k l b W a X):X.m.own W a:=by
 by_cases t:jZ k l b=0
 ·rcases Sb (named b) l with⟨c,_⟩|⟨j,d,c,_⟩
  ·unfold jZ at t
   rw[c]at t
   split at t
   ·contradiction
   ·exact absurd t (by decide)
  ·exact(h.2.1 t j d c).2.2
 ·rw[h.1 t];exact noMod_own _ _
theorem mod_lens {m:Mod}{W:World}(h:m.ok W):m.ex.length<=big/\m.im.length<=big/\m.pa.length<=big:=⟨h.ex.2.1,h.im.2.1,h.pa.2⟩
structure RpMem (w:World)(bR bM bI bN bW:Nat)(k ki k4:Krn)(A Ai A4:Option Addr)(l li l4:List Plc)(c ci c4:Nat)(m n:Mod)(W:World):Prop where
 bel:Below w.heap.size w W
 rb:W.heap[bR]? =some (.cells #[.int .i64 k.major,.int .i64 k.minor,.slice k.eA k.ex.length k.eC,.slice A l.length c] 39 (0,0))
 mb:W.heap[bM]? =some (.cells #[.string m.name,.int .i64 m.major,.int .i64 m.minor,.string m.text,.slice m.eA m.ex.length m.eC,.slice m.iA m.im.length m.iC,.slice m.pA m.pa.length m.pC] 70 (0,0))
 ib:W.heap[bI]? =some (.cells #[.int .i64 ki.major,.int .i64 ki.minor,.slice ki.eA ki.ex.length ki.eC,.slice Ai li.length ci] 39 (0,0))
 nb:W.heap[bN]? =some (.cells #[.string n.name,.int .i64 n.major,.int .i64 n.minor,.string n.text,.slice n.eA n.ex.length n.eC,.slice n.iA n.im.length n.iC,.slice n.pA n.pa.length n.pC] 70 (0,0))
 wb:W.heap[bW]? =some (.cells #[.int .i64 k4.major,.int .i64 k4.minor,.slice k4.eA k4.ex.length k4.eC,.slice A4 l4.length c4] 39 (0,0))
 rt:dL W k A l
 it:dL W ki Ai li
 wt:dL W k4 A4 l4
 mo:m.ok W
 no:n.ok W
theorem RpMem.below {w:World}{o q r p j:Nat}{k e f:Krn}{A t u:Option Addr}{l b d:List Plc}{c g i:Nat}{m n:Mod}{W s:World}(h:RpMem w o q r p j k e f A t u l b d c g i m n W)(a:Below W.heap.size W s):RpMem w o q r p j k e f A t u l b d c g i m n s:=
 ⟨h.bel.trans (a.mono h.bel.size),aF a h.rb,aF a h.mb,aF a h.ib,aF a h.nb,aF a h.wb,h.rt.below a,h.it.below a,h.wt.below a,h.mo.below a,h.no.below a⟩
end
section
open Go
open Go.RowKit Go.Lib
theorem step_maps {l:List Plc}:((Rj 0 l).getD l).map (·.m)=l.map (·.m):=by
 cases h:Rj 0 l with
 |none=>rfl
 |some l'=>exact rM h
theorem md_spoilt {c:Nat}{g W:World}{b:Nat}{m:Mod}{t:TypeId}{r:List Value}(a:Sp c g W)(h:g.heap[b]? =some (.cells ⟨Value.string m.name::Value.int .i64 m.major::Value.int .i64 m.minor::Value.string m.text::Value.slice m.eA m.ex.length m.eC::Value.slice m.iA m.im.length m.iC::Value.slice m.pA m.pa.length m.pC::r⟩ t (0,0))):
  ∃d f e tx,W.cell? ⟨b,0,none⟩=some (.string d)/\W.cell? ⟨b,1,none⟩=some (.int .i64 f)/\W.cell? ⟨b,2,none⟩=some (.int .i64 e)/\W.cell? ⟨b,3,none⟩=some (.string tx)/\W.cell? ⟨b,4,none⟩=some (.slice m.eA m.ex.length m.eC)/\W.cell? ⟨b,5,none⟩=some (.slice m.iA m.im.length m.iC)/\W.cell? ⟨b,6,none⟩=some (.slice m.pA m.pa.length m.pC):=by
 obtain⟨d,l⟩:=a.str (heap_cell h 0)
 obtain⟨f,k⟩:=a.num (heap_cell h 1)
 obtain⟨e,j⟩:=a.num (heap_cell h 2)
 obtain⟨tx,i⟩:=a.str (heap_cell h 3)
 exact⟨d,f,e,tx,l,k,j,i,a.slc (heap_cell h 4),a.slc (heap_cell h 5),a.slc (heap_cell h 6)⟩
structure RgAt (base:Nat)(W0:World)(b n:Nat):Prop where
 each:∀q,q<n->∃(k:Krn)(A:Option Addr)(l:List Plc)(c:Nat),(W0.cell? ⟨b,q*4,none⟩=some (.int .i64 k.major)/\W0.cell? ⟨b,q*4+1,none⟩=some (.int .i64 k.minor)/\W0.cell? ⟨b,q*4+2,none⟩=some (.slice k.eA k.ex.length k.eC)/\W0.cell? ⟨b,q*4+3,none⟩=some (.slice A l.length c))/\
  jS W0 base k A l c/\dL W0 k A l
theorem RgAt.now {e:Nat}{g W:World}{b n q:Nat}(h:RgAt e g b n)(f:Sp e g W)(j:q<n):∃(k:Krn)(A:Option Addr)(l:List Plc)(c:Nat)(a d:Int),(W.cell? ⟨b,q*4,none⟩=some (.int .i64 a)/\W.cell? ⟨b,q*4+1,none⟩=some (.int .i64 d)/\W.cell? ⟨b,q*4+2,none⟩=some (.slice k.eA k.ex.length k.eC)/\W.cell? ⟨b,q*4+3,none⟩=some (.slice A l.length c))/\
  jS g e k A l c/\(k.ex.length<=big/\l.length<=big/\∀x∈l,x.m.ex.length<=big/\x.m.im.length<=big/\x.m.pa.length<=big):=by
 obtain⟨k,A,l,c,⟨t,s,r,p⟩,o,i⟩:=h.each q j
 obtain⟨a,v⟩:=f.num t
 obtain⟨d,u⟩:=f.num s
 exact⟨k,A,l,c,a,d,⟨v,u,f.slc r,f.slc p⟩,o,rg_lens i⟩
theorem enc_small {m:Mod}(h:aL m=0):(dK m).length<=1000:=by
 obtain⟨n,k,j,i,g,b,a⟩:=uB h
 have e:=kF (f:=eX) (K:=13) (l:=m.ex) b
 have d:=kF (f:=eG) (K:=24) (l:=m.im) a
 have c:=kF (f:=gB) (K:=6) (l:=m.pa) (fun x _=>by rw[lK];omega)
 unfold dK kG
 simp only[GZ8,digits_length,aT,AR]
 omega
end
section
open Go.RowKit
open Gs (Tx)
abbrev pairG (a1 a2 a3 b1 b2 b3:Option Addr)(a4 a5 a6 b4 b5 b6:Nat):List Plc:=[⟨TH a1 a2 a3 a4 a5 a6,1⟩,⟨lW b1 b2 b3 b4 b5 b6,4⟩]
abbrev appT :Tx:=[97,112,112]
abbrev libT :Tx:=[108,105,98]
section
variable (a1 a2 a3 b1 b2 b3:Option Addr) (a4 a5 a6 b4 b5 b6:Nat)
theorem begun_ms :Gs.Sd (txs (pairG a1 a2 a3 b1 b2 b3 a4 a5 a6 b4 b5 b6))=[appT,libT]:=by
 have e:txs (pairG a1 a2 a3 b1 b2 b3 a4 a5 a6 b4 b5 b6)=[appT,libT]:=rfl
 rw[e]
 exact(Gs.eq_msort (List.Perm.refl _) (by unfold Gs.sorted;decide)).symm
theorem begun_gr :Dh (pairG a1 a2 a3 b1 b2 b3 a4 a5 a6 b4 b5 b6)=0:=by
 unfold Dh
 have b:bY PX (pairG a1 a2 a3 b1 b2 b3 a4 a5 a6 b4 b5 b6)=0:=by kernel_rfl
 have a:dD (pairG a1 a2 a3 b1 b2 b3 a4 a5 a6 b4 b5 b6)=false:=by
  cases e:dD (pairG a1 a2 a3 b1 b2 b3 a4 a5 a6 b4 b5 b6)
  ·rfl
  ·rw[SQ]at e
   exact absurd (show[appT,libT].Nodup by decide) e
 rw[b,a];rfl
theorem begun_of1 :ofErr (pairG a1 a2 a3 b1 b2 b3 a4 a5 a6 b4 b5 b6) ⟨#[97,112,112]⟩=0:=by
 unfold ofErr;rw[begun_gr];kernel_rfl
theorem begun_of2 :ofErr (pairG a1 a2 a3 b1 b2 b3 a4 a5 a6 b4 b5 b6) ⟨#[108,105,98]⟩=0:=by
 unfold ofErr;rw[begun_gr];kernel_rfl
theorem begun_needs :needsT (pairG a1 a2 a3 b1 b2 b3 a4 a5 a6 b4 b5 b6) ⟨#[97,112,112]⟩=[libT]:=by
 unfold needsT reachT;rw[begun_of1,begun_ms];kernel_rfl
theorem begun_users :usersT (pairG a1 a2 a3 b1 b2 b3 a4 a5 a6 b4 b5 b6) ⟨#[108,105,98]⟩=[appT]:=by
 unfold usersT reachT;rw[begun_of2,begun_ms];kernel_rfl
theorem begun_sorted :rT (pairG a1 a2 a3 b1 b2 b3 a4 a5 a6 b4 b5 b6)=some [libT,appT]:=by
 unfold rT;rw[begun_ms];kernel_rfl
theorem begun_oerr :orderErr (pairG a1 a2 a3 b1 b2 b3 a4 a5 a6 b4 b5 b6)=0:=by
 unfold orderErr;rw[begun_gr,begun_sorted];rfl
theorem begun_order :orderT (pairG a1 a2 a3 b1 b2 b3 a4 a5 a6 b4 b5 b6)=[libT,appT]:=by
 unfold orderT;rw[begun_oerr,begun_sorted];rfl
end
theorem same_lit (A:Option Addr)(c n m:Nat)(L:List Tx)(j:L.length=m)(a:Array Value)(b:a.toList=(L.map bs).flatMap strCells)(W:World)(h:Hl W A L)(i:L.length<=big):
  Calls Tryz.prog 31 #[.slice A m c,.slice (some ⟨W.heap.size,0,none⟩) m n] (W.alloc (.cells a 9)) fun e g=>e=.returned (.bool true)/\Below W.heap.size W g:=by
 subst j
 have f:=(GZ4 W.heap.size W).alloc (GZ3 _) (.cells a 9)
 have:=SameTexts_any A (some ⟨W.heap.size,0,none⟩) c n L L (W.alloc (.cells a 9)) (h.below f) (Ry (enc:=strCells) (k:=1) (fun _=>rfl) (heap_alloc_new W _) b) i i
 refine this.mono ?_
 rintro e g ⟨l,d⟩
 exact⟨by rw[l];simp,f.trans (d.mono f.size)⟩
theorem graphBegun_any (w:World):Calls Tryz.prog 46 #[] w fun e V=>e=.returned (.bool true)/\Below w.heap.size w V:=by
 go_enter Tryz.func46,Tryz.ntmps46
 go_wp2_with fail
 refine(wF _).mono ?_;rintro e T ⟨⟨A2,c2,a1,a2,a3,a4,a5,a6,b1,b2,b3,b4,b5,b6,rfl,o⟩,x⟩
 have G:=Hp (Needs_any A2 c2 (pairG a1 a2 a3 b1 b2 b3 a4 a5 a6 b4 b5 b6) ⟨#[97,112,112]⟩ T o)
 rw[begun_needs,begun_of1]at G
 have C:=Hp x
 clear o x
 go_wp2_with fail
 refine(G.out).mono ?_;rintro e M ⟨⟨v3,rfl,i⟩,v⟩
 obtain⟨A3,c3,rfl,l⟩:=i.form
 have J:=Hp l
 have B:=Hp (C.trans (v.mono C.size))
 clear i l v G
 go_wp2_with fail
 refine(wF _).mono ?_;rintro e S ⟨⟨A4,c4,d1,d2,d3,d4,d5,d6,e1,e2,e3,e4,e5,e6,rfl,n⟩,u⟩
 have F:=Hp (Users_any A4 c4 (pairG d1 d2 d3 e1 e2 e3 d4 d5 d6 e4 e5 e6) ⟨#[108,105,98]⟩ S n)
 rw[begun_users,begun_of2]at F
 have A:=Hp u
 clear n u
 go_wp2_with fail
 refine(F.out).mono ?_;rintro e L ⟨⟨v5,rfl,h⟩,t⟩
 obtain⟨A5,c5,rfl,k⟩:=h.form
 have I:=Hp k
 have c:=Hp (A.trans (t.mono A.size))
 clear h k t F
 go_wp2_with fail
 refine(wF _).mono ?_;rintro e R ⟨⟨A6,c6,g1,g2,g3,g4,g5,g6,h1,h2,h3,Z,Y,X,rfl,m⟩,s⟩
 have E:=Hp (Order_any A6 c6 (pairG g1 g2 g3 h1 h2 h3 g4 g5 g6 Z Y X) R m)
 rw[begun_order,begun_oerr]at E
 have z:=Hp s
 clear m s
 go_wp2_with fail
 refine(E.out).mono ?_;rintro e K ⟨⟨v7,rfl,g⟩,r⟩
 obtain⟨A7,c7,rfl,j⟩:=g.form
 have H:=Hp j
 have b:=Hp (z.trans (r.mono z.size))
 clear g j r E
 have P:=Hp (fun W(y:Below M.heap.size M W)=>same_lit A3 c3 1 1 [libT] rfl #[.string ⟨#[108,105,98]⟩] rfl W (J.below y) (by unfold big;decide))
 have O:=Hp (fun W(y:Below L.heap.size L W)=>same_lit A5 c5 1 1 [appT] rfl #[.string ⟨#[97,112,112]⟩] rfl W (I.below y) (by unfold big;decide))
 have N:=Hp (fun W(y:Below K.heap.size K W)=>same_lit A7 c7 2 2 [libT,appT] rfl #[.string ⟨#[108,105,98]⟩,.string ⟨#[97,112,112]⟩] rfl W (H.below y) (by unfold big;decide))
 have Q:=B.size
 have z5:=c.size
 have z7:=b.size
 go_wp2_with fail
 (with_reducible refine(P.out _ (c.out.trans (b.out.mono c.out.size))).mono ?_);rintro e w8 ⟨rfl,q⟩
 have a:=Hp q
 clear q P
 go_wp2_with fail
 (with_reducible refine(O.out _ (b.out.trans (a.out.mono b.out.size))).mono ?_);rintro e w9 ⟨rfl,p⟩
 have f:=Hp p
 clear p O
 go_wp2_with fail
 (with_reducible refine(N.out _ (a.out.trans (f.out.mono a.out.size))).mono ?_);rintro e U ⟨rfl,d⟩
 have D:=Hp d
 clear d N
 go_wp2_with fail
 go_ret
 refine⟨rfl,?_⟩
 have z8:=a.size
 have z9:=f.size
 exact B.trans ((c.mono Q).trans ((b.mono (by omega)).trans ((a.mono (by omega)).trans ((f.mono (by omega)).trans (D.mono (by omega))))))
end
end Go.Proofs.YtjiedaialianmaaGreat
