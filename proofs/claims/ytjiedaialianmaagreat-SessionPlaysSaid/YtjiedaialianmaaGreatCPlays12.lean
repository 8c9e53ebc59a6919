import Derived.Test.YtjiedaialianmaaGreatCPlays06
import Derived.Test.YtjiedaialianmaaGreatCPlays09
import Derived.Test.YtjiedaialianmaaGreatCPlays10
set_option maxRecDepth 100000
set_option maxHeartbeats 8000000
namespace Go.Proofs.YtjiedaialianmaaGreat
section
open Go
open Go.RowKit Go.Lib
def Bq (b:World)(E:Int)(k:Krn)(L:List Plc)(p e:Value)(c:World):Prop:=
 ∃(B:Nat)(a:Krn)(g:Option Addr)(d:List Plc)(f:Nat),p=.pointer (some ⟨B,0,none⟩)/\e=.int .i64 E/\c.heap[B]? =some (.cells #[.int .i64 a.major,.int .i64 a.minor,.slice a.eA a.ex.length a.eC,.slice g d.length f] 39 (0,0))/\
  b.heap.size<=B/\UQ c b.heap.size a g d f (wK E k) (wL E L)/\Below b.heap.size b c
theorem Bq.new {c b:World}{E:Int}{k a:Krn}{L d:List Plc}{f:Option Addr}{e:Nat}(g:Below c.heap.size c b)(h:UQ b c.heap.size a f d e (wK E k) (wL E L)):
  Bq c E k L (.pointer (some ⟨b.heap.size,0,none⟩)) (.int .i64 E) (b.alloc (.cells #[.int .i64 a.major,.int .i64 a.minor,.slice a.eA a.ex.length a.eC,.slice f d.length e] 39)):=by
 have i:Below b.heap.size b (b.alloc (.cells #[.int .i64 a.major,.int .i64 a.minor,.slice a.eA a.ex.length a.eC,.slice f d.length e] 39)):=ZB
 exact⟨_,a,f,d,e,rfl,rfl,heap_alloc_new _ _,g.size,⟨h.own.below i,h.RU,h.mods⟩,g.trans (i.mono g.size)⟩
theorem Bq.old {b c:World}{E:Int}{k a:Krn}{L d:List Plc}{f:Option Addr}{e B:Nat}(g:c.heap[B]? =some (.cells #[.int .i64 0,.int .i64 0,.slice none 0 0,.slice none 0 0] 39 (0,0)))(l:b.heap.size<=B)(n:Below b.heap.size b c)(h:UQ c b.heap.size a f d e (wK E k) (wL E L)):
  Bq b E k L (.pointer (some ⟨B,0,none⟩)) (.int .i64 E) ((((c.setCell ⟨B,0,none⟩ (.int .i64 a.major)).setCell ⟨B,1,none⟩ (.int .i64 a.minor)).setCell ⟨B,2,none⟩ (.slice a.eA a.ex.length a.eC)).setCell ⟨B,3,none⟩ (.slice f d.length e)):=by
 obtain⟨m,j⟩:=gY g (.int .i64 a.major) (.int .i64 a.minor) (.slice a.eA a.ex.length a.eC) (.slice f d.length e)
 have i:=j.kp g (ts:=[39]) (by simp)
 exact⟨_,a,f,d,e,rfl,rfl,m,l,⟨h.own.kp i (by decide) (by decide) (by decide) (by decide),h.RU,h.mods⟩,n.trans ((j.below (GY2 (ZL g))).mono l)⟩
theorem Qe {a W b:World}{f K:Krn}{i:Option Addr}{e L:List Plc}{g:Nat}(c:Below a.heap.size a W)(d:Below W.heap.size W b)(h:UQ b W.heap.size f i e g K L):Below a.heap.size a b/\UQ b a.heap.size f i e g K L:=⟨c.trans (d.mono c.size),⟨RH h.own.ex c.size,h.own.mods.le c.size⟩,h.RU,h.mods⟩
theorem Bw {w W:World}{e b s:Nat}{k r a:Krn}{A:Option Addr}{l L f:List Plc}{c:Nat}{n:Option Addr}{m:Nat}(h:jR W e b k A l c)(t:Only b w W)(v:a.bare=r.bare)(u:aD f=aD L)(g:jS W s a n f m)(j:e<=s):
  (∃q z p y,jR ((((W.setCell ⟨b,0,none⟩ (.int .i64 a.major)).setCell ⟨b,1,none⟩ (.int .i64 a.minor)).setCell ⟨b,2,none⟩ (.slice a.eA a.ex.length a.eC)).setCell ⟨b,3,none⟩ (.slice n f.length m)) e b q z p y/\q.bare=r.bare/\aD p=aD L)/\
   Only b w ((((W.setCell ⟨b,0,none⟩ (.int .i64 a.major)).setCell ⟨b,1,none⟩ (.int .i64 a.minor)).setCell ⟨b,2,none⟩ (.slice a.eA a.ex.length a.eC)).setCell ⟨b,3,none⟩ (.slice n f.length m)):=by
 obtain⟨x,i⟩:=gY h.heap (.int .i64 a.major) (.int .i64 a.minor) (.slice a.eA a.ex.length a.eC) (.slice n f.length m)
 have o:=i.kp h.heap (ts:=[126]) (by simp)
 have d:=g.kp o (by decide) (by decide) (by decide) (by decide)
 exact⟨⟨a,n,f,m,⟨x,⟨RH d.ex j,d.mods.le j⟩,h.low⟩,v,u⟩,t.trans i⟩
theorem Pm (K o:Nat)(k:Krn)(A:Option Addr)(c:Nat)(l:List Plc)(a:Cm)(w:World)(h:jR w K o k A l c)(Y:aZ k l=0)(hm:a.m.ok w)(hn:a.nm.size<=big):
  Calls Tryz.prog 80 #[.pointer (some ⟨o,0,none⟩),a.v] w (Did w K o k (doE k l a) (doL k l a)):=by
 obtain⟨w0,O⟩:=Nm (w.alloc (.cells (cmA a) 102))
 have P:Below w.heap.size w w0:=O▸ZB
 have a0:w0.heap[w.heap.size]? =some (.cells (cmA a) 102 (0,0)):=by rw[O];exact heap_alloc_new w _
 obtain⟨p0,p1,p2,p3,p4,p5,p6,p7,p8⟩:=dJ a0
 have f:=Hp a0
 have a1:=Hp (h.below P)
 have I:=Hp P
 have b6:=Hp h.lt
 have U:=Hp (show K<=w.heap.size from GY1 h.low (GY2 h.lt))
 have c1:=Hp (VB a w0 (hm.below P) hn)
 have cD:=Hp (fun W(q:Below w.heap.size w W)=>show Calls Tryz.prog 151 #[.agg #[.int .i64 k.major,.int .i64 k.minor,.slice k.eA k.ex.length k.eC,.slice A l.length c],.agg #[.int .i64 a.kind,.string a.m.name,.int .i64 a.m.major,.int .i64 a.m.minor,.string a.m.text,.slice a.m.eA a.m.ex.length a.m.eC,.slice a.m.iA a.m.im.length a.m.iC,.slice a.m.pA a.m.pa.length a.m.pC,.string a.nm]] W (U7 W (kP k a l) k (cmL a l)) from Ps k A c l a W (jS.right (h.own.below q) Y).1 (jS.right (h.own.below q) Y).2 (hm.below q) Y)
 obtain⟨f1,f2,f3,f4⟩:=oL Y
 have cP:=Hp (fun W(q:Below w.heap.size w W)=>FP k A c l W (jS.right (h.own.below q) Y).1 (jS.right (h.own.below q) Y).2 f1 f2 f3 f4)
 obtain⟨E,C⟩:=Nm (doE k l a)
 obtain⟨L,J⟩:=Nm (doL k l a)
 rw[<-C,<-J]
 unfold doL at J
 rw[<-C]at J
 unfold doE at C
 have b1:=O.symm
 clear O P a0 h Y hm hn f1 f2 f3 f4
 by_cases t:RL a=0
 ·rw[if_neg (by omega)]at C
  rw[t]at c1
  by_cases V:a.kind=4
  ·rw[if_pos V]at C
   subst C
   rw[if_neg (by decide),if_pos V]at J
   subst J
   have a8:(a.kind==4)=true:=by simp[V]
   clear t V
   go_enter Tryz.func80,Tryz.ntmps80
   go_wp2_with fail
   refine(c1.out).mono ?_;rintro e n ⟨rfl,g⟩
   have r:=Hp (a1.below g)
   obtain⟨p0,p1,p2,p3,p4,p5,p6,p7,p8⟩:=dJ ((g.block _ (ZL f.out)).trans f.out)
   obtain⟨_,q0,q1,q2,q3,f0,f1,f2,f3⟩:=aB r.heap
   have i:=Hp (I.trans (g.mono I.size))
   clear g
   go_wp2_with fail
   refine(cP.out _ i.out).mono ?_;rintro e w2 ⟨⟨k',A',l',c',rfl,x⟩,z⟩
   have F:=Hp (r.below z)
   have y:=Hp x
   have R:=Hp (i.trans (z.mono i.size))
   obtain⟨_,q0,q1,q2,q3,f0,f1,f2,f3⟩:=aB F.heap
   clear z x
   go_wp2_with fail
   go_ret
   obtain⟨h1,h2⟩:=Bw F.out (Only.of_below R.out) y.RU y.mods y.own (GY1 U.out i.size)
   exact⟨rfl,h1,h2⟩
  ·rw[if_neg V]at C J
   rw[<-C]at cD
   obtain⟨L0,a6⟩:=Nm (cmL a l)
   rw[<-a6]at cD J
   have a8:(a.kind==4)=false:=by simp[V]
   have HL:=Hp J
   clear t V C J a6 cP
   go_enter Tryz.func80,Tryz.ntmps80
   go_wp2_with fail
   refine(c1.out).mono ?_;rintro e n ⟨rfl,g⟩
   have r:=Hp (a1.below g)
   obtain⟨p0,p1,p2,p3,p4,p5,p6,p7,p8⟩:=dJ ((g.block _ (ZL f.out)).trans f.out)
   obtain⟨_,q0,q1,q2,q3,_⟩:=aB r.heap
   have i:=Hp (I.trans (g.mono I.size))
   have l1:=r.lt
   have l2:w.heap.size<n.heap.size:=GY0 (ZL f.out) g.size
   clear g c1
   go_upto_region 7 with fail
   have G:=Hp (show fI n (fun d=>Below n.heap.size n d/\d.cell? ⟨o,0,none⟩=some (.int .i64 k.major)/\d.cell? ⟨o,1,none⟩=some (.int .i64 k.minor)/\d.cell? ⟨o,2,none⟩=some (.slice k.eA k.ex.length k.eC)/\d.cell? ⟨o,3,none⟩=some (.slice A l.length c)/\d.cell? ⟨w.heap.size,0,none⟩=some (.int .i64 a.kind)/\d.cell? ⟨w.heap.size,1,none⟩=some (.string a.m.name)/\d.cell? ⟨w.heap.size,2,none⟩=some (.int .i64 a.m.major)/\d.cell? ⟨w.heap.size,3,none⟩=some (.int .i64 a.m.minor)/\d.cell? ⟨w.heap.size,4,none⟩=some (.string a.m.text)/\d.cell? ⟨w.heap.size,5,none⟩=some (.slice a.m.eA a.m.ex.length a.m.eC)/\d.cell? ⟨w.heap.size,6,none⟩=some (.slice a.m.iA a.m.im.length a.m.iC)/\d.cell? ⟨w.heap.size,7,none⟩=some (.slice a.m.pA a.m.pa.length a.m.pC)/\d.cell? ⟨w.heap.size,8,none⟩=some (.string a.nm)) from dE (by repeat' first|(with_reducible exact bC.cell (by first|omega|(simp;omega)|(simp only[aA];omega)))|refine bC.and ?_ ?_))
   have f:=Hp (G.now ⟨GZ4 _ _,by assumption,by assumption,by assumption,by assumption,by assumption,by assumption,by assumption,by assumption,by assumption,by assumption,by assumption,by assumption,by assumption⟩)
   have Q:=Hp G.D
   have N:=Hp G.S
   have H:=Hp G.A
   have M:=Hp G.X
   have a2:=Hp G.L
   go_cut [6,7] from 27 to 35 (fun p e wx=>Bq n E k L0 p e wx)
   case first=>
    have b0:=Hp (show∀d:World,Below (n.alloc (.cells #[.int .i64 0,.int .i64 0,.slice none 0 0,.slice none 0 0] 39)).drew.heap.size (n.alloc (.cells #[.int .i64 0,.int .i64 0,.slice none 0 0,.slice none 0 0] 39)).drew d->d.heap[n.heap.size]? =some (.cells #[.int .i64 0,.int .i64 0,.slice none 0 0,.slice none 0 0] 39 (0,0)) from
     fun d q=>(q.block n.heap.size (by show n.heap.size<(n.alloc _).heap.size;simp)).trans (heap_alloc_new n _))
    have a7:=Hp (show∀(W:World),(Below n.heap.size n W/\W.cell? ⟨o,0,none⟩=some (.int .i64 k.major)/\W.cell? ⟨o,1,none⟩=some (.int .i64 k.minor)/\W.cell? ⟨o,2,none⟩=some (.slice k.eA k.ex.length k.eC)/\W.cell? ⟨o,3,none⟩=some (.slice A l.length c)/\W.cell? ⟨w.heap.size,0,none⟩=some (.int .i64 a.kind)/\W.cell? ⟨w.heap.size,1,none⟩=some (.string a.m.name)/\W.cell? ⟨w.heap.size,2,none⟩=some (.int .i64 a.m.major)/\W.cell? ⟨w.heap.size,3,none⟩=some (.int .i64 a.m.minor)/\W.cell? ⟨w.heap.size,4,none⟩=some (.string a.m.text)/\W.cell? ⟨w.heap.size,5,none⟩=some (.slice a.m.eA a.m.ex.length a.m.eC)/\W.cell? ⟨w.heap.size,6,none⟩=some (.slice a.m.iA a.m.im.length a.m.iC)/\W.cell? ⟨w.heap.size,7,none⟩=some (.slice a.m.pA a.m.pa.length a.m.pC)/\W.cell? ⟨w.heap.size,8,none⟩=some (.string a.nm))->∀(b:Nat),n.heap.size<=b->∀v0 v1 v2 v3 u,u=(((W.setCell ⟨b,0,none⟩ v0).setCell ⟨b,1,none⟩ v1).setCell ⟨b,2,none⟩ v2).setCell ⟨b,3,none⟩ v3->(Below n.heap.size n u/\u.cell? ⟨o,0,none⟩=some (.int .i64 k.major)/\u.cell? ⟨o,1,none⟩=some (.int .i64 k.minor)/\u.cell? ⟨o,2,none⟩=some (.slice k.eA k.ex.length k.eC)/\u.cell? ⟨o,3,none⟩=some (.slice A l.length c)/\u.cell? ⟨w.heap.size,0,none⟩=some (.int .i64 a.kind)/\u.cell? ⟨w.heap.size,1,none⟩=some (.string a.m.name)/\u.cell? ⟨w.heap.size,2,none⟩=some (.int .i64 a.m.major)/\u.cell? ⟨w.heap.size,3,none⟩=some (.int .i64 a.m.minor)/\u.cell? ⟨w.heap.size,4,none⟩=some (.string a.m.text)/\u.cell? ⟨w.heap.size,5,none⟩=some (.slice a.m.eA a.m.ex.length a.m.eC)/\u.cell? ⟨w.heap.size,6,none⟩=some (.slice a.m.iA a.m.im.length a.m.iC)/\u.cell? ⟨w.heap.size,7,none⟩=some (.slice a.m.pA a.m.pa.length a.m.pC)/\u.cell? ⟨w.heap.size,8,none⟩=some (.string a.nm)) from
     fun W hc b q v0 v1 v2 v3 u e=>e▸M.out _ b 3 v3 q (M.out _ b 2 v2 q (M.out _ b 1 v1 q (M.out _ b 0 v0 q hc))))
    go_region_held3 (fun d=>Below n.heap.size n d/\d.cell? ⟨o,0,none⟩=some (.int .i64 k.major)/\d.cell? ⟨o,1,none⟩=some (.int .i64 k.minor)/\d.cell? ⟨o,2,none⟩=some (.slice k.eA k.ex.length k.eC)/\d.cell? ⟨o,3,none⟩=some (.slice A l.length c)/\d.cell? ⟨w.heap.size,0,none⟩=some (.int .i64 a.kind)/\d.cell? ⟨w.heap.size,1,none⟩=some (.string a.m.name)/\d.cell? ⟨w.heap.size,2,none⟩=some (.int .i64 a.m.major)/\d.cell? ⟨w.heap.size,3,none⟩=some (.int .i64 a.m.minor)/\d.cell? ⟨w.heap.size,4,none⟩=some (.string a.m.text)/\d.cell? ⟨w.heap.size,5,none⟩=some (.slice a.m.eA a.m.ex.length a.m.eC)/\d.cell? ⟨w.heap.size,6,none⟩=some (.slice a.m.iA a.m.im.length a.m.iC)/\d.cell? ⟨w.heap.size,7,none⟩=some (.slice a.m.pA a.m.pa.length a.m.pC)/\d.cell? ⟨w.heap.size,8,none⟩=some (.string a.nm)) (first|with_reducible exact f.out|with_reducible exact Q.out _ f.out|with_reducible assumption|with_reducible exact N.out _ _ f.out j.out|with_reducible exact H.out _ _ (Q.out _ f.out)|with_reducible exact H.out _ _ f.out|with_reducible exact Q.out _ (H.out _ _ f.out)|with_reducible exact H.out _ _ (N.out _ _ f.out j.out)|with_reducible exact a7.out _ (N.out _ _ f.out j.out) _ (GZ3 _) _ _ _ _ _ rfl|with_reducible exact a7.out _ (H.out _ _ (N.out _ _ f.out j.out)) _ j.out.size _ _ _ _ _ rfl) (first|(go_at_call 151;(with_reducible refine(cD.out _ (i.out.trans ((a2.out _ (by assumption)).mono i.out.size))).mono ?_);rintro e w2 ⟨⟨k',A',l',c',rfl,x⟩,z⟩;obtain⟨a5,a4⟩:=Qe (a2.out _ (by assumption)) z x;have j:=Hp a5;have T:=Hp a4;(try(have a3:=b0.out w2 z;obtain⟨_,z0,z1,z2,z3,b5,b4,b3,b2⟩:=aB a3))))
    all_goals(
     go_wp2_with fail
     go_meet
     first
      |exact Bq.new j.out T.out
      |exact Bq.old a3 (GZ3 _) j.out T.out)
   case rest=>
    obtain⟨B,k',A',l',c',rfl,rfl,hB,a9,x,q⟩:=hcut
    obtain⟨w2,rfl⟩:=Nm wc
    obtain⟨_,z0,z1,z2,z3,_⟩:=aB hB
    have F:=Hp (r.below q)
    have y:=Hp x
    have R:=Hp (i.trans (q.mono i.size))
    obtain⟨_,q0,q1,q2,q3,f0,f1,f2,f3⟩:=aB F.heap
    clear f Q N H a2 M q x hB a9 cD p0 p1 p2 p3 p4 p5 p6 p7 p8
    by_cases s:E=0
    ·subst s
     have e1:=y.RU
     have e2:=y.mods
     rw[wK0]at e1
     rw[wL0]at e2
     have E1:=Hp e1
     have E2:=Hp (e2.trans (by rw[HL.out];rfl:aD L0=aD L))
     clear e1 e2
     go_wp2_with fail
     go_ret
     obtain⟨h1,h2⟩:=Bw F.out (Only.of_below R.out) E1.out E2.out y.own (GY1 U.out i.size)
     exact⟨rfl,h1,h2⟩
    ·have s':(E==0)=false:=by simp[s]
     have E2:=Hp (show L=l by rw[HL.out,if_pos s])
     clear s
     go_wp2_with fail
     go_ret
     exact⟨rfl,⟨k,A,l,c,F.out,rfl,by rw[E2.out]⟩,Only.of_below R.out⟩
 ·rw[if_pos t]at C
  rw[<-C]at c1
  have Z:E≠0:=by rw[C];exact t
  have s':(E != 0)=true:=by simp[Z]
  have E2:=Hp (show L=l by rw[J,if_pos Z])
  clear t C Z J cP cD
  go_enter Tryz.func80,Tryz.ntmps80
  go_wp2_with fail
  refine(c1.out).mono ?_;rintro e n ⟨rfl,g⟩
  have r:=Hp (a1.below g)
  have i:=Hp (I.trans (g.mono I.size))
  clear g
  go_wp2_with fail
  go_ret
  exact⟨rfl,⟨k,A,l,c,r.out,rfl,by rw[E2.out]⟩,Only.of_below i.out⟩
end
section
open Go
open Go.RowKit Go.Lib
theorem Tryz.Pb :(Tryz.prog.info? 30).map (fun i=>(i.zero,i.size,i.bytes))=some (some (.int .i64 0),1,8):=by kernel_rfl
theorem NJ (W:World){o:Oper}{a:Act}{K:Act->World->Prop}{Q:Exit->Act->World->Prop}(s x:Operand)
  (B:o.op=.call {callee:=.builtin .append,args:=#[s,x],argTypes:=#[34,34]}) (b:Nat) (v:Value) (i:List Int) (n:Int) (z:a.eval s=v) (y:a.eval x=.slice (some ⟨W.heap.size,0,none⟩) 1 1)
  (d:dN W b v i) (r:i.length<=1000000) (e:b<=W.heap.size)
  (h:∀l f,dN f b l (i++[n])->Kp [30] W f->Below b W f->K (a.put o.dst l) f):o.wp Tryz.prog a (W.alloc (.cells #[.int .i64 n] 30)) K Q:=by
 obtain⟨w,D,q,p,m⟩:=info_parts Tryz.Pb
 have A:Reads (W.alloc (.cells #[.int .i64 n] 30)) (W.heap.size+1) 1 (some ⟨W.heap.size,0,none⟩) 1 [iv n]:=⟨rfl,fun _=>⟨_,rfl,by simp,fun j u k=>by
  match j,k with
  |0,k=>rw[add_zero_];exact(heap_cell (heap_alloc_new W (.cells #[.int .i64 n] 30)) 0).trans k
  |j+1,k=>simp at k⟩⟩
 refine jQ (W.alloc (.cells #[.int .i64 n] 30)) s x 34 B b 30 w (.int .i64 0) 1 8 Tryz.underlying34 D q p m rfl (by decide) v i.length (i.map iv) z (World.ownsRow.alloc d _) _ _ 1 1 [iv n] y A (by simp[Value.oneCell']) (by simp only[maxLen];omega) (by omega) (by simp;omega) ?_
 intro l f F t _
 refine h l f (by unfold dN;simpa using F) ?_ (((GZ4 b W).alloc e _).grown t (by simp;omega) (iW d))
 exact((Kp.refl _ W).alloc _).trans (Kp.grown t fun g E=>by
  obtain⟨c,G,C⟩:=own_kind (World.ownsRow.alloc d (.cells #[.int .i64 n] 30)) g E
  exact⟨c,_,G,C,by simp⟩)
theorem MZ (W:World){d:Array Oper}{o:Oper}{a:Act}{K:Act->World->Prop}{Q:Exit->Act->World->Prop}{E:Prop}(j:o.guard=none)(s x:Operand)
  (q:o.op=.call {callee:=.builtin .append,args:=#[s,x],argTypes:=#[34,34]}) (b:Nat) (v:Value) (i:List Int) (n:Int) (p:a.eval s=v) (l:a.eval x=.slice (some ⟨W.heap.size,0,none⟩) 1 1)
  (e:dN W b v i) (f:i.length<=1000000) (c:b<=W.heap.size)
  (h:∀k g,dN g b k (i++[n])->Kp [30] W g->Below b W g->K (a.put o.dst k) g):if Region.wanted o (yielded d a.tmps)=true then Oper.wp Tryz.prog o a (W.alloc (.cells #[.int .i64 n] 30)) K Q else E:=by
 have m:Region.wanted o (yielded d a.tmps)=true:=by simp[Region.wanted,j]
 rw[if_pos m]
 exact NJ W s x q b v i n p l e f c h
theorem uL (W:World){f:Array Oper}{c:List Oper}{o:Oper}{a:Act}{Q:Exit->Act->World->Prop}(l:o.guard=none)(s x:Operand)
  (q:o.op=.call {callee:=.builtin .append,args:=#[s,x],argTypes:=#[34,34]}) (b:Nat) (v:Value) (k:List Int) (n:Int) (p:a.eval s=v) (m:a.eval x=.slice (some ⟨W.heap.size,0,none⟩) 1 1)
  (g:dN W b v k) (i:k.length<=1000000) (d:b<=W.heap.size)
  (h:∀j e,dN e b j (k++[n])->Kp [30] W e->Below b W e->wpList Tryz.prog f Q c (a.put o.dst j) e):wpList Tryz.prog f Q (o::c) a (W.alloc (.cells #[.int .i64 n] 30)):=
 wpList_plain l fun _ r=>NJ W s x q b v k n p m g i d fun j e w u t=>r _ _ (h j e w u t)
def kT (W:World)(a e:Nat)(k:Krn)(l:List Plc):Prop:=∃c f b d,jR W a e c f b d/\c.bare=k.bare/\aD b=aD l
def Un (W:World)(a c:Nat)(b:List Int):Prop:=∃v,Boxed W c 34 v/\dN W a v b
theorem kT.kp {ts:List TypeId}{W d:World}{a c:Nat}{k:Krn}{l:List Plc}(h:kT W a c k l)(b:Kp ts W d)(g:126 ∉ ts)(n:83 ∉ ts)(m:159 ∉ ts)(j:173 ∉ ts)(i:180 ∉ ts):kT d a c k l:=by
 obtain⟨f,r,e,q,h,p,o⟩:=h
 exact⟨f,r,e,q,⟨b _ _ _ _ h.heap g,h.own.kp b n m j i,h.low⟩,p,o⟩
theorem Un.kp {ts:List TypeId}{W e:World}{a d:Nat}{c:List Int}(h:Un W a d c)(b:Kp ts W e)(j:34 ∉ ts)(i:30 ∉ ts):Un e a d c:=by
 obtain⟨v,g,f⟩:=h
 exact⟨v,box_kp g b j,own_kp f b i⟩
theorem kT.lt {W:World}{a b:Nat}{k:Krn}{l:List Plc}(h:kT W a b k l):a<=b/\b<W.heap.size:=by
 obtain⟨d,f,c,e,h,_⟩:=h
 exact⟨h.low,h.lt⟩
theorem kT.do_ {a c:Nat}{k:Krn}{l:List Plc}{w:World}(h:kT w a c k l)(b:Cm)(q:aZ k l=0)(s:b.m.ok w)(r:b.nm.size<=big):
  Calls Tryz.prog 80 #[.pointer (some ⟨c,0,none⟩),b.v] w fun e d=>e=.returned (.int .i64 (doE k l b))/\kT d a c k (doL k l b)/\Only c w d/\Kp [126] w d:=by
 obtain⟨p,B,n,z,h,f,g⟩:=h
 refine(Pm a c p B z n b w h (by rw[kQ f g];exact q) s r).mono ?_
 rintro e d ⟨rfl,⟨o,A,j,y,t,x,u⟩,i⟩
 exact⟨by rw[Tz f g rfl],⟨o,A,j,y,t,x.trans f,u.trans (Su f g rfl)⟩,i,i.kp h.heap (by simp)⟩
end
section
open Go
open Go.RowKit Go.Lib
theorem run_end {w i f b:World}{a j c:Nat}{k:Krn}{L:List Plc}{z:List Int}{E:Int}{v:Value}{h:Option Addr}{n g:Nat}(s:Kp [] w i)(x:Below a w i)(B:a<=j/\j<w.heap.size)(A:w.heap.size<=i.heap.size)(q:a<=c)(l:kT f a j k L)(o:Only j i f)
  (r:Kp [126] i f) (t:Boxed f c 34 v) (m:dN b a (.slice h n g) (z++[E])) (e:Kp [30] f b) (u:Below a f b):
  kT (b.setCell ⟨c,0,none⟩ (.slice h n g)) a j k L/\Un (b.setCell ⟨c,0,none⟩ (.slice h n g)) a c (z++[E])/\Kp [126,30,34] w (b.setCell ⟨c,0,none⟩ (.slice h n g))/\Below a w (b.setCell ⟨c,0,none⟩ (.slice h n g)):=by
 have y:=box_kp t e (by decide)
 have d:Kp [34] b (b.setCell ⟨c,0,none⟩ (.slice h n g)):=Kp.set y (by simp) 0 _
 refine⟨(l.kp e (by decide) (by decide) (by decide) (by decide) (by decide)).kp d (by decide) (by decide) (by decide) (by decide) (by decide),⟨_,heap_setCell_same b c 0 _ _ _ y,own_kp m d (by decide)⟩,?_,?_⟩
 ·exact(s.mono (by simp)).trans ((r.mono (by simp)).trans ((e.mono (by simp)).trans (d.mono (by simp))))
 ·exact(x.trans ((o.below (by omega)).mono B.1)).trans (u.setCell (p:=⟨c,0,none⟩) q _)
theorem Mg (a J F bx:Nat)(k:Krn)(l:List Plc)(y:List Int)(p:Cm)(w:World)(h:kT w a J k l)(Z:aZ k l=0)(he:Un w a F y)(V:Boxed w bx 124 (.pointer (some ⟨J,0,none⟩)))
  (hm:p.m.ok w) (hn:p.nm.size<=big) (hl:y.length<=1000000) (B:a<=F):
  Calls Tryz.prog 83 (#[p.v]++ #[.pointer (some ⟨F,0,none⟩),.pointer (some ⟨bx,0,none⟩)]) w fun e I=>e=.returned (.bool true)/\kT I a J k (doL k l p)/\Un I a F (y++[doE k l p])/\Kp [126,30,34] w I/\Below a w I:=by
 obtain⟨n,i⟩:=Nm (w.alloc (.cells (cmA p) 102))
 have j:Below w.heap.size w n:=i▸ZB
 have g:Kp [] w n:=i▸(Kp.refl _ _).alloc _
 obtain⟨p0,p1,p2,p3,p4,p5,p6,p7,p8⟩:=dJ (W:=n) (b:=w.heap.size) (c:=p) (by rw[i];exact heap_alloc_new w _)
 obtain⟨v,C,Y⟩:=he
 have s:=Hp (box_kp C g (by simp))
 have N:=Hp (show dN n a v y from own_kp Y g (by simp))
 have K:=Hp (box_kp V g (by simp))
 have q0:=s.cell
 have x0:=K.cell
 have HS:=Hp h.lt
 have x:a<=w.heap.size:=by have:=h.lt;omega
 have cD:=Hp (fun W(hb:Below n.heap.size n W)=>kT.do_ (h.kp (g.trans (Kp.of_below hb)) (by simp) (by simp) (by simp) (by simp) (by simp)) p Z (hm.below (j.trans (hb.mono j.size))) hn)
 obtain⟨E,hE⟩:=Nm (doE k l p)
 obtain⟨L,hL⟩:=Nm (doL k l p)
 rw[<-hE,<-hL]at cD ⊢
 have S:=Hp g
 have G:=Hp j.size
 have U:=Hp (j.mono x)
 have T:=Hp x
 have Q:=Hp B
 have HL:=Hp hl
 have X:=i.symm
 clear i j g C Y V h Z hm hn hE hL hl B x
 go_enter Tryz.func83,Tryz.ntmps83
 go_wp2_with fail
 go_region_law (first
  |(go_simp;go_at_call 80;(with_reducible refine(cD.out _ (by first|with_reducible exact(GZ4 _ _).drew|with_reducible exact GZ4 _ _)).mono ?_);rintro e z ⟨rfl,A,d,q⟩;have f:=Hp (box_kp (show Boxed n.drew F 34 v from s.out) q (by decide));have M:=Hp (show dN z a v y from own_kp (show dN n.drew a v y from N.out) q (by decide));have z2:=f.out.cell;have a1:=fun o=>(f.out.alloc o).cell;have H:=Hp (show a<=z.heap.size from GY1 (GY1 T.out G.out) d.size);have O:=Hp A;have P:=Hp (show Only J n z from⟨d.os,d.tape,d.output,d.size,d.block⟩);have R:=Hp (show Kp [126] n z from q);clear A d q)
  |(refine MZ z (by rfl) (.tmp 5) (.tmp 9) (by rfl) a v y E (by rfl) (by rfl) M.out HL.out H.out ?_;intro v' w3 t u D;obtain⟨A',c',rfl⟩:=bG t;have r:=Hp (box_kp f.out u (by decide));have z3:=r.cell;have a0:=heap_free r.out 0;have HF:=Hp (run_end S.out U.out HS.out G.out Q.out O.out P.out R.out f.out t u D);clear t u D))
 all_goals(
  go_wp2_with fail
  go_ret
  have hf:=HF.out
  rw[GZ8]at hf
  exact⟨rfl,hf⟩)
end
section
open Go
open Go.RowKit Go.Lib
def gV (k:Krn)(l:List Plc)(n:Nat):Int:=if aZ k l≠0 then aZ k l else if 40<n then 2 else 0
def lZ (k:Krn)(l:List Plc)(a:List Cm):List Int:=if gV k l a.length≠0 then[]else eD k l a
def zO (w:World)(k:Krn)(l:List Plc)(a:List Cm)(e:Ending)(b:World):Prop:=
 (∃(d:Krn)(i:Option Addr)(c:List Plc)(h:Nat)(g:Option Addr)(f:Nat),e=.returned (.tuple #[rgV d i c h,.slice g (lZ k l a).length f,.int .i64 (gV k l a.length)])/\UQ b w.heap.size d i c h (wK (gV k l a.length) k) (wL (gV k l a.length) (Rl k l a))/\dN b w.heap.size (.slice g (lZ k l a).length f) (lZ k l a))/\Below w.heap.size w b
theorem Gc {w W:World}{k:Krn}{l:List Plc}{a:List Cm}{E:Int}(b:E=gV k l a.length)(h:E≠0)(d:Below w.heap.size w W):zO w k l a (.returned (.tuple #[.agg #[.int .i64 0,.int .i64 0,.slice none 0 0,.slice none 0 0],.slice none 0 0,.int .i64 E])) W:=by
 have c:lZ k l a=[]:=by unfold lZ;rw[if_pos (by rw[<-b];exact h)]
 unfold zO
 rw[c,<-b]
 exact⟨⟨Rk,none,[],0,none,0,rfl,oI _ _ h _ _,dN.nil _ _⟩,d⟩
structure Ni (w1:World)(bp bo bx:Nat)(k:Krn)(l:List Plc)(cs:List Cm)(j:Nat)(W:World):Prop where
 run:kT W w1.heap.size bp k (Rl k l (cs.take j))
 errs:Un W w1.heap.size bo (eD k l (cs.take j))
 x:Boxed W bx 124 (.pointer (some ⟨bp,0,none⟩))
 bel:Below w1.heap.size w1 W
theorem Bt {k:Krn}{l:List Plc}{a:List Cm}{j:Nat}(h:j<a.length):Rl k l (a.take (j+1))=doL k (Rl k l (a.take j)) a[j]:=by
 rw[<-List.take_append_getElem h,nM];rfl
theorem JV {k:Krn}{l:List Plc}{a:List Cm}{j:Nat}(h:j<a.length):eD k l (a.take (j+1))=eD k l (a.take j)++[doE k (Rl k l (a.take j)) a[j]]:=by
 rw[<-List.take_append_getElem h,qC];rfl
theorem K9 (k:Krn)(A:Option Addr)(c:Nat)(l:List Plc)(cA:Option Addr)(f:List Cm)(cc:Nat)(w:World)(hk:k.ok w)(h:aU w A l)(hc:nE w cA f):
  Calls Tryz.prog 19 #[rgV k A l c,.slice cA f.length cc] w (zO w k l f):=by
 obtain⟨O,v⟩:=Nm (w.alloc (.cells #[.int .i64 k.major,.int .i64 k.minor,.slice k.eA k.ex.length k.eC,.slice A l.length c] 39))
 obtain⟨B,s⟩:=Nm (O.alloc (.cells #[.int .i64 0,.int .i64 0,.slice none 0 0,.slice none 0 0] 39))
 have S:Below w.heap.size w O:=v▸ZB
 have R:Below O.heap.size O B:=s▸ZB
 have z0:O.heap.size=w.heap.size+1:=by rw[v];simp
 have z1:B.heap.size=w.heap.size+2:=by rw[s];simp;omega
 have Z:=Hp ((R.block _ (by omega)).trans (show O.heap[w.heap.size]? =some (.cells #[.int .i64 k.major,.int .i64 k.minor,.slice k.eA k.ex.length k.eC,.slice A l.length c] 39 (0,0)) by rw[v];exact heap_alloc_new w _))
 have p:=Hp (show B.heap[w.heap.size+1]? =some (.cells #[.int .i64 0,.int .i64 0,.slice none 0 0,.slice none 0 0] 39 (0,0)) by rw[s,<-z0];exact heap_alloc_new O _)
 have a:=Hp (S.trans (R.mono S.size))
 obtain⟨_,g0,g1,g2,g3,_⟩:=aB Z.out
 have c1:=Hp (jE k A c l B (hk.below a.out) (h.below a.out))
 have HK:=Hp hk
 have HP:=Hp h
 have HC:=Hp hc
 have X:=Hp z1
 have a5:=hc.len
 unfold big at a5
 obtain⟨F,hF⟩:=Nm (aZ k l)
 have HF:=Hp hF
 rw[<-hF]at c1
 have c4:=v.symm
 have c3:=s.symm
 clear v s S R z1 hk h hc hF
 by_cases t:F=0
 ·subst t
  by_cases t4:40<f.length
  ·have HE:=Hp (show(2:Int)=gV k l f.length by unfold gV;rw[<-HF.out,if_neg (by decide),if_pos t4])
   have b5:decide ((40:Int)<(f.length:Int))=true:=decide_eq_true (by omega)
   have T:=Hp (show(2:Int)≠0 by decide)
   clear t4
   go_enter Tryz.func19,Tryz.ntmps19
   go_wp2_with fail
   refine(c1.out).mono ?_;rintro e w2 ⟨rfl,d⟩
   have n:=Hp (a.trans (d.mono a.size))
   obtain⟨z,r0,r1,r2,r3,f0,f1,f2,f3⟩:=aB ((d.block _ (ZL p.out)).trans p.out)
   clear d g0 g1 g2 g3
   go_wp2_with fail
   obtain⟨hg,ho⟩:=gY z.out (.int .i64 0) (.int .i64 0) (.slice none 0 0) (.slice none 0 0)
   refine bodyPost_ret (dR rfl _ _ (w.heap.size+1) 39 _ (0,0) _ rfl hg Tryz.underlying39 rfl Tryz.RP) rfl ?_
   exact Gc HE.out T.out (n.trans ((ho.below (GY2 (ZL z.out))).mono (by omega)))
  ·have HE:=Hp (show gV k l f.length=0 by unfold gV;rw[<-HF.out,if_neg (by decide),if_neg t4])
   have b4:=Hp (show lZ k l f=eD k l f by unfold lZ;rw[HE.out,if_neg (by decide)])
   have b5:decide ((40:Int)<(f.length:Int))=false:=GY7 (by omega)
   obtain⟨f1,f2,f3,f4⟩:=oL HF.symm
   have c2:=Hp (fun W(U:Below w.heap.size w W)=>U8 k A c l W (HK.below U) (HP.below U) f1 f3 f4)
   have c0:=Hp t4
   clear t4 f1 f2 f3 f4
   go_enter Tryz.func19,Tryz.ntmps19
   go_wp2_with fail
   refine(c1.out).mono ?_;rintro e w2 ⟨rfl,d⟩
   have n:=Hp d
   obtain⟨_,g0,g1,g2,g3,_⟩:=aB ((d.block _ (ZL Z.out)).trans Z.out)
   clear d
   go_wp2_with fail
   refine(c2.out _ (a.trans (n.mono a.size))).mono ?_;rintro e b ⟨⟨k1,A1,l1,b1,rfl,a9,a6,i⟩,J⟩
   obtain⟨w4,r⟩:=Nm (b.alloc (.cells #[.int .i64 k1.major,.int .i64 k1.minor,.slice k1.eA k1.ex.length k1.eC,.slice A1 l1.length b1] 126))
   obtain⟨w5,q⟩:=Nm (w4.alloc (.cells #[.pointer (some ⟨b.heap.size,0,none⟩)] 124))
   obtain⟨w6,C⟩:=Nm (w5.alloc (.cells #[.slice none 0 0] 34))
   have I:Below b.heap.size b w4:=r▸ZB
   have H:Below w4.heap.size w4 w5:=q▸ZB
   have G:Below w5.heap.size w5 w6:=C▸ZB
   have y4:w4.heap.size=b.heap.size+1:=by rw[r];simp
   have y5:w5.heap.size=b.heap.size+2:=by rw[q];simp;omega
   have y:Below b.heap.size b w6:=I.trans ((H.mono I.size).trans (G.mono (GY1 I.size H.size)))
   have M:Below w2.heap.size w2 w6:=J.trans (y.mono J.size)
   have o:=n.size
   have a4:=J.size
   have N:=Hp (show Ni B b.heap.size (b.heap.size+2) (b.heap.size+1) k l f 0 w6 from
    ⟨⟨k1,A1,l1,b1,⟨(G.block _ (by omega)).trans ((H.block _ (by omega)).trans (by rw[r];exact heap_alloc_new b _)),(by have:=i.below y;exact⟨RH this.ex o,this.mods.le o⟩),by omega⟩,a9,a6⟩,
     ⟨.slice none 0 0,(by rw[<-y5];exact C▸Boxed.new _ _ _),dN.nil _ _⟩,
     (show Boxed w6 (b.heap.size+1) _ _ from(G.block _ (by omega)).trans (by rw[<-y4];exact q▸Boxed.new _ _ _)),
     n.trans (M.mono o)⟩)
   have K:=Hp (show B.heap.size<=b.heap.size by omega)
   have b6:=Hp (show aZ k l=0 from HF.symm)
   have cE:=Hp (DN cA cc f 83 #[.pointer (some ⟨b.heap.size+2,0,none⟩),.pointer (some ⟨b.heap.size+1,0,none⟩)] (Ni B b.heap.size (b.heap.size+2) (b.heap.size+1) k l f) (fun _=>False) w6 (enters_of Tryz.func83 (by kernel_rfl) rfl) HC.len
    (fun j W g=>(HC.below (a.trans (g.bel.mono a.size))).row)
    (fun j W W' g U=>⟨g.run.kp (Kp.of_below (ts:=[]) U) (by simp) (by simp) (by simp) (by simp) (by simp),g.errs.kp (Kp.of_below (ts:=[]) U) (by simp) (by simp),box_kp g.x (Kp.of_below (ts:=[]) U) (by simp),g.bel.trans (U.mono g.bel.size)⟩)
    (fun j hj W g=>by
     have b0:=(HC.below (a.trans (g.bel.mono a.size))).each _ (GZ9 hj)
     refine(Mg B.heap.size b.heap.size (b.heap.size+2) (b.heap.size+1) k (Rl k l (f.take j)) (eD k l (f.take j)) f[j] W g.run (lG _ b6.out) g.errs g.x b0.1 b0.2 (by rw[lY,GY6];have:=c0.out;omega) (by have:=K.out;omega)).mono ?_
     rintro e W' ⟨rfl,h1,h2,h3,h4⟩
     exact .inl ⟨rfl,by rw[Bt hj];exact h1,by rw[JV hj];exact h2,box_kp g.x h3 (by decide),g.bel.trans h4⟩)
    N.out)
   skip
   have a3:=r.symm
   have a2:=q.symm
   have a1:=C.symm
   clear r q C J I H G y M a9 a6 i o a4 g0 g1 g2 g3 c1 c2
   go_wp2_with fail
   refine(cE.out).mono ?_;rintro e w7 ⟨⟨u,rfl⟩,g|g⟩
   ·obtain⟨⟨k7,A7,l7,c7,V,a8,P⟩,⟨v7,L,D⟩,a0,Q⟩:=g
    rw[List.take_of_length_le (GZ3 _)]at P D
    obtain⟨eA,ec,rfl⟩:=bG D
    have b2:=Hp (show dN w7 B.heap.size (.slice eA (eD k l f).length ec) (eD k l f) from D)
    have b3:=Hp V
    have b8:=Hp a8
    have b7:=Hp P
    have b9:=Hp (a.trans (Q.mono a.size))
    have x7:=a0.cell
    have o7:=L.cell
    obtain⟨_,q0,q1,q2,q3,_⟩:=aB V.heap
    obtain⟨Y,r0,r1,r2,r3,f0,f1,f2,f3⟩:=aB ((Q.block (w.heap.size+1) (ZL p.out)).trans p.out)
    obtain⟨es,E⟩:=Nm (eD k l f)
    rw[<-E]at b2 b4 o7
    have n1:b.heap.size+2≠w.heap.size+1:=by have:=K.out;have:=X.out;omega
    have n2:b.heap.size+1≠w.heap.size+1:=by have:=K.out;have:=X.out;omega
    have n3:b.heap.size≠w.heap.size+1:=by have:=K.out;have:=X.out;omega
    clear V a8 P L D a0 Q cE E a3 a2 a1 N
    go_upto_region 9 with fail
    go_region
    all_goals(
     go_wp2_with fail
     obtain⟨hg,ho⟩:=gY Y.out (.int .i64 k7.major) (.int .i64 k7.minor) (.slice k7.eA k7.ex.length k7.eC) (.slice A7 l7.length c7)
     refine bodyPost_ret (dR rfl _ _ (w.heap.size+1) 39 _ (0,0) _ rfl hg Tryz.underlying39 rfl Tryz.RP) rfl ?_
     have a7:=ho.kp Y.out (ts:=[39]) (by simp)
     have m:w.heap.size<=B.heap.size:=a.size
     have hd:∀W:World,Below W.heap.size W W.drew:=fun W=>(GZ4 _ _).drew
     have i:=(b3.own.kp a7 (by decide) (by decide) (by decide) (by decide)).below (hd _)
     have E:=aO (own_kp b2.out a7 (by decide)) (hd _)
     unfold zO
     rw[HE.out,b4.out]
     exact⟨⟨k7,A7,l7,c7,eA,ec,rfl,⟨⟨RH i.ex m,i.mods.le m⟩,b8.out,b7.out⟩,RH E m⟩,Below.drew (b9.trans ((ho.below (GY2 (ZL Y.out))).mono (Nat.le_succ _)))⟩)
   ·cases g
 ·have t1:(F==0)=false:=by simp[t]
  have t2:(F != 0)=true:=by simp[t]
  have HE:=Hp (show F=gV k l f.length by unfold gV;rw[<-HF.out,if_pos t])
  have T:=Hp t
  clear t
  go_enter Tryz.func19,Tryz.ntmps19
  go_wp2_with fail
  refine(c1.out).mono ?_;rintro e w2 ⟨rfl,d⟩
  have n:=Hp (a.trans (d.mono a.size))
  obtain⟨z,r0,r1,r2,r3,f0,f1,f2,f3⟩:=aB ((d.block _ (ZL p.out)).trans p.out)
  clear d g0 g1 g2 g3
  go_wp2_with fail
  obtain⟨hg,ho⟩:=gY z.out (.int .i64 0) (.int .i64 0) (.slice none 0 0) (.slice none 0 0)
  refine bodyPost_ret (dR rfl _ _ (w.heap.size+1) 39 _ (0,0) _ rfl hg Tryz.underlying39 rfl Tryz.RP) rfl ?_
  exact Gc HE.out T.out (n.trans ((ho.below (GY2 (ZL z.out))).mono (by omega)))
end
section
open Go
open Go.RowKit Go.Lib
open Gs (Tx)
abbrev flA (f:Fl):Array Value:=#[.slice f.a f.bl.length f.c]
def FlB (W:World)(a b:Nat)(F:List ByteArray):Prop:=∃f:Fl,W.heap[b]? =some (.cells (flA f) 29 (0,0))/\Rt W a f F
theorem Rt.down {w:World}{b a:Nat}{f:Fl}{l:List ByteArray}(h:Rt w b f l)(c:a<=b):Rt w a f l:=⟨h.own.more c,h.cap,h.is⟩
theorem FlB.kp {ts:List TypeId}{W d:World}{a c:Nat}{F:List ByteArray}(h:FlB W a c F)(b:Kp ts W d)(j:29 ∉ ts)(i:9 ∉ ts):FlB d a c F:=by
 obtain⟨f,g,e⟩:=h
 exact⟨f,b _ _ _ _ g j,e.keep b i⟩
def lM (a:World)(E:Int)(d:List ByteArray)(p e:Value)(b:World):Prop:=
 ∃(c:Fl)(B:Nat),p=.pointer (some ⟨B,0,none⟩)/\e=.int .i64 E/\b.heap[B]? =some (.cells (flA c) 29 (0,0))/\a.heap.size<=B/\Rt b a.heap.size c d/\Below a.heap.size a b
theorem lM.new {e b:World}{E:Int}{i:List ByteArray}{d:Fl}(g:Below e.heap.size e b)(f:Rt b e.heap.size d i):
  lM e E i (.pointer (some ⟨b.heap.size,0,none⟩)) (.int .i64 E) (b.alloc (.cells #[.slice d.a d.bl.length d.c] 29)):=by
 have h:Below b.heap.size b (b.alloc (.cells #[.slice d.a d.bl.length d.c] 29)):=ZB
 exact⟨d,b.heap.size,rfl,rfl,heap_alloc_new _ _,g.size,⟨f.own.below h (GZ3 _),f.cap,f.is⟩,g.trans (h.mono g.size)⟩
theorem lM.old {d b:World}{E:Int}{h:List ByteArray}{e:Fl}{B:Nat}{x:Value}(f:b.heap[B]? =some (.cells #[x] 29 (0,0)))(g:d.heap.size<=B)(j:Below d.heap.size d b)(i:Rt b d.heap.size e h):
  lM d E h (.pointer (some ⟨B,0,none⟩)) (.int .i64 E) (b.setCell ⟨B,0,none⟩ (.slice e.a e.bl.length e.c)):=
 ⟨e,B,rfl,rfl,heap_setCell_same b B 0 _ _ _ f,g,i.keep (Kp.set f (ts:=[29]) (by simp) 0 _) (by decide),j.setCell (p:=⟨B,0,none⟩) g _⟩
theorem Oi {a W b:World}{e:Fl}{f:List ByteArray}(d:Below a.heap.size a W)(c:Below W.heap.size W b)(h:Rt b W.heap.size e f):Below a.heap.size a b/\Rt b a.heap.size e f:=⟨d.trans (c.mono d.size),h.down d.size⟩
theorem mR {a W c:World}(d:Below a.heap.size a W)(b:Below W.heap.size W c):Below a.heap.size a c:=d.trans (b.mono d.size)
def Stepped (a i d f j h g:Nat)(k:Krn)(E:Int)(L:List Plc)(c:List Int)(F:List ByteArray)(B:Int)(l:List ByteArray)(w:World)(e:Ending)(b:World):Prop:=
 Below a w b/\Boxed b j 124 (.pointer (some ⟨d,0,none⟩))/\
  ((e=.returned (.bool true)/\(E≠0\/B=0)/\kT b a d k L/\Un b i f (c++[E])/\FlB b a h (if E≠0 then F else l)/\Boxed b g 30 (.int .i64 0))\/
   (e=.returned (.bool false)/\E=0/\B≠0/\Un b i f c/\FlB b a h F/\Boxed b g 30 (.int .i64 B)))
theorem BO {k:Krn}{l:List Plc}{c:Cm}(h:doE k l c=0):RL c=0:=by
 unfold doE at h
 by_cases e:RL c=0
 ·exact e
 ·rw[if_pos e]at h;exact absurd h e
theorem Fh {d b:World}{a i j c u w l:Nat}{k:Krn}{L:List Plc}{t:List Int}{F:List ByteArray}{E:Int}{v:Value}{f:Option Addr}{n e:Nat}(z:kT d a j k L)(o:Boxed d c 34 v)(y:Boxed d u 124 (.pointer (some ⟨j,0,none⟩)))(B:FlB d a w F)(x:Boxed d l 30 (.int .i64 0))(D:l<i)(m:a<=c)(C:a<=i)
  (A:dN b i (.slice f n e) (t++[E])) (q:Kp [30] d b) (r:Below i d b):
  Below a d (b.setCell ⟨c,0,none⟩ (.slice f n e))/\Boxed (b.setCell ⟨c,0,none⟩ (.slice f n e)) u 124 (.pointer (some ⟨j,0,none⟩))/\kT (b.setCell ⟨c,0,none⟩ (.slice f n e)) a j k L/\Un (b.setCell ⟨c,0,none⟩ (.slice f n e)) i c (t++[E])/\FlB (b.setCell ⟨c,0,none⟩ (.slice f n e)) a w F/\Boxed (b.setCell ⟨c,0,none⟩ (.slice f n e)) l 30 (.int .i64 0):=by
 have s:=box_kp o q (by decide)
 have g:Kp [34] b (b.setCell ⟨c,0,none⟩ (.slice f n e)):=Kp.set s (by simp) 0 _
 have h:Kp [30,34] d (b.setCell ⟨c,0,none⟩ (.slice f n e)):=(q.mono (by simp)).trans (g.mono (by simp))
 exact⟨(r.mono C).setCell (p:=⟨c,0,none⟩) m _,box_kp y h (by decide),z.kp h (by decide) (by decide) (by decide) (by decide) (by decide),⟨_,heap_setCell_same b c 0 _ _ _ s,own_kp A g (by decide)⟩,B.kp h (by decide) (by decide),box_kp ((r.block l D).trans x) g (by decide)⟩
theorem L9 (d K bp bo bx H Z:Nat)(k:Krn)(l:List Plc)(es:List Int)(F:List ByteArray)(b:Cm)(w:World)(h:kT w d bp k l)(hr:aZ k l=0)(he:Un w K bo es)(hx:Boxed w bx 124 (.pointer (some ⟨bp,0,none⟩)))
  (hf:FlB w d H F) (d5:bP F=0) (hz:Boxed w Z 30 (.int .i64 0)) (hm:∀W,Below d w W->b.m.ok W) (hn:b.nm.size<=big) (hl:es.length<=1000000) (d3:d<=bo/\d<=H/\d<=Z) (h2:Z<K) (h3:d<=K) (h4:K<=w.heap.size):
  Calls Tryz.prog 79 (#[b.v]++ #[.pointer (some ⟨bx,0,none⟩),.pointer (some ⟨H,0,none⟩),.pointer (some ⟨Z,0,none⟩),.pointer (some ⟨bo,0,none⟩)]) w (Stepped d K bp bo bx H Z k (doE k l b) (doL k l b) es F (dF F (aG b).length) (bT F (aW F (aG b))) w):=by
 obtain⟨w0,U⟩:=Nm (w.alloc (.cells (cmA b) 102))
 have b8:Below w.heap.size w w0:=U▸ZB
 have C:Kp [] w w0:=U▸(Kp.refl _ _).alloc _
 have c2:w0.heap[w.heap.size]? =some (.cells (cmA b) 102 (0,0)):=by rw[U];exact heap_alloc_new w _
 obtain⟨p0,p1,p2,p3,p4,p5,p6,p7,p8⟩:=dJ c2
 have i:=Hp c2
 obtain⟨v,d7,hv⟩:=he
 have f4:=Hp (box_kp d7 C (by simp))
 have g7:=Hp (show dN w0 K v es from own_kp hv C (by simp))
 have e4:=Hp (box_kp hx C (by simp))
 have i0:=Hp (hf.kp C (by simp) (by simp))
 have g4:=Hp (box_kp hz C (by simp))
 have x0:=e4.cell
 have b6:d<=w.heap.size:=GY1 h3 h4
 have c1:=Hp (kT.do_ (h.kp C (by simp) (by simp) (by simp) (by simp) (by simp)) b hr (hm w0 (b8.mono b6)) hn)
 have HM:=Hp hm
 have HS:=Hp h.lt
 have b0:=Hp b8
 have a5:=Hp d3
 have H2:=Hp h2
 have H3:=Hp h3
 have H4:=Hp h4
 have HL:=Hp hl
 have h6:=Hp d5
 have f3:=Hp b6
 obtain⟨E,hE⟩:=Nm (doE k l b)
 obtain⟨L,hL⟩:=Nm (doL k l b)
 have HE:=Hp hE
 obtain⟨B,hB⟩:=Nm (dF F (aG b).length)
 obtain⟨F',c0⟩:∃F',F'=bT F (aW F (aG b)):=⟨_,rfl⟩
 have HB:=Hp hB
 have i1:=Hp c0
 rw[<-hB,<-c0]
 rw[<-hE,<-hL]at c1 ⊢
 have i3:=U.symm
 clear U b8 C c2 d7 hv hx h hr hm hn hE hL hl d3 b6 hf d5 hz h2 h3 h4 hB c0
 go_enter Tryz.func79,Tryz.ntmps79
 go_wp2_with fail
 refine(c1.out).mono ?_;rintro e j ⟨rfl,d0,d1,z⟩
 have f0:=Hp d0
 have u:=Hp (box_kp f4.out z (by decide))
 have e7:=Hp (show dN j K v es from own_kp g7.out z (by decide))
 have e3:=Hp (box_kp e4.out z (by decide))
 have c5:=Hp (i0.kp z (by decide) (by decide))
 have e1:=Hp (box_kp g4.out z (by decide))
 have a3:=Hp (show Below d w j from(b0.mono f3.out).trans ((d1.below (by have:=HS.out;have:=b0.size;omega)).mono HS.out.1))
 have f2:=Hp (z _ _ _ _ i.out (by decide))
 have c4:=Hp (show d<=j.heap.size from GY1 f3.out a3.size)
 have e8:=Hp (show K<=j.heap.size from GY1 H4.out a3.size)
 clear d0 d1 z c1 p0 p1 p2 p3 p4 p5 p6 p7 p8 x0
 by_cases t:E=0
 ·subst t
  have b5:=BO HE.symm
  have d4:=(kZ b5).2
  obtain⟨f,hh,V⟩:=c5.out
  have a8:f.ok j:=V.ok (.inr h6.out)
  have G:bytesOf (sof (aG b))=aG b:=iZ _
  have cB:=Hp (fun W(hb:Below j.heap.size j W)=>show Calls Tryz.prog 81 #[.agg #[.int .i64 b.kind,.string b.m.name,.int .i64 b.m.major,.int .i64 b.m.minor,.string b.m.text,.slice b.m.eA b.m.ex.length b.m.eC,.slice b.m.iA b.m.im.length b.m.iC,.slice b.m.pA b.m.pa.length b.m.pC,.string b.nm]] W _ from BC b W (HM.out W (a3.trans (hb.mono c4.out))) b5)
  have cA:=Hp (fun W(hb:Below j.heap.size j W)=>uG f (sof (aG b)) W (a8.below hb) (by rw[<-rD];unfold big;omega))
  rw[V.is,<-rD,G,<-HB.out]at cA
  obtain⟨FA,b9⟩:=Nm (xU F (aG b))
  have h7:=Hp (show FA=Bu B F' by rw[b9,HB.out,i1.out];rfl)
  rw[<-b9]at cA
  obtain⟨S,hS⟩:=Nm (sof (aG b))
  rw[<-hS]at cA cB
  have y1:=heap_cell hh 0
  simp only[GZ2,GZ0]at y1
  obtain⟨p0,p1,p2,p3,p4,p5,p6,p7,p8⟩:=dJ f2.out
  have l1:H<j.heap.size:=(ZL hh)
  have l2:w.heap.size<j.heap.size:=(ZL f2.out)
  have HH:=Hp hh
  clear b5 d4 hh V a8 G b9 hS
  go_upto_region 3 with fail
  have R:=Hp (show fI j (fun g=>Below j.heap.size j g/\g.cell? ⟨H,0,none⟩=some (.slice f.a f.bl.length f.c)/\g.cell? ⟨w.heap.size,0,none⟩=some (.int .i64 b.kind)/\g.cell? ⟨w.heap.size,1,none⟩=some (.string b.m.name)/\g.cell? ⟨w.heap.size,2,none⟩=some (.int .i64 b.m.major)/\g.cell? ⟨w.heap.size,3,none⟩=some (.int .i64 b.m.minor)/\g.cell? ⟨w.heap.size,4,none⟩=some (.string b.m.text)/\g.cell? ⟨w.heap.size,5,none⟩=some (.slice b.m.eA b.m.ex.length b.m.eC)/\g.cell? ⟨w.heap.size,6,none⟩=some (.slice b.m.iA b.m.im.length b.m.iC)/\g.cell? ⟨w.heap.size,7,none⟩=some (.slice b.m.pA b.m.pa.length b.m.pC)/\g.cell? ⟨w.heap.size,8,none⟩=some (.string b.nm)) from dE (by repeat' first|(with_reducible exact bC.cell (by first|omega|(simp;omega)|(simp only[aA];omega)))|refine bC.and ?_ ?_))
  have i:=Hp (R.now ⟨GZ4 _ _,by assumption,by assumption,by assumption,by assumption,by assumption,by assumption,by assumption,by assumption,by assumption,by assumption⟩)
  have a7:=Hp R.D
  have r:=Hp R.S
  have I:=Hp R.A
  have a6:=Hp R.X
  have a1:=Hp R.L
  go_cut [8,9,10] from 16 to 23 (fun p _ e wx=>lM j B FA p e wx)
  case first=>
   have g1:=Hp (show∀g:World,Below (j.alloc (.cells #[.slice none 0 0] 29)).drew.heap.size (j.alloc (.cells #[.slice none 0 0] 29)).drew g->g.heap[j.heap.size]? =some (.cells #[.slice none 0 0] 29 (0,0)) from
    fun g hb=>(hb.block j.heap.size (by show j.heap.size<(j.alloc _).heap.size;simp)).trans (heap_alloc_new j _))
   have g2:=Hp (show∀W2 g:World,Below (W2.alloc (.cells #[.slice none 0 0] 29)).heap.size (W2.alloc (.cells #[.slice none 0 0] 29)) g->g.heap[W2.heap.size]? =some (.cells #[.slice none 0 0] 29 (0,0)) from
    fun W2 g hb=>(hb.block W2.heap.size (by simp)).trans (heap_alloc_new W2 _))
   go_region_held3 (fun g=>Below j.heap.size j g/\g.cell? ⟨H,0,none⟩=some (.slice f.a f.bl.length f.c)/\g.cell? ⟨w.heap.size,0,none⟩=some (.int .i64 b.kind)/\g.cell? ⟨w.heap.size,1,none⟩=some (.string b.m.name)/\g.cell? ⟨w.heap.size,2,none⟩=some (.int .i64 b.m.major)/\g.cell? ⟨w.heap.size,3,none⟩=some (.int .i64 b.m.minor)/\g.cell? ⟨w.heap.size,4,none⟩=some (.string b.m.text)/\g.cell? ⟨w.heap.size,5,none⟩=some (.slice b.m.eA b.m.ex.length b.m.eC)/\g.cell? ⟨w.heap.size,6,none⟩=some (.slice b.m.iA b.m.im.length b.m.iC)/\g.cell? ⟨w.heap.size,7,none⟩=some (.slice b.m.pA b.m.pa.length b.m.pC)/\g.cell? ⟨w.heap.size,8,none⟩=some (.string b.nm)) (first|with_reducible exact i.out|with_reducible exact a7.out _ i.out|with_reducible assumption|with_reducible exact r.out _ _ i.out o.out|with_reducible exact r.out _ _ i.out M.out|with_reducible exact I.out _ _ (a7.out _ i.out)|with_reducible exact I.out _ _ i.out|with_reducible exact a7.out _ (I.out _ _ i.out)|with_reducible exact I.out _ _ (r.out _ _ i.out o.out)|with_reducible exact I.out _ _ (r.out _ _ i.out M.out)|with_reducible exact a6.out _ _ _ _ (GZ3 _) (r.out _ _ i.out o.out)|with_reducible exact a6.out _ _ _ _ M.out.size (r.out _ _ i.out o.out)|with_reducible exact a6.out _ _ _ _ o.out.size (I.out _ _ (r.out _ _ i.out o.out))) (first
    |(go_at_call 81;(with_reducible refine(cB.out _ (a1.out _ (by assumption))).mono ?_);rintro e w2 ⟨rfl,d8⟩;have M:=Hp (mR (a1.out _ (by assumption)) d8);(try(have c6:=g1.out w2 d8)))
    |(go_at_call 27;(with_reducible refine(cA.out _ (a1.out _ (by assumption))).mono ?_);rintro e w3 ⟨b7,J,A3,c3,D3,rfl,g0,_,_⟩;obtain⟨d6,c8⟩:=Oi (a1.out _ (by assumption)) b7 g0;have o:=Hp d6;have e9:=Hp c8;(first|(have P:=(b7.block _ (ZL c6)).trans c6;have e0:=Hp (GZ3 j.heap.size);have z3:=heap_cell P 0;have f6:=heap_free P 0;simp only[GZ2,GZ0]at z3)|(have P:=g2.out w2 w3 b7;have e0:=Hp M.out.size;have z3:=heap_cell P 0;have f6:=heap_free P 0;simp only[GZ2,GZ0]at z3)|skip)))
   all_goals(
    go_wp2_with fail
    go_meet
    first
     |exact lM.new o.out e9.out
     |exact lM.old P e0.out o.out e9.out)
  case rest=>
   obtain⟨J,Bk,rfl,rfl,d9,d2,c9,a4⟩:=hcut
   obtain⟨O,rfl⟩:=Nm wc
   have q:Kp [] j O:=Kp.of_below a4
   have h5:=Hp (f0.kp q (by simp) (by simp) (by simp) (by simp) (by simp))
   have b1:=Hp (box_kp u.out q (by simp))
   have e6:=Hp (show dN O K v es from own_kp e7.out q (by simp))
   have e2:=Hp (box_kp e3.out q (by simp))
   have h9:=Hp (c5.kp q (by simp) (by simp))
   have a0:=Hp (box_kp e1.out q (by simp))
   have f5:=Hp (a3.trans (a4.mono c4))
   have Q:=q _ _ _ _ HH.out (by simp)
   have u5:=heap_cell d9 0
   simp only[GZ2,GZ0]at u5
   have g9:=Hp (GY1 e8 a4.size)
   have h0:=Hp (c9.down c4)
   clear i a7 r I a1 a6 cA cB q a4 c9 d9 d2 p0 p1 p2 p3 p4 p5 p6 p7 p8 y1 l1 l2
   by_cases s:B=0
   ·have a9:=h7.out
    rw[SK s]at a9
    subst a9
    have n:Kp [29] O (O.setCell ⟨H,0,none⟩ (.slice J.a J.bl.length J.c)):=Kp.set Q (by simp) 0 _
    have b4:FlB (O.setCell ⟨H,0,none⟩ (.slice J.a J.bl.length J.c)) d H FA:=⟨J,heap_setCell_same O H 0 _ _ _ Q,h0.keep n (by decide)⟩
    have G:Below d O (O.setCell ⟨H,0,none⟩ (.slice J.a J.bl.length J.c)):=(GZ4 _ _).setCell (p:=⟨H,0,none⟩) a5.out.2.1 _
    have y5:=heap_cell Q 0
    have f7:=heap_free Q 0
    simp only[GZ2,GZ0]at y5
    subst s
    go_upto_region 8 with fail
    obtain⟨w6,c7⟩:=Nm (O.setCell ⟨H,0,none⟩ (.slice J.a J.bl.length J.c))
    rw[<-c7]at n b4 G ⊢
    have h1:=Hp (h5.kp n (by decide) (by decide) (by decide) (by decide) (by decide))
    have N:=Hp (box_kp b1.out n (by decide))
    have g6:=Hp (show dN w6 K v es from own_kp e6.out n (by decide))
    have g5:=Hp (box_kp e2.out n (by decide))
    have g3:=Hp (box_kp a0.out n (by decide))
    have h8:=Hp b4
    have i2:=Hp (f5.trans G)
    have g8:=Hp (show K<=w6.heap.size from GY1 g9.out G.size)
    have o1:=N.cell
    have f9:=heap_free N.out 0
    clear c7 n b4 G y5 f7 Q u5
    go_wp2_with (at_builtin;refine uL w6 rfl (.tmp 28) (.tmp 30) rfl K v es 0 rfl rfl g6.out HL.out g8.out ?_;intro v' w4 x y Y;obtain⟨A',c',b3⟩:=bG x;subst b3;have a2:=Hp (box_kp N.out y (by decide));have o4:=a2.cell;have f8:=heap_free a2.out 0;have HP:=Hp (Fh h1.out N.out g5.out h8.out g3.out H2.out a5.out.1 H3.out x y Y);clear x y Y)
    go_ret
    obtain⟨q1,q2,q3,q4,q5,q6⟩:=HP.out
    rw[GZ8]at q1 q2 q3 q4 q5 q6
    exact⟨i2.trans q1,q2,.inl ⟨rfl,.inr rfl,q3,q4,by rw[if_neg (by simp)];exact q5,q6⟩⟩
   ·have s':(B != 0)=true:=by simp[s]
    have S:=Hp s
    have n:Kp [30] O (O.setCell ⟨Z,0,none⟩ (.int .i64 B)):=Kp.set a0.out (by simp) 0 _
    have e5:=a0.cell
    have i4:=heap_free a0.out 0
    have f1:=Hp (show Stepped d K bp bo bx H Z k 0 L es F B F' w (.returned (.bool false)) (O.setCell ⟨Z,0,none⟩ (.int .i64 B)) from
     ⟨f5.setCell (p:=⟨Z,0,none⟩) a5.out.2.2 _,box_kp e2.out n (by decide),.inr ⟨rfl,rfl,s,⟨v,box_kp b1.out n (by decide),ownsRow_setCell_below (a:=⟨Z,0,none⟩) e6.out H2.out _⟩,h9.kp n (by decide) (by decide),heap_setCell_same O Z 0 _ _ _ a0.out⟩⟩)
    clear s n Q u5
    go_wp2_with fail
    go_ret
    exact f1.out
 ·have t':(E==0)=false:=by simp[t]
  have T:=Hp t
  have o1:=u.cell
  have f9:=heap_free u.out 0
  clear t
  go_wp2_with (at_builtin;refine uL j rfl (.tmp 28) (.tmp 30) rfl K v es E rfl rfl e7.out HL.out e8.out ?_;intro v' w4 x y Y;obtain⟨A',c',b3⟩:=bG x;subst b3;have a2:=Hp (box_kp u.out y (by decide));have o4:=a2.cell;have f8:=heap_free a2.out 0;have HP:=Hp (Fh f0.out u.out e3.out c5.out e1.out H2.out a5.out.1 H3.out x y Y);clear x y Y)
  go_ret
  obtain⟨q1,q2,q3,q4,q5,q6⟩:=HP.out
  rw[GZ8]at q1 q2 q3 q4 q5 q6
  exact⟨a3.trans q1,q2,.inl ⟨rfl,.inl T.out,q3,q4,by rw[if_pos T.out];exact q5,q6⟩⟩
end
end Go.Proofs.YtjiedaialianmaaGreat
