import Derived.Test.YtjiedaialianmaaGreatA24
namespace Go.Proofs.YtjiedaialianmaaGreat
section
open Go
open Go.ChangeShapes Go.WideShapes Go.ChangeAt Go.RowKit Go.Deep
def Cm.cells (c:Cm):List Value:=iv c.kind::(c.m.cells++[.string c.nm])
structure nE (w:World)(A:Option Addr)(l:List Cm):Prop where
 row:Row Cm.cells 9 w A l
 len:l.length<=big
 each:∀x∈l,x.m.ok w/\x.nm.size<=big
theorem nE.below {w w':World}{A:Option Addr}{l:List Cm}(h:nE w A l)(b:Below w.heap.size w w'):nE w' A l:=⟨h.row.below b,h.len,fun x a=>⟨(h.each x a).1.below b,(h.each x a).2⟩⟩
end
section
open Go
open Go.RowKit Go.Lib
theorem Cj {x:Imp}(h:dP x=0):isName x.mod=true/\isName x.name=true:=by
 unfold dP at h
 by_cases e:isName x.mod=false\/isName x.name=false
 ·rw[if_pos e]at h;omega
 ·cases a:isName x.mod<;>cases b:isName x.name<;>simp_all
theorem LM {W:World}{a:Nat}{m:Mod}(c:m.own W a)(h:aL m=0):m.ok W:=by
 obtain⟨f,_,i,_,_,l,j,e,g,d,_⟩:=aY h
 have k:1000<=big:=by unfold big;omega
 exact⟨⟨Reads.of_own c.ex,by omega,fun x b=>GY1 (RZ (lJ g x b).1) (by omega)⟩,
  ⟨Reads.of_own c.im,by omega,fun x b=>⟨GY1 (RZ (Cj (kX d x b)).1) (by omega),GY1 (RZ (Cj (kX d x b)).2) (by omega)⟩⟩,
  ⟨Reads.of_own c.pa,by omega⟩,GY1 (RZ f) (by omega),by omega⟩
theorem jS.right {W:World}{a:Nat}{k:Krn}{A:Option Addr}{l:List Plc}{c:Nat}(h:jS W a k A l c)(d:aZ k l=0):k.ok W/\aU W A l:=by
 obtain⟨f,_,j,i⟩:=oL d
 have e:=(dM (Sz d).1).1
 have g:1000000<=big:=by unfold big;omega
 exact⟨⟨⟨Reads.of_own h.ex,by omega,fun x b=>GY1 (RZ (Ee e x b).1) (by omega)⟩⟩,
  ⟨Reads.of_own h.mods.row,by omega,fun x b=>LM (h.mods.each x b) (f x b)⟩⟩
structure jR (W:World)(base bp:Nat)(k:Krn)(A:Option Addr)(l:List Plc)(c:Nat):Prop where
 heap:W.heap[bp]? =some (.cells #[.int .i64 k.major,.int .i64 k.minor,.slice k.eA k.ex.length k.eC,.slice A l.length c] 126 (0,0))
 own:jS W base k A l c
 low:base<=bp
theorem jR.lt {W:World}{a b:Nat}{k:Krn}{A:Option Addr}{l:List Plc}{c:Nat}(h:jR W a b k A l c):b<W.heap.size:=(ZL h.heap)
theorem jR.below {W e:World}{a b:Nat}{k:Krn}{A:Option Addr}{l:List Plc}{c:Nat}(h:jR W a b k A l c)(d:Below W.heap.size W e):jR e a b k A l c:=
 ⟨(d.block b h.lt).trans h.heap,h.own.below d,h.low⟩
theorem Only.of_below {B:Nat}{w a:World}(h:Below w.heap.size w a):Only B w a:=⟨h.os,h.tape,h.output,h.size,fun k b _=>h.block k b⟩
end
section
open Go
open Go.RowKit Go.Lib
def dN (w:World)(a:Nat)(v:Value)(l:List Int):Prop:=w.ownsRow a 30 1 v l.length (l.map iv)
theorem dN.nil (w:World)(a:Nat):dN w a (.slice none 0 0) []:=World.ownsRow_nil _ _ _ _
end
section
open Go
open Go.RowKit
open Gs (Tx)
abbrev jN (w:World)(A:Option Addr)(l:List Int):Prop:=Row (fun n=>[iv n]) 1 w A l
theorem dN.row {w:World}{a:Nat}{v:Value}{b:List Int}(h:dN w a v b):∃(A:Option Addr)(c:Nat),v=.slice A b.length c/\jN w A b:=by
 obtain⟨A,c,rfl⟩:=bG h
 refine⟨A,c,rfl,?_⟩
 have:=Reads.of_own h
 rwa [qJ]at this
end
section
set_option maxRecDepth 100000
set_option maxHeartbeats 8000000
open Go.RowKit Go.Lib
def Ez (w:World)(F:Int)(k:Krn)(L:List Plc)(e:Ending)(c:World):Prop:=
 (∃b d a f,e=.returned (.tuple #[rgV b d a f,.int .i64 F])/\dL c b d a/\b.bare=(wK F k).bare/\aD a=aD (wL F L)/\b=wK F k/\a=wL F L/\aP c w.heap.size (.slice d a.length f) a)/\Below w.heap.size w c
theorem Rx {w a:World}{F:Int}{k:Krn}{L:List Plc}(h:F≠0)(b:Below w.heap.size w a):Ez w F k L (.returned (.tuple #[.agg #[.int .i64 0,.int .i64 0,.slice none 0 0,.slice none 0 0],.int .i64 F])) a:=
 ⟨⟨Rk,none,[],0,rfl,⟨Sg _,⟨Row.nil,Nat.zero_le _,by simp⟩⟩,by rw[wKE h],by rw[wLE h],(wKE h k).symm,(wLE h L).symm,World.ownsRow_nil _ _ _ _⟩,b⟩
theorem rO {w b:World}{k:Krn}{A h:Option Addr}{l L:List Plc}{c i q nR:Nat}(u:Below w.heap.size w b)(o:b.heap[w.heap.size]? =some (.cells #[.int .i64 k.major,.int .i64 k.minor,.slice k.eA k.ex.length k.eC,.slice A l.length c] 39 (0,0)))
  (p:b.heap[w.heap.size+nR]? =some (.cells #[.int .i64 0,.int .i64 0,.slice none 0 0,.slice none 0 0] 39 (0,0))) (y:0<nR) (s:aP b q (.slice h L.length i) L) (v:∀x∈L,x.m.ok w) (j:L.length<=big) (t:k.ok w):
  ∃a,a=b.setCell ⟨w.heap.size,3,none⟩ (.slice h L.length i)/\Hid (a.heap[w.heap.size]? =some (.cells #[.int .i64 k.major,.int .i64 k.minor,.slice k.eA k.ex.length k.eC,.slice h L.length i] 39 (0,0)))/\
   Hid (a.heap[w.heap.size+nR]? =some (.cells #[.int .i64 0,.int .i64 0,.slice none 0 0,.slice none 0 0] 39 (0,0)))/\Hid (Below w.heap.size w a)/\Hid (dL a k h L)/\Hid (aP a q (.slice h L.length i) L):=by
 obtain⟨a,e⟩:=Nm (b.setCell ⟨w.heap.size,3,none⟩ (.slice h L.length i))
 have f:Only w.heap.size b a:=e▸Only.set 3 _
 have g:Below w.heap.size w a:=u.trans (f.below (GY2 (ZL o)))
 have n:a.heap[w.heap.size]? =_:=e▸heap_setCell_same b w.heap.size 3 _ _ (.slice h L.length i) o
 have d:=own_kp s (f.kp o (ts:=[39]) (by simp)) (by decide)
 exact⟨a,e,Hp n,Hp ((f.block _ (ZL p) (by omega)).trans p),Hp g,Hp ⟨t.below g,⟨Reads.of_own d,j,fun x r=>(v x r).below g⟩⟩,Hp d⟩
theorem C8 (k:Krn)(A:Option Addr)(c:Nat)(l:List Plc)(m:Mod)(w:World)(hk:k.ok w)(h:aU w A l)(hm:m.ok w)(d4:aZ k l=0):
  Calls Tryz.prog 39 #[rgV k A l c,m.v] w (Ez w (kP k ⟨1,m,⟨#[]⟩⟩ l) k (oD l m)):=by
 obtain⟨w0,Z⟩:=Nm (w.alloc (.cells #[.int .i64 k.major,.int .i64 k.minor,.slice k.eA k.ex.length k.eC,.slice A l.length c] 39))
 have c0:Below w.heap.size w w0:=Z▸ZB
 have e7:w0.heap.size=w.heap.size+1:=by rw[Z];simp
 have e0:w0.heap[w.heap.size]? =some (.cells #[.int .i64 k.major,.int .i64 k.minor,.slice k.eA k.ex.length k.eC,.slice A l.length c] 39 (0,0)):=by rw[Z];exact heap_alloc_new w _
 obtain⟨x0,Y⟩:=Nm (w0.alloc (.cells #[.string m.name,.int .i64 m.major,.int .i64 m.minor,.string m.text,.slice m.eA m.ex.length m.eC,.slice m.iA m.im.length m.iC,.slice m.pA m.pa.length m.pC] 70))
 obtain⟨y0,a7⟩:=Nm (x0.alloc (.cells #[.int .i64 0,.int .i64 0,.slice none 0 0,.slice none 0 0] 39))
 have b8:Below w0.heap.size w0 x0:=Y▸ZB
 have b7:Below x0.heap.size x0 y0:=a7▸ZB
 have e6:x0.heap.size=w.heap.size+2:=by rw[Y];simp;omega
 have d9:x0.heap[w.heap.size+1]? =some (.cells #[.string m.name,.int .i64 m.major,.int .i64 m.minor,.string m.text,.slice m.eA m.ex.length m.eC,.slice m.iA m.im.length m.iC,.slice m.pA m.pa.length m.pC] 70 (0,0)):=by rw[Y,<-e7];exact heap_alloc_new w0 _
 have c9:=Hp ((b7.block w.heap.size (by omega)).trans ((b8.block w.heap.size (by omega)).trans e0))
 have c8:=Hp ((b7.block (w.heap.size+1) (by omega)).trans d9)
 have c7:=Hp (show y0.heap[w.heap.size+2]? =some (.cells #[.int .i64 0,.int .i64 0,.slice none 0 0,.slice none 0 0] 39 (0,0)) by rw[a7,<-e6];exact heap_alloc_new x0 _)
 have r:=Hp ((c0.trans (b8.mono c0.size)).trans (b7.mono (GY1 c0.size b8.size)))
 obtain⟨n0,n1,n2,n3,n4,n5,n6⟩:=RF c8.out
 obtain⟨_,k0,k1,k2,k3,_⟩:=aB c9.out
 have a4:=Et d4
 have h8:=(cZ a4).1
 have HP:=Hp h
 have HK:=Hp hk
 have c1:=Hp (iV m y0 (hm.below r.out))
 have c2:=Hp (fun W(hb:Below w.heap.size w W)=>lX A c l m.name W (h.below hb).row h.len)
 have c3:=Hp (fun W=>lH m W hm.text)
 have c4:=Hp (fun W(hb:Below w.heap.size w W)=>DI A c l (aH m) W (h.below hb) a4)
 have c5:=Hp (fun W(hb:Below w.heap.size w W)=>FV A c l m (fM (aH m) (RI l)) W (h.below hb) (by omega))
 have a8:oD l m=fH l m (fM (aH m) (RI l)):=rfl
 rw[<-a8]at c5
 obtain⟨F,hF⟩:=Nm (kP k ⟨1,m,⟨#[]⟩⟩ l)
 have a9:F=if SA l m≠0 then SA l m else aZ k (oD l m):=hF
 obtain⟨L,hL⟩:=Nm (oD l m)
 have g7:=Hp (show∀x∈L,x.m.ok w from fun x hx=>by
  rw[hL,a8]at hx
  rcases mU.1 hx with rfl|hx
  ·exact hm
  ·exact h.each x hx)
 have g8:=Hp (show L.length<=big by rw[hL,a8,TY];unfold big;omega)
 rw[<-hF]
 rw[<-hL]at c5 a9 ⊢
 have cases:=AZ l m
 obtain⟨E,hE⟩:=Nm (SA l m)
 rw[<-hE]at cases a9
 obtain⟨M,hM⟩:=Nm (aL m)
 rw[<-hM]at c1 cases
 obtain⟨ix,d7⟩:=Nm (idxOf (named m.name) l)
 rw[<-d7]at c2 cases
 obtain⟨mm,d6⟩:=Nm (aH m)
 rw[<-d6]at c3 c4 c5 cases
 obtain⟨fi,d8⟩:=Nm (fM mm (RI l))
 rw[<-d8]at c4 c5 cases
 have h3:=Z.symm
 have h2:=Y.symm
 have h1:=a7.symm
 clear Z Y a7 c0 b8 b7 e0 d9 hk h hm hF hL a8 hE hM d7 d6 d8 d4 a4 h8
 have a5:=Hp a9
 clear a9
 rcases cases with⟨t1,rfl⟩|⟨rfl,t2,rfl⟩|⟨rfl,t2,t3,rfl⟩|⟨rfl,t2,t3,rfl⟩
 ·have i:F=E:=by rw[a5.out,if_pos t1]
  subst i
  have h4:(F != 0)=true:=by simp[t1]
  have T:=Hp t1
  clear t1
  go_enter Tryz.func39,Tryz.ntmps39
  go_wp2_with fail
  refine(c1.out).mono ?_;rintro e w1 ⟨rfl,a⟩
  have p:=Hp (aF a c7)
  have f:=Hp (r.trans (a.mono r.size))
  clear a
  obtain⟨_,P,O,N,K,V,U,R,Q⟩:=aB p.out
  go_wp2_with fail
  obtain⟨hg,H⟩:=gY p.out (.int .i64 0) (.int .i64 0) (.slice none 0 0) (.slice none 0 0)
  refine bodyPost_ret (results_cell_tmp rfl _ _ (w.heap.size+2) 39 _ (0,0) _ rfl hg Tryz.underlying39 rfl Tryz.RP) rfl ?_
  exact Rx T.out (f.trans ((H.below (GY2 (ZL p.out))).mono (by omega)))
 ·have i:F=6:=by rw[a5.out,if_pos (by decide)]
  subst i
  have t':decide (0<=ix)=true:=decide_eq_true t2
  have T:=Hp (show(6:Int)≠0 by decide)
  clear t2
  go_enter Tryz.func39,Tryz.ntmps39
  go_wp2_with fail
  refine(c1.out).mono ?_;rintro e w1 ⟨rfl,a⟩
  have p:=Hp (aF a c7)
  have z:=Hp (aF a c9)
  have y:=Hp (aF a c8)
  have f:=Hp (r.trans (a.mono r.size))
  obtain⟨_,a0,a1,a2,a3,_⟩:=aB z.out
  obtain⟨b0,b1,b2,b3,b4,b5,b6⟩:=RF y.out
  clear a n0 n1 n2 n3 n4 n5 n6 k0 k1 k2 k3
  go_wp2_with fail
  refine(c2.out _ f.out).mono ?_;rintro e w2 ⟨rfl,b⟩
  have o:=Hp (aF b p)
  have G:=Hp (aF b z)
  have C:=Hp (aF b y)
  have B:=Hp (f.trans (b.mono f.size))
  obtain⟨_,a0,a1,a2,a3,_⟩:=aB G.out
  obtain⟨b0,b1,b2,b3,b4,b5,b6⟩:=RF C.out
  clear b
  obtain⟨_,P,O,N,K,V,U,R,Q⟩:=aB o.out
  go_wp2_with fail
  obtain⟨hg,H⟩:=gY o.out (.int .i64 0) (.int .i64 0) (.slice none 0 0) (.slice none 0 0)
  refine bodyPost_ret (results_cell_tmp rfl _ _ (w.heap.size+2) 39 _ (0,0) _ rfl hg Tryz.underlying39 rfl Tryz.RP) rfl ?_
  exact Rx T.out (B.trans ((H.below (GY2 (ZL o.out))).mono (by omega)))
 ·have i:F=2:=by rw[a5.out,if_pos (by decide)]
  subst i
  have t':decide (0<=ix)=false:=GY7 t2
  have T:=Hp (show(2:Int)≠0 by decide)
  have t4:((l.length:Int)==8)=true:=by have:=t3.out;simp;omega
  clear t2
  go_enter Tryz.func39,Tryz.ntmps39
  go_wp2_with fail
  refine(c1.out).mono ?_;rintro e w1 ⟨rfl,a⟩
  have p:=Hp (aF a c7)
  have z:=Hp (aF a c9)
  have y:=Hp (aF a c8)
  have f:=Hp (r.trans (a.mono r.size))
  obtain⟨_,a0,a1,a2,a3,_⟩:=aB z.out
  obtain⟨b0,b1,b2,b3,b4,b5,b6⟩:=RF y.out
  clear a n0 n1 n2 n3 n4 n5 n6 k0 k1 k2 k3
  go_wp2_with fail
  refine(c2.out _ f.out).mono ?_;rintro e w2 ⟨rfl,b⟩
  have o:=Hp (aF b p)
  have G:=Hp (aF b z)
  have C:=Hp (aF b y)
  have B:=Hp (f.trans (b.mono f.size))
  obtain⟨_,a0,a1,a2,a3,_⟩:=aB G.out
  obtain⟨b0,b1,b2,b3,b4,b5,b6⟩:=RF C.out
  clear b
  obtain⟨_,P,O,N,K,V,U,R,Q⟩:=aB o.out
  go_wp2_with fail
  obtain⟨hg,H⟩:=gY o.out (.int .i64 0) (.int .i64 0) (.slice none 0 0) (.slice none 0 0)
  refine bodyPost_ret (results_cell_tmp rfl _ _ (w.heap.size+2) 39 _ (0,0) _ rfl hg Tryz.underlying39 rfl Tryz.RP) rfl ?_
  exact Rx T.out (B.trans ((H.below (GY2 (ZL o.out))).mono (by omega)))
 ·have t':decide (0<=ix)=false:=GY7 t2
  have t4:((l.length:Int)==8)=false:=by have:=t3.out;simp;omega
  clear t2
  go_enter Tryz.func39,Tryz.ntmps39
  go_wp2_with fail
  refine(c1.out).mono ?_;rintro e w1 ⟨rfl,a⟩
  have p:=Hp (aF a c7)
  have z:=Hp (aF a c9)
  have y:=Hp (aF a c8)
  have f:=Hp (r.trans (a.mono r.size))
  obtain⟨_,a0,a1,a2,a3,_⟩:=aB z.out
  obtain⟨b0,b1,b2,b3,b4,b5,b6⟩:=RF y.out
  clear a n0 n1 n2 n3 n4 n5 n6 k0 k1 k2 k3
  go_wp2_with fail
  refine(c2.out _ f.out).mono ?_;rintro e w2 ⟨rfl,b⟩
  have o:=Hp (aF b p)
  have G:=Hp (aF b z)
  have C:=Hp (aF b y)
  have B:=Hp (f.trans (b.mono f.size))
  obtain⟨_,a0,a1,a2,a3,_⟩:=aB G.out
  obtain⟨b0,b1,b2,b3,b4,b5,b6⟩:=RF C.out
  clear b
  have f0:=(ZL G.out)
  have e9:=(ZL C.out)
  have J:=Hp (show fI w2 (fun n=>Below w2.heap.size w2 n/\n.cell? ⟨w.heap.size,3,none⟩=some (.slice A l.length c)/\n.cell? ⟨(w.heap.size+1),0,none⟩=some (.string m.name)/\n.cell? ⟨(w.heap.size+1),1,none⟩=some (.int .i64 m.major)/\n.cell? ⟨(w.heap.size+1),2,none⟩=some (.int .i64 m.minor)/\n.cell? ⟨(w.heap.size+1),3,none⟩=some (.string m.text)/\n.cell? ⟨(w.heap.size+1),4,none⟩=some (.slice m.eA m.ex.length m.eC)/\n.cell? ⟨(w.heap.size+1),5,none⟩=some (.slice m.iA m.im.length m.iC)/\n.cell? ⟨(w.heap.size+1),6,none⟩=some (.slice m.pA m.pa.length m.pC)) from dE (by repeat' first|(with_reducible exact bC.cell (by first|omega|(simp;omega)|(simp only[aA];omega)))|refine bC.and ?_ ?_))
  have d:=Hp (J.now ⟨GZ4 _ _,by assumption,by assumption,by assumption,by assumption,by assumption,by assumption,by assumption,by assumption⟩)
  have j:=Hp J.D
  have g:=Hp J.S
  have q:=Hp J.A
  have d0:=Hp J.X
  have d3:=Hp J.L
  go_wp2_with fail
  go_region_held3 (fun n=>Below w2.heap.size w2 n/\n.cell? ⟨w.heap.size,3,none⟩=some (.slice A l.length c)/\n.cell? ⟨(w.heap.size+1),0,none⟩=some (.string m.name)/\n.cell? ⟨(w.heap.size+1),1,none⟩=some (.int .i64 m.major)/\n.cell? ⟨(w.heap.size+1),2,none⟩=some (.int .i64 m.minor)/\n.cell? ⟨(w.heap.size+1),3,none⟩=some (.string m.text)/\n.cell? ⟨(w.heap.size+1),4,none⟩=some (.slice m.eA m.ex.length m.eC)/\n.cell? ⟨(w.heap.size+1),5,none⟩=some (.slice m.iA m.im.length m.iC)/\n.cell? ⟨(w.heap.size+1),6,none⟩=some (.slice m.pA m.pa.length m.pC)) (first|exact d.out|exact j.out _ d.out|exact g.out _ _ (by assumption) (by assumption)|exact g.out _ _ d.out (by assumption)|exact g.out _ _ (j.out _ d.out) (by assumption)|exact g.out _ _ (j.out _ (by assumption)) (by assumption)|exact j.out _ (by assumption)|exact q.out _ _ (by assumption)|exact q.out _ _ d.out|exact q.out _ _ (j.out _ d.out)|exact j.out _ (q.out _ _ (by assumption))|exact q.out _ _ (g.out _ _ d.out (by assumption))|exact q.out _ _ (g.out _ _ (j.out _ d.out) (by assumption))|exact d0.out _ _ _ _ (GZ3 _) (by assumption)|exact d0.out _ _ _ _ (GZ3 _) (g.out _ _ (q.out _ _ d.out) (by assumption))|exact d0.out _ _ _ _ (GZ3 _) (g.out _ _ (j.out _ (q.out _ _ d.out)) (by assumption))|assumption) (first|(go_at_call 107;(with_reducible refine(c3.out _).mono ?_);rintro e w3 ⟨rfl,h5⟩)|(go_at_call 106;(with_reducible refine(c4.out _ (B.out.trans ((d3.out _ (by first|assumption|exact g.out _ _ (by assumption) (by assumption)|exact g.out _ _ d.out (by assumption)|exact g.out _ _ (j.out _ d.out) (by assumption))).mono B.out.size))).mono ?_);rintro e w4 ⟨rfl,f1⟩))
  have s:=d3.out w4 (by assumption)
  have c6:=Hp (aF s o)
  have e3:=Hp (aF s G)
  have g6:=Hp (aF s C)
  have a6:=Hp (B.trans (s.mono B.size))
  obtain⟨_,a0,a1,a2,a3,_⟩:=aB e3.out
  obtain⟨b0,b1,b2,b3,b4,b5,b6⟩:=RF g6.out
  clear s f1 d j g q d0 d3 f0 e9
  by_cases t:fi<0
  ·have i:F=8:=by rw[a5.out,if_pos t,if_pos (by decide)]
   subst i
   have t5:decide (fi<0)=true:=decide_eq_true t
   have T:=Hp (show(8:Int)≠0 by decide)
   clear t
   obtain⟨_,P,O,N,K,V,U,R,Q⟩:=aB c6.out
   go_wp2_with fail
   obtain⟨hg,H⟩:=gY c6.out (.int .i64 0) (.int .i64 0) (.slice none 0 0) (.slice none 0 0)
   refine bodyPost_ret (results_cell_tmp rfl _ _ (w.heap.size+2) 39 _ (0,0) _ rfl hg Tryz.underlying39 rfl Tryz.RP) rfl ?_
   exact Rx T.out (a6.trans ((H.below (GY2 (ZL c6.out))).mono (by omega)))
  ·have i:F=aZ k L:=by rw[a5.out,if_neg t,if_neg (by decide)]
   have HF:=Hp i
   have t5:decide (fi<0)=false:=GY7 t
   clear t i
   go_wp2_with fail
   refine(c5.out _ a6.out).mono ?_;rintro e w5 ⟨⟨A5,d1,rfl,d5⟩,b9⟩
   have g5:=Hp (show aP w5 w.heap.size _ _ from RH d5 a6.size)
   have f8:=Hp (aF b9 c6)
   have e2:=Hp (aF b9 e3)
   have h0:=Hp (a6.trans (b9.mono a6.size))
   clear d5 b9 a0 a1 a2 a3 b0 b1 b2 b3 b4 b5 b6
   obtain⟨_,g0,g1,g2,g3,f5,f4,f3,f2⟩:=aB e2.out
   go_wp2_with fail
   obtain⟨w8,e8,e1,f7,e5,d2,g4⟩:=rO (nR:=2) h0.out e2.out f8.out (by omega) g5.out g7.out g8.out HK.out
   rw[<-e8]
   clear e8 g0 g1 g2 g3 f5 f4 f3 f2
   obtain⟨_,g0,g1,g2,g3,_⟩:=aB e1.out
   have cC:=Hp (gH k A5 d1 L w8 d2.out.1 d2.out.2)
   rw[<-HF.out]at cC
   try go_wp2_with fail
   refine(cC.out).mono ?_;rintro e w9 ⟨rfl,I⟩
   have u:=Hp (aF I f7)
   have g9:=Hp (aF I e1)
   have e4:=Hp (e5.trans (I.mono e5.size))
   have f6:=Hp (d2.below I)
   have f9:=Hp (aO g4 I)
   clear I cC g0 g1 g2 g3
   by_cases t:F=0
   ·subst t
    obtain⟨_,g0,g1,g2,g3,_⟩:=aB g9.out
    obtain⟨_,P,O,N,K,V,U,R,Q⟩:=aB u.out
    go_wp2_with fail
    obtain⟨hg,H⟩:=gY u.out (.int .i64 k.major) (.int .i64 k.minor) (.slice k.eA k.ex.length k.eC) (.slice A5 L.length d1)
    refine bodyPost_ret (results_cell_tmp rfl _ _ (w.heap.size+2) 39 _ (0,0) _ rfl hg Tryz.underlying39 rfl Tryz.RP) rfl ?_
    exact⟨⟨k,A5,L,d1,rfl,f6.other ⟨_,_,_,_,_,_,_,_,u.out⟩ H,rfl,rfl,rfl,rfl,own_kp f9.out (H.kp u.out (ts:=[39]) (by simp)) (by decide)⟩,e4.trans ((H.below (GY2 (ZL u.out))).mono (by omega))⟩
   ·have t':(F != 0)=true:=by simp[t]
    have T:=Hp t
    clear t
    obtain⟨_,P,O,N,K,V,U,R,Q⟩:=aB u.out
    go_wp2_with fail
    obtain⟨hg,H⟩:=gY u.out (.int .i64 0) (.int .i64 0) (.slice none 0 0) (.slice none 0 0)
    refine bodyPost_ret (results_cell_tmp rfl _ _ (w.heap.size+2) 39 _ (0,0) _ rfl hg Tryz.underlying39 rfl Tryz.RP) rfl ?_
    exact Rx T.out (e4.trans ((H.below (GY2 (ZL u.out))).mono (by omega)))
end
section
open Go
open Go.RowKit Go.Lib
structure Rn (w0 W:World)(k:Krn)(A:Option Addr)(l:List Plc)(c:Nat):Prop where
 krn:k.ok w0
 mods:∀x∈l,x.m.ok w0
 len:l.length<=big
 row:Row Plc.cells 8 w0 A l\/aP W w0.heap.size (.slice A l.length c) l
 bel:Below w0.heap.size w0 W
theorem Rn.next {a W b:World}{ts:List TypeId}{k:Krn}{A:Option Addr}{l:List Plc}{c:Nat}(h:Rn a W k A l c)(f:Below a.heap.size a b)(e:Kp ts W b)(d:83 ∉ ts):Rn a b k A l c:=
 ⟨h.krn,h.mods,h.len,h.row.imp id fun r=>own_kp r e d,f⟩
theorem Rn.below {a W d:World}{k:Krn}{A:Option Addr}{l:List Plc}{c:Nat}(h:Rn a W k A l c)(b:Below W.heap.size W d):Rn a d k A l c:=
 h.next (h.bel.trans (b.mono h.bel.size)) (Kp.of_below (ts:=[]) b) (by simp)
end
section
open Go
open Go.RowKit Go.Lib
open Gs (Tx)
theorem uU {W:World}{a:Nat}{c k:Krn}{d:Option Addr}{b l:List Plc}{f:Nat}(h:UQ W a c d b f k l)(e:aZ k l=0):dL W c d b:=
 jS.right h.own (by rw[kQ h.RU h.mods];exact e)
end
section
open Go
open Go.RowKit
theorem qL {W:World}{b:Nat}{d c a:Value}{t:TypeId}(h:W.heap[b]? =some (.cells #[d,c,a] t (0,0))):W.cell? ⟨b,0,none⟩=some d/\W.cell? ⟨b,1,none⟩=some c/\W.cell? ⟨b,2,none⟩=some a:=⟨heap_cell h 0,heap_cell h 1,heap_cell h 2⟩
end
section
open Go
open Go.RowKit Go.Lib
structure BD (v wr:World)(b0:Nat)(g:Fl)(v6:Value)(F R:List ByteArray):Prop where
 cell:wr.heap[v.heap.size]? =some (.cells #[.slice g.a g.bl.length g.c] 29 (0,0))
 res:Rt wr b0 g F
 texts:dA wr v.heap.size v6 R
 apart:∀b,(Value.slice g.a g.bl.length g.c).ownBlock=some b->v6.ownBlock≠some b
 below:Below v.heap.size v wr
theorem BD.later {v wr b:World}{d:Nat}{g:Fl}{c:Value}{F R:List ByteArray}(h:BD v wr d g c F R)(a:Below wr.heap.size wr b):BD v b d g c F R:=
 ⟨(a.block _ (ZL h.cell)).trans h.cell,⟨h.res.own.below a (GZ3 _),h.res.cap,h.res.is⟩,h.texts.below a (GZ3 _),h.apart,h.below.trans (a.mono h.below.size)⟩
theorem BD.put {v wr f:World}{l:Nat}{g e:Fl}{m:Value}{F n R:List ByteArray}(h:BD v wr l g m F R)(o:Below wr.heap.size wr f)(i:Rt f wr.heap.size e n)(q:l<=wr.heap.size):
  BD v (f.setCell ⟨v.heap.size,0,none⟩ (.slice e.a e.bl.length e.c)) l e m n R:=by
 have d:=h.later o
 refine⟨heap_setCell_same f v.heap.size 0 _ _ _ d.cell,⟨(i.own.eT d.cell (by decide) 0 _).more q,i.cap,i.is⟩,d.texts.eT d.cell (by decide) 0 _,?_,d.below.setCell (p:=⟨v.heap.size,0,none⟩) (GZ3 _) _⟩
 intro b k j
 have s:=(EW i.own k).2
 have r:=(EW h.texts j).1
 omega
theorem BD.text {v wr f:World}{l:Nat}{g:Fl}{i a:Value}{F R m:List ByteArray}(h:BD v wr l g i F R)(n:dA f v.heap.size a m)(k:wr.grownBy f i.ownBlock)(d:a.ownBlock=i.ownBlock\/a.ownBlock=some wr.heap.size)(j:Below v.heap.size wr f):
  BD v f l g a F m:=by
 refine⟨GX h.texts k h.cell (by decide),⟨h.res.own.grown k (fun b o=>h.apart b o),h.res.cap,h.res.is⟩,n,?_,h.below.trans j⟩
 intro b e c
 rcases d with d|d
 ·exact h.apart b e (d▸c)
 ·rw[d]at c
  have:=(EW h.res.own e).1
  injection c with c
  omega
end
end Go.Proofs.YtjiedaialianmaaGreat
