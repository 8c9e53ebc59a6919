import Derived.Test.YtjiedaialianmaaGreatA22
import Derived.Test.YtjiedaialianmaaGreatA23
set_option maxRecDepth 100000
set_option maxHeartbeats 8000000
namespace Go.Proofs.YtjiedaialianmaaGreat
section
open Go
open Gs (Tx)
theorem Px {k:Krn}{c:Cm}{l:List Plc}(h:kP k c l=0):kC c l=0/\aZ k (cmL c l)=0:=by
 unfold kP at h
 by_cases e:kC c l=0
 ·rw[if_neg (by omega)]at h;exact⟨e,h⟩
 ·rw[if_pos e]at h;exact absurd h e
theorem Et {k:Krn}{l:List Plc}(h:aZ k l=0):RY l=0:=(dM (Sz h).1).2.1
end
section
open Go.RowKit Go.Lib
theorem AZ (l:List Plc)(m:Mod):(aL m≠0/\SA l m=aL m)\/(aL m=0/\0<=idxOf (named m.name) l/\SA l m=6)\/(aL m=0/\¬0<=idxOf (named m.name) l/\Hid (l.length=8)/\SA l m=2)\/
  (aL m=0/\¬0<=idxOf (named m.name) l/\Hid (l.length≠8)/\SA l m=if fM (aH m) (RI l)<0 then 8 else 0):=by
 unfold SA
 by_cases b:aL m=0
 ·rw[if_neg (by omega)]
  by_cases a:0<=idxOf (named m.name) l
  ·rw[if_pos a];exact .inr (.inl ⟨b,a,rfl⟩)
  ·rw[if_neg a]
   by_cases c:l.length=8
   ·rw[if_pos c];exact .inr (.inr (.inl ⟨b,a,Hp c,rfl⟩))
   ·rw[if_neg c];exact .inr (.inr (.inr ⟨b,a,Hp c,rfl⟩))
 ·rw[if_pos b];exact .inl ⟨b,rfl⟩
theorem EY (I O:Nat)(k:Krn)(A:Option Addr)(c:Nat)(l:List Plc)(m:Mod)(w:World)(h:RJ w I O k A l c)(hm:m.ok w)(hr:RY l=0):
  Calls Tryz.prog 214 #[.pointer (some ⟨O,0,none⟩),m.v] w (qV w I O k (SA l m) (oD l m)):=by
 obtain⟨T,P⟩:=Nm (w.alloc (.cells #[.string m.name,.int .i64 m.major,.int .i64 m.minor,.string m.text,.slice m.eA m.ex.length m.eC,.slice m.iA m.im.length m.iC,.slice m.pA m.pa.length m.pC] 70))
 have C:Below w.heap.size w T:=P▸ZB
 have Y:T.heap[w.heap.size]? =some (.cells #[.string m.name,.int .i64 m.major,.int .i64 m.minor,.string m.text,.slice m.eA m.ex.length m.eC,.slice m.iA m.im.length m.iC,.slice m.pA m.pa.length m.pC] 70 (0,0)):=by rw[P];exact heap_alloc_new w _
 have F:=Hp (h.below C)
 obtain⟨m0,m1,m2,m3,m4,m5,m6⟩:=RF Y
 have G:=Hp Y
 have B:=Hp C
 have Q:=Hp h.size
 have a5:=Hp (fun W(V:Below w.heap.size w W)=>hm.below V)
 have H8:=Hp (cZ hr).1
 have HR:=Hp hr
 have c1:=Hp (oM m T (hm.below C))
 have cases:=AZ l m
 have cP:=Hp (fun W(V:Below T.heap.size T W)=>SY A c l m.name W (F.below V).ok.row (F.below V).ok.len)
 have cF:=Hp (fun W(V:Below T.heap.size T W)(he:aL m=0)=>He I O k A c l m W (F.below V) (hm.below (C.trans (V.mono C.size))) he hr)
 have a1:oD l m=fH l m (fM (aH m) (RI l)):=rfl
 rw[<-a1]at cF
 obtain⟨L,hL⟩:=Nm (oD l m)
 rw[<-hL]at cF ⊢
 obtain⟨E,hE⟩:=Nm (SA l m)
 rw[<-hE]at cases⊢
 obtain⟨M,hM⟩:=Nm (aL m)
 rw[<-hM]at c1 cases cF
 obtain⟨ix,a0⟩:=Nm (idxOf (named m.name) l)
 rw[<-a0]at cP cases
 obtain⟨fe,a2⟩:∃fe:Int,fe=if fM (aH m) (RI l)<0 then 8 else 0:=⟨_,rfl⟩
 rw[<-a2]at cF cases
 have a3:=P.symm
 clear P C Y h hm hr a1 hL hE hM a0 a2
 rcases cases with⟨t1,rfl⟩|⟨rfl,U,rfl⟩|⟨rfl,U,t3,rfl⟩|⟨rfl,U,t3,rfl⟩
 ·have a4:(E != 0)=true:=by simp[t1]
  have T1:=Hp t1
  clear t1
  go_enter Tryz.func214,Tryz.ntmps214
  go_wp2_with fail
  refine(c1.out).mono ?_;rintro e x ⟨rfl,g⟩
  have u:=Hp (B.trans (g.mono B.size))
  clear g
  go_wp2_with fail
  go_ret
  exact⟨rfl,fun e=>absurd e T1.out,Kp.of_below u.out,u.mono Q.out⟩
 ·have t':decide (0<=ix)=true:=decide_eq_true U
  clear U
  go_enter Tryz.func214,Tryz.ntmps214
  go_wp2_with fail
  refine(c1.out).mono ?_;rintro e x ⟨rfl,g⟩
  have p:=Hp g
  have j:=(g.block w.heap.size (ZL G.out)).trans G.out
  have K:=Hp j
  have z:=Hp (F.below g)
  obtain⟨n0,n1,n2,n3,n4,n5,n6⟩:=RF j
  obtain⟨y,_,_,_,q3,_⟩:=dI z.out
  have r:=Hp (B.trans (g.mono B.size))
  have q:w.heap.size<x.heap.size:=(ZL j)
  clear g j m0 m1 m2 m3 m4 m5 m6
  have i:=Hp (show fI x (fun s=>Below x.heap.size x s/\s.cell? ⟨w.heap.size,0,none⟩=some (.string m.name)/\s.cell? ⟨O,3,none⟩=some (.slice A l.length c)) from dE (by repeat' first|(with_reducible exact bC.cell (by first|omega|(simp;omega)|(simp only[aA];omega)))|refine bC.and ?_ ?_))
  have a:=Hp (i.now ⟨GZ4 _ _,by assumption,by assumption⟩)
  have b:=Hp i.D
  have d:=Hp i.S
  have f:=Hp i.A
  have n:=Hp i.X
  have t:=Hp i.L
  go_wp2_with fail
  go_region_held3 (fun s=>Below x.heap.size x s/\s.cell? ⟨w.heap.size,0,none⟩=some (.string m.name)/\s.cell? ⟨O,3,none⟩=some (.slice A l.length c)) (first|exact a.out|exact b.out _ a.out|exact d.out _ _ (by assumption) (by assumption)|exact d.out _ _ a.out (by assumption)|exact d.out _ _ (b.out _ a.out) (by assumption)|exact d.out _ _ (b.out _ (by assumption)) (by assumption)|exact b.out _ (by assumption)|exact f.out _ _ (by assumption)|exact f.out _ _ a.out|exact f.out _ _ (b.out _ a.out)|exact b.out _ (f.out _ _ (by assumption))|exact f.out _ _ (d.out _ _ a.out (by assumption))|exact f.out _ _ (d.out _ _ (b.out _ a.out) (by assumption))|exact n.out _ _ _ _ (GZ3 _) (by assumption)|exact n.out _ _ _ _ (GZ3 _) (d.out _ _ (f.out _ _ a.out) (by assumption))|exact n.out _ _ _ _ (GZ3 _) (d.out _ _ (b.out _ (f.out _ _ a.out)) (by assumption))|assumption) (first|(go_at_call 124;(with_reducible refine(cP.out _ (p.out.trans ((t.out _ (by first|assumption|exact b.out _ (by assumption)|exact a.out|exact b.out _ a.out)).mono p.out.size))).mono ?_);rintro e Z ⟨rfl,H⟩))
  have o:=Hp (t.out Z (by assumption))
  have J:=Hp (z.below o)
  have u:=Hp (r.trans (o.mono r.size))
  have N:=Hp (p.trans (o.mono p.size))
  obtain⟨p0,p1,p2,p3,p4,p5,p6⟩:=RF ((o.block w.heap.size q).trans K.out)
  obtain⟨R,_,_,_,r3,_⟩:=dI J.out
  clear H a b d f n t n0 n1 n2 n3 n4 n5 n6 q3 y q
  go_wp2_with fail
  go_ret
  exact⟨rfl,fun e=>absurd e (by decide),Kp.of_below u.out,u.mono Q.out⟩
 ·have t':decide (0<=ix)=false:=GY7 U
  clear U
  go_enter Tryz.func214,Tryz.ntmps214
  go_wp2_with fail
  refine(c1.out).mono ?_;rintro e x ⟨rfl,g⟩
  have p:=Hp g
  have j:=(g.block w.heap.size (ZL G.out)).trans G.out
  have K:=Hp j
  have z:=Hp (F.below g)
  obtain⟨n0,n1,n2,n3,n4,n5,n6⟩:=RF j
  obtain⟨y,_,_,_,q3,_⟩:=dI z.out
  have r:=Hp (B.trans (g.mono B.size))
  have q:w.heap.size<x.heap.size:=(ZL j)
  clear g j m0 m1 m2 m3 m4 m5 m6
  have i:=Hp (show fI x (fun s=>Below x.heap.size x s/\s.cell? ⟨w.heap.size,0,none⟩=some (.string m.name)/\s.cell? ⟨O,3,none⟩=some (.slice A l.length c)) from dE (by repeat' first|(with_reducible exact bC.cell (by first|omega|(simp;omega)|(simp only[aA];omega)))|refine bC.and ?_ ?_))
  have a:=Hp (i.now ⟨GZ4 _ _,by assumption,by assumption⟩)
  have b:=Hp i.D
  have d:=Hp i.S
  have f:=Hp i.A
  have n:=Hp i.X
  have t:=Hp i.L
  go_wp2_with fail
  go_region_held3 (fun s=>Below x.heap.size x s/\s.cell? ⟨w.heap.size,0,none⟩=some (.string m.name)/\s.cell? ⟨O,3,none⟩=some (.slice A l.length c)) (first|exact a.out|exact b.out _ a.out|exact d.out _ _ (by assumption) (by assumption)|exact d.out _ _ a.out (by assumption)|exact d.out _ _ (b.out _ a.out) (by assumption)|exact d.out _ _ (b.out _ (by assumption)) (by assumption)|exact b.out _ (by assumption)|exact f.out _ _ (by assumption)|exact f.out _ _ a.out|exact f.out _ _ (b.out _ a.out)|exact b.out _ (f.out _ _ (by assumption))|exact f.out _ _ (d.out _ _ a.out (by assumption))|exact f.out _ _ (d.out _ _ (b.out _ a.out) (by assumption))|exact n.out _ _ _ _ (GZ3 _) (by assumption)|exact n.out _ _ _ _ (GZ3 _) (d.out _ _ (f.out _ _ a.out) (by assumption))|exact n.out _ _ _ _ (GZ3 _) (d.out _ _ (b.out _ (f.out _ _ a.out)) (by assumption))|assumption) (first|(go_at_call 124;(with_reducible refine(cP.out _ (p.out.trans ((t.out _ (by first|assumption|exact b.out _ (by assumption)|exact a.out|exact b.out _ a.out)).mono p.out.size))).mono ?_);rintro e Z ⟨rfl,H⟩))
  have o:=Hp (t.out Z (by assumption))
  have J:=Hp (z.below o)
  have u:=Hp (r.trans (o.mono r.size))
  have N:=Hp (p.trans (o.mono p.size))
  obtain⟨p0,p1,p2,p3,p4,p5,p6⟩:=RF ((o.block w.heap.size q).trans K.out)
  obtain⟨R,_,_,_,r3,_⟩:=dI J.out
  clear H a b d f n t n0 n1 n2 n3 n4 n5 n6 q3 y q
  have t4:((l.length:Int)==8)=true:=by have:=t3.out;simp;omega
  go_wp2_with fail
  go_ret
  exact⟨rfl,fun e=>absurd e (by decide),Kp.of_below u.out,u.mono Q.out⟩
 ·have t':decide (0<=ix)=false:=GY7 U
  go_enter Tryz.func214,Tryz.ntmps214
  go_wp2_with fail
  refine(c1.out).mono ?_;rintro e x ⟨rfl,g⟩
  have p:=Hp g
  have j:=(g.block w.heap.size (ZL G.out)).trans G.out
  have K:=Hp j
  have z:=Hp (F.below g)
  obtain⟨n0,n1,n2,n3,n4,n5,n6⟩:=RF j
  obtain⟨y,_,_,_,q3,_⟩:=dI z.out
  have r:=Hp (B.trans (g.mono B.size))
  have q:w.heap.size<x.heap.size:=(ZL j)
  clear g j m0 m1 m2 m3 m4 m5 m6
  have i:=Hp (show fI x (fun s=>Below x.heap.size x s/\s.cell? ⟨w.heap.size,0,none⟩=some (.string m.name)/\s.cell? ⟨O,3,none⟩=some (.slice A l.length c)) from dE (by repeat' first|(with_reducible exact bC.cell (by first|omega|(simp;omega)|(simp only[aA];omega)))|refine bC.and ?_ ?_))
  have a:=Hp (i.now ⟨GZ4 _ _,by assumption,by assumption⟩)
  have b:=Hp i.D
  have d:=Hp i.S
  have f:=Hp i.A
  have n:=Hp i.X
  have t:=Hp i.L
  go_wp2_with fail
  go_region_held3 (fun s=>Below x.heap.size x s/\s.cell? ⟨w.heap.size,0,none⟩=some (.string m.name)/\s.cell? ⟨O,3,none⟩=some (.slice A l.length c)) (first|exact a.out|exact b.out _ a.out|exact d.out _ _ (by assumption) (by assumption)|exact d.out _ _ a.out (by assumption)|exact d.out _ _ (b.out _ a.out) (by assumption)|exact d.out _ _ (b.out _ (by assumption)) (by assumption)|exact b.out _ (by assumption)|exact f.out _ _ (by assumption)|exact f.out _ _ a.out|exact f.out _ _ (b.out _ a.out)|exact b.out _ (f.out _ _ (by assumption))|exact f.out _ _ (d.out _ _ a.out (by assumption))|exact f.out _ _ (d.out _ _ (b.out _ a.out) (by assumption))|exact n.out _ _ _ _ (GZ3 _) (by assumption)|exact n.out _ _ _ _ (GZ3 _) (d.out _ _ (f.out _ _ a.out) (by assumption))|exact n.out _ _ _ _ (GZ3 _) (d.out _ _ (b.out _ (f.out _ _ a.out)) (by assumption))|assumption) (first|(go_at_call 124;(with_reducible refine(cP.out _ (p.out.trans ((t.out _ (by first|assumption|exact b.out _ (by assumption)|exact a.out|exact b.out _ a.out)).mono p.out.size))).mono ?_);rintro e Z ⟨rfl,H⟩))
  have o:=Hp (t.out Z (by assumption))
  have J:=Hp (z.below o)
  have u:=Hp (r.trans (o.mono r.size))
  have N:=Hp (p.trans (o.mono p.size))
  obtain⟨p0,p1,p2,p3,p4,p5,p6⟩:=RF ((o.block w.heap.size q).trans K.out)
  obtain⟨R,_,_,_,r3,_⟩:=dI J.out
  clear H a b d f n t n0 n1 n2 n3 n4 n5 n6 q3 y q
  have t4:((l.length:Int)==8)=false:=by have:=t3.out;simp;omega
  have c5:=Hp (cF.out Z N.out (by trivial))
  clear cF
  go_wp2_with fail
  refine(c5.out).mono ?_;rintro e w5 hd
  have HD:=Hp (qV.after (Kp.of_below u) (u.mono Q) _ _ hd)
  obtain⟨rfl,_⟩:=hd
  go_wp2_with fail
  go_ret
  exact HD.out
theorem De (l:List Plc)(a:ByteArray):(idxOf (named a) l<0/\lF l a=5)\/(∃j:Nat,idxOf (named a) l=j/\oN l a=true/\lF l a=4)\/(∃j:Nat,idxOf (named a) l=j/\oN l a=false/\lF l a=0):=by
 unfold lF
 by_cases b:idxOf (named a) l<0
 ·rw[if_pos b];exact .inl ⟨b,rfl⟩
 ·rw[if_neg b]
  have c:idxOf (named a) l=((idxOf (named a) l).toNat:Nat):=by omega
  cases d:oN l a
  ·exact .inr (.inr ⟨_,c,rfl,rfl⟩)
  ·exact .inr (.inl ⟨_,c,rfl,rfl⟩)
theorem G5 (i u:Nat)(k:Krn)(A:Option Addr)(c:Nat)(l:List Plc)(f:ByteArray)(w:World)(h:RJ w i u k A l c)(J:l.length<=8):
  Calls Tryz.prog 215 #[.pointer (some ⟨u,0,none⟩),.string f] w (qV w i u k (lF l f) (Rc l f)):=by
 have K:=Hp h
 have m:=Hp h.size
 obtain⟨_,_,_,_,U,_⟩:=dI h
 have t:=Hp (SY A c l f w h.ok.row h.ok.len)
 have x:=Hp (fun W(v:Below w.heap.size w W)=>NN A c l f W (h.below v).ok)
 have s:=Hp (fun W(v:Below w.heap.size w W)(j:Nat)(O:idxOf (named f) l=j)=>DK i u k A c l f j W (h.below v) O J)
 have cases:=De l f
 obtain⟨L,H⟩:=Nm (Rc l f)
 rw[<-H]at s ⊢
 obtain⟨E,I⟩:=Nm (lF l f)
 rw[<-I]at cases⊢
 obtain⟨N,q⟩:=Nm (idxOf (named f) l)
 rw[<-q]at t s cases
 obtain⟨T,n⟩:=Nm (oN l f)
 rw[<-n]at x cases
 clear h J H I q n
 rcases cases with⟨F,rfl⟩|⟨j,rfl,rfl,rfl⟩|⟨j,rfl,rfl,rfl⟩
 ·have G:decide (N<0)=true:=decide_eq_true F
  clear F
  go_enter Tryz.func215,Tryz.ntmps215
  go_wp2_with fail
  refine(t.out).mono ?_;rintro e D ⟨rfl,a⟩
  have b:=Hp a
  clear a
  go_wp2_with fail
  go_ret
  exact⟨rfl,fun e=>absurd e (by decide),Kp.of_below b.out,b.mono m.out⟩
 ·have G:decide ((j:Int)<0)=false:=GY7 (by omega)
  go_enter Tryz.func215,Tryz.ntmps215
  go_wp2_with fail
  refine(t.out).mono ?_;rintro e D ⟨rfl,a⟩
  have b:=Hp a
  obtain⟨_,_,_,_,M,_⟩:=dI (K.below a)
  clear a
  go_wp2_with fail
  refine(x.out _ b.out).mono ?_;rintro e C ⟨rfl,g⟩
  have d:=Hp (b.trans (g.mono b.size))
  clear g
  go_wp2_with fail
  go_ret
  exact⟨rfl,fun e=>absurd e (by decide),Kp.of_below d.out,d.mono m.out⟩
 ·have G:decide ((j:Int)<0)=false:=GY7 (by omega)
  go_enter Tryz.func215,Tryz.ntmps215
  go_wp2_with fail
  refine(t.out).mono ?_;rintro e D ⟨rfl,a⟩
  have b:=Hp a
  obtain⟨_,_,_,_,M,_⟩:=dI (K.below a)
  clear a
  go_wp2_with fail
  refine(x.out _ b.out).mono ?_;rintro e C ⟨rfl,g⟩
  have d:=Hp (b.trans (g.mono b.size))
  have P:=Hp (s.out C d.out j rfl)
  clear g s
  go_wp2_with fail
  refine(P.out).mono ?_;rintro e S ⟨rfl,⟨R,Q,o⟩,p,r⟩
  have y:=Hp o
  have z:=Hp p
  have B:=Hp r
  clear o p r
  go_wp2_with fail
  go_ret
  exact⟨rfl,fun _=>⟨R,Q,L,rfl,y.out⟩,(Kp.of_below d.out).trans z.out,(d.mono m.out).trans B.out⟩
theorem DY (l:List Plc)(m:Mod):(aL m≠0/\kD l m=aL m)\/(aL m=0/\idxOf (named m.name) l<0/\kD l m=5)\/
  (∃j:Nat,aL m=0/\idxOf (named m.name) l=j/\(RI (Rc l m.name)).any (jU (dH l m.name) (aH m))=true/\(0<=dH l m.name->kD l m=0)/\qF l m=fH (Rc l m.name) m (dH l m.name))\/
  (∃j:Nat,aL m=0/\idxOf (named m.name) l=j/\(RI (Rc l m.name)).any (jU (dH l m.name) (aH m))=false/\kD l m=(if fM (aH m) (RI (Rc l m.name))<0 then 8 else 0)/\qF l m=fH (Rc l m.name) m (fM (aH m) (RI (Rc l m.name)))):=by
 unfold kD qF Dx
 by_cases a:aL m=0
 ·rw[if_neg (by omega)]
  by_cases b:idxOf (named m.name) l<0
  ·rw[if_pos b];exact .inr (.inl ⟨a,b,rfl⟩)
  ·rw[if_neg b]
   have c:idxOf (named m.name) l=((idxOf (named m.name) l).toNat:Nat):=by omega
   cases d:(RI (Rc l m.name)).any (jU (dH l m.name) (aH m))
   ·exact .inr (.inr (.inr ⟨_,a,c,rfl,rfl,rfl⟩))
   ·exact .inr (.inr (.inl ⟨_,a,c,rfl,fun e=>by rw[if_pos rfl,if_neg (by omega)],rfl⟩))
 ·rw[if_pos a];exact .inl ⟨a,rfl⟩
theorem En (n K:Nat)(k:Krn)(A:Option Addr)(c:Nat)(l:List Plc)(m:Mod)(w:World)(h:RJ w n K k A l c)(b9:∀W,Below n w W->m.ok W)(hr:RY l=0):
  Calls Tryz.prog 216 #[.pointer (some ⟨K,0,none⟩),m.v] w (qV w n K k (kD l m) (qF l m)):=by
 have hm:=b9 w (GZ4 _ _)
 obtain⟨w0,b0⟩:=Nm (w.alloc (.cells #[.string m.name,.int .i64 m.major,.int .i64 m.minor,.string m.text,.slice m.eA m.ex.length m.eC,.slice m.iA m.im.length m.iC,.slice m.pA m.pa.length m.pC] 70))
 have b2:Below w.heap.size w w0:=b0▸ZB
 have c2:w0.heap[w.heap.size]? =some (.cells #[.string m.name,.int .i64 m.major,.int .i64 m.minor,.string m.text,.slice m.eA m.ex.length m.eC,.slice m.iA m.im.length m.iC,.slice m.pA m.pa.length m.pC] 70 (0,0)):=by rw[b0];exact heap_alloc_new w _
 have a0:=Hp (h.below b2)
 obtain⟨m0,m1,m2,m3,m4,m5,m6⟩:=RF c2
 have a1:=Hp c2
 have J:=Hp b2
 have b3:=Hp h.size
 have G:=cZ hr
 have H8:=Hp G.1
 have f5:=Hp G.2.2
 have c1:=Hp (oM m w0 (hm.below b2))
 have cases:=DY l m
 have cP:=Hp (fun W(hb:Below w0.heap.size w0 W)=>SY A c l m.name W (a0.below hb).ok.row (a0.below hb).ok.len)
 have cT:=Hp (fun W(hb:Below w0.heap.size w0 W)(j:Nat)(hj:idxOf (named m.name) l=j)=>DK n K k A c l m.name j W (a0.below hb) hj H8.out)
 have cM:=Hp (fun W=>qG m W hm.text)
 have b1:RY (Rc l m.name)=0:=by unfold Rc;exact vV hr _
 have d2:(Rc l m.name).length<=8:=(cZ b1).1
 have b5:=Hp (fun(j:Nat)(hj:idxOf (named m.name) l=j)=>show 0<=dH l m.name/\dH l m.name<=16 from by
  obtain⟨d5,e⟩:=nK hj
  have h1:=rU G.2.2 _ (GZ9 d5)
  have h2:=(gK (G.2.1 _ (GZ9 d5)).1).1
  have h3:aR l[j]=l[j].first+aH l[j].m:=rfl
  rw[e];omega)
 have b4:=Hp (fun(he:aL m=0)=>gK he)
 have cR:=Hp (fun(Z:Option Addr)(V:Nat)W(first:Int)(h1: -1000<=first/\first<=1000)(h2: -1000<=aH m/\aH m<=1000)(hp:RJ W n K k Z (Rc l m.name) V)=>MN n K k Z V (Rc l m.name) first (aH m) W hp b1 h1 h2)
 have cF:=Hp (fun(Z:Option Addr)(V:Nat)W(b6:m.ok W)(hp:RJ W n K k Z (Rc l m.name) V)(he:aL m=0)=>He n K k Z V (Rc l m.name) m W hp b6 he b1)
 have cU:=Hp (fun(Z:Option Addr)(V:Nat)W(b6:m.ok W)(hp:RJ W n K k Z (Rc l m.name) V)(he:aL m=0)=>G8 n K k Z V (Rc l m.name) m (dH l m.name) W hp b6 he d2)
 have e2:=Hp b9
 obtain⟨E,hE⟩:=Nm (kD l m)
 rw[<-hE]at cases⊢
 have f3:=b0.symm
 obtain⟨fa,d9⟩:=Nm (dH l m.name)
 rw[<-d9]at cases cT b5 cU
 obtain⟨mm,b8⟩:=Nm (aH m)
 rw[<-b8]at cases cM b4 cR
 obtain⟨R,hR⟩:=Nm (Rc l m.name)
 rw[<-hR]at cases cT cR cF cU
 obtain⟨U,hU⟩:=Nm (qF l m)
 rw[<-hU]at cases⊢
 rw[<-b8]at cF
 obtain⟨fq,d7⟩:∃fq:Int,fq=if fM mm (RI R)<0 then 8 else 0:=⟨_,rfl⟩
 rw[<-d7]at cases cF
 obtain⟨fi,d8⟩:=Nm (fM mm (RI R))
 rw[<-d8]at cases cF
 obtain⟨fr,c0⟩:∃fr,fr=(RI R).any (jU fa mm):=⟨_,rfl⟩
 rw[<-c0]at cases
 have e3:=Hp c0
 obtain⟨M,hM⟩:=Nm (aL m)
 rw[<-hM]at c1 cases cF cU b4
 obtain⟨ix,d6⟩:=Nm (idxOf (named m.name) l)
 rw[<-d6]at cP cT b5 cases
 clear b0 b2 c2 h hm b9 hr hE b1 d2 G d9 b8 hR hU d7 d8 c0 hM d6
 rcases cases with⟨t1,rfl⟩|⟨rfl,t2,rfl⟩|⟨j,rfl,rfl,t3,t4,rfl⟩|⟨j,rfl,rfl,t3,rfl,rfl⟩
 ·have f4:(E != 0)=true:=by simp[t1]
  have T1:=Hp t1
  clear t1
  go_enter Tryz.func216,Tryz.ntmps216
  go_wp2_with fail
  refine(c1.out).mono ?_;rintro e F ⟨rfl,g⟩
  have C:=Hp (J.trans (g.mono J.size))
  clear g
  go_wp2_with fail
  go_ret
  exact⟨rfl,fun e=>absurd e T1.out,Kp.of_below C.out,C.mono b3.out⟩
 ·have t':decide (ix<0)=true:=decide_eq_true t2
  clear t2
  go_enter Tryz.func216,Tryz.ntmps216
  go_wp2_with fail
  refine(c1.out).mono ?_;rintro e F ⟨rfl,g⟩
  have r:=Hp g
  have o:=(g.block w.heap.size (ZL a1.out)).trans a1.out
  have a8:=Hp o
  have I:=Hp (a0.below g)
  obtain⟨n0,n1,n2,n3,n4,n5,n6⟩:=RF o
  obtain⟨H,_,_,_,q3,_⟩:=dI I.out
  have t:=Hp (J.trans (g.mono J.size))
  have s:w.heap.size<F.heap.size:=(ZL o)
  clear g o m0 m1 m2 m3 m4 m5 m6
  have i:=Hp (show fI F (fun z=>Below F.heap.size F z/\z.cell? ⟨w.heap.size,0,none⟩=some (.string m.name)/\z.cell? ⟨K,3,none⟩=some (.slice A l.length c)) from dE (by repeat' first|(with_reducible exact bC.cell (by first|omega|(simp;omega)|(simp only[aA];omega)))|refine bC.and ?_ ?_))
  have a:=Hp (i.now ⟨GZ4 _ _,by assumption,by assumption⟩)
  have b:=Hp i.D
  have d:=Hp i.S
  have f:=Hp i.A
  have p:=Hp i.X
  have B:=Hp i.L
  go_wp2_with fail
  go_region_held3 (fun z=>Below F.heap.size F z/\z.cell? ⟨w.heap.size,0,none⟩=some (.string m.name)/\z.cell? ⟨K,3,none⟩=some (.slice A l.length c)) (first|exact a.out|exact b.out _ a.out|exact d.out _ _ (by assumption) (by assumption)|exact d.out _ _ a.out (by assumption)|exact d.out _ _ (b.out _ a.out) (by assumption)|exact d.out _ _ (b.out _ (by assumption)) (by assumption)|exact b.out _ (by assumption)|exact f.out _ _ (by assumption)|exact f.out _ _ a.out|exact f.out _ _ (b.out _ a.out)|exact b.out _ (f.out _ _ (by assumption))|exact f.out _ _ (d.out _ _ a.out (by assumption))|exact f.out _ _ (d.out _ _ (b.out _ a.out) (by assumption))|exact p.out _ _ _ _ (GZ3 _) (by assumption)|exact p.out _ _ _ _ (GZ3 _) (d.out _ _ (f.out _ _ a.out) (by assumption))|exact p.out _ _ _ _ (GZ3 _) (d.out _ _ (b.out _ (f.out _ _ a.out)) (by assumption))|assumption) (first|(go_at_call 124;(with_reducible refine(cP.out _ (r.out.trans ((B.out _ (by first|assumption|exact b.out _ (by assumption)|exact a.out|exact b.out _ a.out)).mono r.out.size))).mono ?_);rintro e w4 ⟨rfl,a4⟩))
  have q:=Hp (B.out w4 (by assumption))
  have e1:=Hp (I.below q)
  have C:=Hp (t.trans (q.mono t.size))
  have Y:=Hp (r.trans (q.mono r.size))
  have T:=Hp ((q.block w.heap.size s).trans a8)
  obtain⟨p0,p1,p2,p3,p4,p5,p6⟩:=RF T.out
  clear a4 a b d f p B n0 n1 n2 n3 n4 n5 n6 q3 H s
  go_wp2_with fail
  go_ret
  exact⟨rfl,fun e=>absurd e (by decide),Kp.of_below C.out,C.mono b3.out⟩
 ·obtain⟨f0,f1⟩:=b5.out j rfl
  have e4:=t4 f0
  subst e4
  clear t4
  have t':decide ((j:Int)<0)=false:=GY7 (by omega)
  go_enter Tryz.func216,Tryz.ntmps216
  go_wp2_with fail
  refine(c1.out).mono ?_;rintro e F ⟨rfl,g⟩
  have r:=Hp g
  have o:=(g.block w.heap.size (ZL a1.out)).trans a1.out
  have a8:=Hp o
  have I:=Hp (a0.below g)
  obtain⟨n0,n1,n2,n3,n4,n5,n6⟩:=RF o
  obtain⟨H,_,_,_,q3,_⟩:=dI I.out
  have t:=Hp (J.trans (g.mono J.size))
  have s:w.heap.size<F.heap.size:=(ZL o)
  clear g o m0 m1 m2 m3 m4 m5 m6
  have i:=Hp (show fI F (fun z=>Below F.heap.size F z/\z.cell? ⟨w.heap.size,0,none⟩=some (.string m.name)/\z.cell? ⟨K,3,none⟩=some (.slice A l.length c)) from dE (by repeat' first|(with_reducible exact bC.cell (by first|omega|(simp;omega)|(simp only[aA];omega)))|refine bC.and ?_ ?_))
  have a:=Hp (i.now ⟨GZ4 _ _,by assumption,by assumption⟩)
  have b:=Hp i.D
  have d:=Hp i.S
  have f:=Hp i.A
  have p:=Hp i.X
  have B:=Hp i.L
  go_wp2_with fail
  go_region_held3 (fun z=>Below F.heap.size F z/\z.cell? ⟨w.heap.size,0,none⟩=some (.string m.name)/\z.cell? ⟨K,3,none⟩=some (.slice A l.length c)) (first|exact a.out|exact b.out _ a.out|exact d.out _ _ (by assumption) (by assumption)|exact d.out _ _ a.out (by assumption)|exact d.out _ _ (b.out _ a.out) (by assumption)|exact d.out _ _ (b.out _ (by assumption)) (by assumption)|exact b.out _ (by assumption)|exact f.out _ _ (by assumption)|exact f.out _ _ a.out|exact f.out _ _ (b.out _ a.out)|exact b.out _ (f.out _ _ (by assumption))|exact f.out _ _ (d.out _ _ a.out (by assumption))|exact f.out _ _ (d.out _ _ (b.out _ a.out) (by assumption))|exact p.out _ _ _ _ (GZ3 _) (by assumption)|exact p.out _ _ _ _ (GZ3 _) (d.out _ _ (f.out _ _ a.out) (by assumption))|exact p.out _ _ _ _ (GZ3 _) (d.out _ _ (b.out _ (f.out _ _ a.out)) (by assumption))|assumption) (first|(go_at_call 124;(with_reducible refine(cP.out _ (r.out.trans ((B.out _ (by first|assumption|exact b.out _ (by assumption)|exact a.out|exact b.out _ a.out)).mono r.out.size))).mono ?_);rintro e w4 ⟨rfl,a4⟩))
  have q:=Hp (B.out w4 (by assumption))
  have e1:=Hp (I.below q)
  have C:=Hp (t.trans (q.mono t.size))
  have Y:=Hp (r.trans (q.mono r.size))
  have T:=Hp ((q.block w.heap.size s).trans a8)
  obtain⟨p0,p1,p2,p3,p4,p5,p6⟩:=RF T.out
  clear a4 a b d f p B n0 n1 n2 n3 n4 n5 n6 q3 H s
  have a5:=Hp (cT.out w4 Y.out j (by first|trivial|rfl))
  clear cT
  go_wp2_with fail
  refine(a5.out).mono ?_;rintro e w5 ⟨rfl,⟨Z,V,a2⟩,N,a3⟩
  have a6:=Hp a2
  have Q:=Hp (N _ _ _ _ T.out (by decide))
  obtain⟨r0,r1,r2,r3,r4,r5,r6⟩:=RF Q.out
  have c7:=Hp ((Kp.of_below C).trans N)
  have d0:=Hp ((C.mono b3).trans a3)
  clear a2 N a3 p0 p1 p2 p3 p4 p5 p6 a5
  go_wp2_with fail
  refine(cM.out _).mono ?_;rintro e w6 ⟨rfl,y⟩
  have P:=Hp (a6.below y)
  have a7:=Hp ((y.block _ (ZL Q)).trans Q)
  have c6:=Hp (c7.trans (Kp.of_below y))
  have c9:=Hp (d0.trans (y.mono a6.size))
  have b7:=b4.out (by first|trivial|rfl)
  have O:=Hp (cR.out Z V w6 fa (by omega) (by omega) P.out)
  rw[<-e3.out,t3]at O
  clear y r0 r1 r2 r3 r4 r5 r6 b7
  go_wp2_with fail
  refine(O.out).mono ?_;rintro e w7 ⟨rfl,x⟩
  have c3:=Hp (P.below x)
  have c4:=Hp ((x.block _ (ZL a7)).trans a7)
  obtain⟨s0,s1,s2,s3,s4,s5,s6⟩:=RF c4.out
  have c5:=Hp (c6.trans (Kp.of_below x))
  have a9:=Hp (c9.trans (x.mono P.size))
  clear x O
  have e5:=Hp (cU.out Z V w7 (e2.out w7 a9.out) c3.out (by first|trivial|rfl))
  go_wp2_with fail
  refine(e5.out).mono ?_;rintro e w8 ⟨⟨u,rfl⟩,⟨A8,c8,m8,d1,d3⟩,d4,e0⟩
  have e7:=Hp d1
  have e8:=Hp d3
  have e9:=Hp (c5.trans d4)
  have f2:=Hp (a9.trans e0)
  clear d1 d3 d4 e0
  go_wp2_with fail
  go_ret
  exact⟨rfl,fun _=>⟨A8,c8,fH R m8 fa,by rw[kU,kU,iL e7.out],e8.out⟩,e9.out,f2.out⟩
 ·obtain⟨f0,f1⟩:=b5.out j rfl
  have t':decide ((j:Int)<0)=false:=GY7 (by omega)
  go_enter Tryz.func216,Tryz.ntmps216
  go_wp2_with fail
  refine(c1.out).mono ?_;rintro e F ⟨rfl,g⟩
  have r:=Hp g
  have o:=(g.block w.heap.size (ZL a1.out)).trans a1.out
  have a8:=Hp o
  have I:=Hp (a0.below g)
  obtain⟨n0,n1,n2,n3,n4,n5,n6⟩:=RF o
  obtain⟨H,_,_,_,q3,_⟩:=dI I.out
  have t:=Hp (J.trans (g.mono J.size))
  have s:w.heap.size<F.heap.size:=(ZL o)
  clear g o m0 m1 m2 m3 m4 m5 m6
  have i:=Hp (show fI F (fun z=>Below F.heap.size F z/\z.cell? ⟨w.heap.size,0,none⟩=some (.string m.name)/\z.cell? ⟨K,3,none⟩=some (.slice A l.length c)) from dE (by repeat' first|(with_reducible exact bC.cell (by first|omega|(simp;omega)|(simp only[aA];omega)))|refine bC.and ?_ ?_))
  have a:=Hp (i.now ⟨GZ4 _ _,by assumption,by assumption⟩)
  have b:=Hp i.D
  have d:=Hp i.S
  have f:=Hp i.A
  have p:=Hp i.X
  have B:=Hp i.L
  go_wp2_with fail
  go_region_held3 (fun z=>Below F.heap.size F z/\z.cell? ⟨w.heap.size,0,none⟩=some (.string m.name)/\z.cell? ⟨K,3,none⟩=some (.slice A l.length c)) (first|exact a.out|exact b.out _ a.out|exact d.out _ _ (by assumption) (by assumption)|exact d.out _ _ a.out (by assumption)|exact d.out _ _ (b.out _ a.out) (by assumption)|exact d.out _ _ (b.out _ (by assumption)) (by assumption)|exact b.out _ (by assumption)|exact f.out _ _ (by assumption)|exact f.out _ _ a.out|exact f.out _ _ (b.out _ a.out)|exact b.out _ (f.out _ _ (by assumption))|exact f.out _ _ (d.out _ _ a.out (by assumption))|exact f.out _ _ (d.out _ _ (b.out _ a.out) (by assumption))|exact p.out _ _ _ _ (GZ3 _) (by assumption)|exact p.out _ _ _ _ (GZ3 _) (d.out _ _ (f.out _ _ a.out) (by assumption))|exact p.out _ _ _ _ (GZ3 _) (d.out _ _ (b.out _ (f.out _ _ a.out)) (by assumption))|assumption) (first|(go_at_call 124;(with_reducible refine(cP.out _ (r.out.trans ((B.out _ (by first|assumption|exact b.out _ (by assumption)|exact a.out|exact b.out _ a.out)).mono r.out.size))).mono ?_);rintro e w4 ⟨rfl,a4⟩))
  have q:=Hp (B.out w4 (by assumption))
  have e1:=Hp (I.below q)
  have C:=Hp (t.trans (q.mono t.size))
  have Y:=Hp (r.trans (q.mono r.size))
  have T:=Hp ((q.block w.heap.size s).trans a8)
  obtain⟨p0,p1,p2,p3,p4,p5,p6⟩:=RF T.out
  clear a4 a b d f p B n0 n1 n2 n3 n4 n5 n6 q3 H s
  have a5:=Hp (cT.out w4 Y.out j (by first|trivial|rfl))
  clear cT
  go_wp2_with fail
  refine(a5.out).mono ?_;rintro e w5 ⟨rfl,⟨Z,V,a2⟩,N,a3⟩
  have a6:=Hp a2
  have Q:=Hp (N _ _ _ _ T.out (by decide))
  obtain⟨r0,r1,r2,r3,r4,r5,r6⟩:=RF Q.out
  have c7:=Hp ((Kp.of_below C).trans N)
  have d0:=Hp ((C.mono b3).trans a3)
  clear a2 N a3 p0 p1 p2 p3 p4 p5 p6 a5
  go_wp2_with fail
  refine(cM.out _).mono ?_;rintro e w6 ⟨rfl,y⟩
  have P:=Hp (a6.below y)
  have a7:=Hp ((y.block _ (ZL Q)).trans Q)
  have c6:=Hp (c7.trans (Kp.of_below y))
  have c9:=Hp (d0.trans (y.mono a6.size))
  have b7:=b4.out (by first|trivial|rfl)
  have O:=Hp (cR.out Z V w6 fa (by omega) (by omega) P.out)
  rw[<-e3.out,t3]at O
  clear y r0 r1 r2 r3 r4 r5 r6 b7
  go_wp2_with fail
  refine(O.out).mono ?_;rintro e w7 ⟨rfl,x⟩
  have c3:=Hp (P.below x)
  have c4:=Hp ((x.block _ (ZL a7)).trans a7)
  obtain⟨s0,s1,s2,s3,s4,s5,s6⟩:=RF c4.out
  have c5:=Hp (c6.trans (Kp.of_below x))
  have a9:=Hp (c9.trans (x.mono P.size))
  clear x O
  have e6:=Hp (cF.out Z V w7 (e2.out w7 a9.out) c3.out (by first|trivial|rfl))
  clear cF
  go_wp2_with fail
  refine(e6.out).mono ?_;rintro e w8 hd
  have HD:=Hp (qV.after c5 a9 _ _ hd)
  obtain⟨rfl,_⟩:=hd
  go_wp2_with fail
  go_ret
  exact HD.out
end
section
open Go.RowKit Go.Lib
abbrev cmA (c:Cm):Array Value:=#[.int .i64 c.kind,.string c.m.name,.int .i64 c.m.major,.int .i64 c.m.minor,.string c.m.text,.slice c.m.eA c.m.ex.length c.m.eC,.slice c.m.iA c.m.im.length c.m.iC,.slice c.m.pA c.m.pa.length c.m.pC,.string c.nm]
abbrev Cm.v (c:Cm):Value:=.agg #[.int .i64 c.kind,.string c.m.name,.int .i64 c.m.major,.int .i64 c.m.minor,.string c.m.text,.slice c.m.eA c.m.ex.length c.m.eC,.slice c.m.iA c.m.im.length c.m.iC,.slice c.m.pA c.m.pa.length c.m.pC,.string c.nm]
theorem dJ {W:World}{b:Nat}{c:Cm}(h:W.heap[b]? =some (.cells (cmA c) 102 (0,0))):
  W.cell? ⟨b,0,none⟩=some (.int .i64 c.kind)/\W.cell? ⟨b,1,none⟩=some (.string c.m.name)/\W.cell? ⟨b,2,none⟩=some (.int .i64 c.m.major)/\W.cell? ⟨b,3,none⟩=some (.int .i64 c.m.minor)/\W.cell? ⟨b,4,none⟩=some (.string c.m.text)/\W.cell? ⟨b,5,none⟩=some (.slice c.m.eA c.m.ex.length c.m.eC)/\W.cell? ⟨b,6,none⟩=some (.slice c.m.iA c.m.im.length c.m.iC)/\W.cell? ⟨b,7,none⟩=some (.slice c.m.pA c.m.pa.length c.m.pC)/\W.cell? ⟨b,8,none⟩=some (.string c.nm):=
 ⟨heap_cell h 0,heap_cell h 1,heap_cell h 2,heap_cell h 3,heap_cell h 4,heap_cell h 5,heap_cell h 6,heap_cell h 7,heap_cell h 8⟩
theorem Pq (a o B:Nat)(k:Krn)(A:Option Addr)(c:Nat)(l:List Plc)(b:Cm)(w:World)(h:RJ w a o k A l c)(y:w.heap[B]? =some (.cells (cmA b) 102 (0,0)))(j:∀W,Below a w W->b.m.ok W)(q:RY l=0):
  Calls Tryz.prog 213 (#[.pointer (some ⟨o,0,none⟩)]++ #[.pointer (some ⟨B,0,none⟩)]) w (qV w a o k (kC b l) (cmL b l)):=by
 obtain⟨K,J,I,H,G,F,D,C,z⟩:=dJ y
 have t:=Hp (EY a o k A c l b.m w h (j w (GZ4 _ _)) q)
 have s:=Hp (G5 a o k A c l b.nm w h (cZ q).1)
 have r:=Hp (En a o k A c l b.m w h j q)
 obtain⟨E,f⟩:=Nm (kC b l)
 obtain⟨L,d⟩:=Nm (cmL b l)
 rw[<-f,<-d]
 unfold kC at f
 unfold cmL at d
 clear h y j q
 by_cases i:b.kind=1
 ·rw[if_pos i]at f d
  rw[<-f,<-d]at t
  have v:(b.kind==1)=true:=by simp[i]
  clear f d i s r
  go_enter Tryz.func213,Tryz.ntmps213
  go_wp2_with fail
  refine(t.out).mono ?_;rintro e x g
  have p:=Hp g
  obtain⟨rfl,_⟩:=g
  go_wp2_with fail
  go_ret
  exact p.out
 ·rw[if_neg i]at f d
  have v:(b.kind==1)=false:=by simp[i]
  by_cases n:b.kind=2
  ·rw[if_pos n]at f d
   rw[<-f,<-d]at s
   have u:(b.kind==2)=true:=by simp[n]
   clear f d i n t r
   go_enter Tryz.func213,Tryz.ntmps213
   go_wp2_with fail
   refine(s.out).mono ?_;rintro e x g
   have p:=Hp g
   obtain⟨rfl,_⟩:=g
   go_wp2_with fail
   go_ret
   exact p.out
  ·rw[if_neg n]at f d
   rw[<-f,<-d]at r
   have u:(b.kind==2)=false:=by simp[n]
   clear f d i n t s
   go_enter Tryz.func213,Tryz.ntmps213
   go_wp2_with fail
   refine(r.out).mono ?_;rintro e x g
   have p:=Hp g
   obtain⟨rfl,_⟩:=g
   go_wp2_with fail
   go_ret
   exact p.out
def U7 (w:World)(F:Int)(k:Krn)(L:List Plc)(e:Ending)(a:World):Prop:=
 (∃c f b d,e=.returned (.tuple #[rgV c f b d,.int .i64 F])/\UQ a w.heap.size c f b d (wK F k) (wL F L))/\Below w.heap.size w a
theorem U7.of_below {w d:World}{F:Int}{k:Krn}{L:List Plc}(b:Below w.heap.size w d):∀e f,U7 d F k L e f->U7 w F k L e f:=
 fun _ _ ⟨⟨h,l,g,j,i,a⟩,c⟩=>⟨⟨h,l,g,j,i,⟨⟨RH a.own.ex b.size,a.own.mods.le b.size⟩,a.RU,a.mods⟩⟩,b.trans (c.mono b.size)⟩
theorem Oa (k:Krn)(A:Option Addr)(c:Nat)(l:List Plc)(g:Nat)(lb:Array Value)(E:Int)(L:List Plc)(w:World)(eg:∀x w,(callFunc g x).run Tryz.prog w=.ok (.enter g x) w)(hk:k.ok w)(h:aU w A l)(P:aZ k l=0)
  (V:∀W bp k1 N z c1,Below w.heap.size w W->aD z=aD l->RJ W w.heap.size bp k1 N z c1->Calls Tryz.prog g (#[.pointer (some ⟨bp,0,none⟩)]++lb) W (qV W w.heap.size bp k1 E L)):
  Calls Tryz.prog 212 #[rgV k A l c,.func (.func g) #[] lb] w (U7 w (if E≠0 then E else aZ k L) k L):=by
 obtain⟨O,o⟩:=Nm (w.alloc (.cells #[.int .i64 k.major,.int .i64 k.minor,.slice k.eA k.ex.length k.eC,.slice A l.length c] 39))
 obtain⟨g0,g1,g2,g3,a4,C⟩:=oJ o
 obtain⟨x0,d⟩:=Nm (O.alloc (.cells #[.int .i64 0,.int .i64 0,.slice none 0 0,.slice none 0 0] 39))
 have X:Below O.heap.size O x0:=d▸ZB
 have a3:x0.heap.size=w.heap.size+2:=by rw[d];simp;omega
 have H:=Hp (show x0.heap[w.heap.size+1]? =some (.cells #[.int .i64 0,.int .i64 0,.slice none 0 0,.slice none 0 0] 39 (0,0)) by rw[d,<-a4];exact heap_alloc_new O _)
 have b1:=Hp (show x0.heap[w.heap.size]? =some (.cells #[.int .i64 k.major,.int .i64 k.minor,.slice k.eA k.ex.length k.eC,.slice A l.length c] 39 (0,0)) by rw[d,heap_alloc_old O _ (by omega),o];exact heap_alloc_new w _)
 obtain⟨_,k0,k1,k2,k3,_⟩:=aB b1.out
 have Z:=Hp (C.trans (X.mono C.size))
 have HP:=Hp h
 have HK:=Hp hk
 obtain⟨f1,f2,f3,f4⟩:=oL P
 have c1:=Hp (fun W(hb:Below w.heap.size w W)=>U8 k A c l W (hk.below hb) (h.below hb) f1 f3 f4)
 have HD:=Hp V
 obtain⟨F,hF⟩:∃F,F=if E≠0 then E else aZ k L:=⟨_,rfl⟩
 rw[<-hF]
 have HF:=Hp hF
 have b2:=Hp eg
 have b5:=o.symm
 have b3:=d.symm
 clear o d C X hk h g0 g1 g2 g3 a3 hF f1 f2 f3 f4 V P eg
 go_enter Tryz.func212,Tryz.ntmps212
 go_wp2_with fail
 refine(c1.out _ Z.out).mono ?_;rintro e y ⟨⟨a,N,z,u,rfl,S,B,v⟩,r⟩
 have K:=Hp (Z.trans (r.mono Z.size))
 obtain⟨w2,n⟩:=Nm (y.alloc (.cells #[.int .i64 a.major,.int .i64 a.minor,.slice a.eA a.ex.length a.eC,.slice N z.length u] 281))
 have q:Below y.heap.size y w2:=n▸ZB
 have h2:w2.heap[y.heap.size]? =some (.cells #[.int .i64 a.major,.int .i64 a.minor,.slice a.eA a.ex.length a.eC,.slice N z.length u] 281 (0,0)):=by rw[n];exact heap_alloc_new y _
 have a2:=Hp (K.trans (q.mono K.size))
 have b:=v.below q
 have a9:=Hp (show RJ w2 w.heap.size y.heap.size a N z u from⟨h2,⟨RH b.ex Z.size,b.mods.le Z.size⟩,b.mods.ok rfl (by have:=congrArg (List.map Plc.m) B;rw[List.map_map,List.map_map]at this;exact this) HP.out,K.size⟩)
 have a7:=Hp ((q.block (w.heap.size+1) (GY0 (ZL H) r.size)).trans ((r.block (w.heap.size+1) (ZL H)).trans H))
 have I:=Hp S
 have cD:=Hp (HD.out w2 y.heap.size a N z u a2.out B a9.out)
 have b4:=n.symm
 have a6:=b2.out
 clear r v n q h2 b S B k0 k1 k2 k3 HD c1
 go_wp2_with fail
 refine(cD.out).mono ?_;rintro e w3 ⟨rfl,G,R,Y⟩
 have j:=Hp (R _ _ _ _ a7.out (by decide))
 have J:=Hp (a2.trans Y)
 clear R Y cD a6
 by_cases t:E=0
 ·obtain⟨A2,c2,L2,D,i⟩:=G t
  have s:F=aZ k L:=by rw[HF.out,if_neg (by omega)]
  have Q:=i.own.okK I.out HK.out
  have cC:=Hp (jE a A2 c2 L2 w3 Q i.ok)
  rw[kQ I.out D,<-s]at cC
  have a8:=Hp i
  have b0:=Hp D
  obtain⟨_,p0,p1,p2,p3,_⟩:=dI i
  subst t
  clear G i D Q s
  go_wp2_with fail
  refine(cC.out).mono ?_;rintro e w4 ⟨rfl,p⟩
  have f:=Hp ((p.block _ (ZL j)).trans j)
  have a1:=Hp (J.trans (p.mono J.size))
  have a0:=Hp (a8.below p)
  obtain⟨_,q0,q1,q2,q3,_⟩:=dI a0.out
  obtain⟨_,r0,r1,r2,r3,z0,z1,z2,z3⟩:=aB f.out
  clear p cC p0 p1 p2 p3
  by_cases t:F=0
  ·have TF:=Hp t
   subst t
   go_wp2_with fail
   obtain⟨U,M⟩:=gY f.out (.int .i64 a.major) (.int .i64 a.minor) (.slice a.eA a.ex.length a.eC) (.slice A2 L2.length c2)
   refine bodyPost_ret (results_cell_tmp rfl _ _ (w.heap.size+1) 39 _ (0,0) _ rfl U Tryz.underlying39 rfl Tryz.RP) rfl ?_
   have a5:=M.kp f.out (ts:=[39]) (by simp)
   exact⟨⟨a,A2,L2,c2,rfl,⟨a0.own.kp a5 (by decide) (by decide) (by decide) (by decide),I.out,b0.out⟩⟩,a1.trans ((M.below (GY2 (ZL f.out))).mono (by omega))⟩
  ·have t':(F != 0)=true:=by simp[t]
   have T:=Hp t
   clear t
   go_wp2_with fail
   obtain⟨U,M⟩:=gY f.out (.int .i64 0) (.int .i64 0) (.slice none 0 0) (.slice none 0 0)
   refine bodyPost_ret (results_cell_tmp rfl _ _ (w.heap.size+1) 39 _ (0,0) _ rfl U Tryz.underlying39 rfl Tryz.RP) rfl ?_
   exact⟨⟨Rk,none,[],0,rfl,oI _ _ T.out _ _⟩,a1.trans ((M.below (GY2 (ZL f.out))).mono (by omega))⟩
 ·have t':(E==0)=false:=by simp[t]
  have b6:(E != 0)=true:=by simp[t]
  have s:F=E:=by rw[HF.out,if_pos t]
  subst s
  have T:=Hp t
  obtain⟨_,r0,r1,r2,r3,z0,z1,z2,z3⟩:=aB j.out
  clear t G
  go_wp2_with fail
  obtain⟨U,M⟩:=gY j.out (.int .i64 0) (.int .i64 0) (.slice none 0 0) (.slice none 0 0)
  refine bodyPost_ret (results_cell_tmp rfl _ _ (w.heap.size+1) 39 _ (0,0) _ rfl U Tryz.underlying39 rfl Tryz.RP) rfl ?_
  exact⟨⟨Rk,none,[],0,rfl,oI _ _ T.out _ _⟩,J.trans ((M.below (GY2 (ZL j.out))).mono (by omega))⟩
theorem Ps (k:Krn)(A:Option Addr)(c:Nat)(l:List Plc)(a:Cm)(w:World)(hk:k.ok w)(h:aU w A l)(hm:a.m.ok w)(b:aZ k l=0):
  Calls Tryz.prog 151 #[rgV k A l c,a.v] w (U7 w (kP k a l) k (cmL a l)):=by
 obtain⟨q,g⟩:=Nm (w.alloc (.cells #[.int .i64 k.major,.int .i64 k.minor,.slice k.eA k.ex.length k.eC,.slice A l.length c] 39))
 obtain⟨p,f⟩:=Nm (q.alloc (.cells (cmA a) 102))
 obtain⟨y,d⟩:=Nm (p.alloc (.cells #[.int .i64 0,.int .i64 0,.slice none 0 0,.slice none 0 0] 39))
 have n:Below w.heap.size w q:=g▸ZB
 have j:Below q.heap.size q p:=f▸ZB
 have i:Below p.heap.size p y:=d▸ZB
 have P:q.heap.size=w.heap.size+1:=by rw[g];simp
 have O:p.heap.size=w.heap.size+2:=by rw[f];simp;omega
 have N:y.heap.size=w.heap.size+3:=by rw[d];simp;omega
 have E:q.heap[w.heap.size]? =some (.cells #[.int .i64 k.major,.int .i64 k.minor,.slice k.eA k.ex.length k.eC,.slice A l.length c] 39 (0,0)):=by rw[g];exact heap_alloc_new w _
 have G:p.heap[w.heap.size+1]? =some (.cells (cmA a) 102 (0,0)):=by rw[f,<-P];exact heap_alloc_new q _
 have HG:=Hp ((i.block w.heap.size (by omega)).trans ((j.block w.heap.size (by omega)).trans E))
 have HC:=Hp ((i.block (w.heap.size+1) (by omega)).trans G)
 have HR:=Hp (show y.heap[w.heap.size+2]? =some (.cells #[.int .i64 0,.int .i64 0,.slice none 0 0,.slice none 0 0] 39 (0,0)) by rw[d,<-O];exact heap_alloc_new p _)
 have x:=Hp ((n.trans (j.mono n.size)).trans (i.mono (GY1 n.size j.size)))
 obtain⟨_,k0,X,k2,k3,_⟩:=aB HG.out
 have C:w.heap.size+1<y.heap.size:=by omega
 have I:=Hp (Oa k A c l 213 #[.pointer (some ⟨w.heap.size+1,0,none⟩)] (kC a l) (cmL a l) y (enters_of Tryz.func213 (by kernel_rfl) rfl) (hk.below x.out) (h.below x.out) b
  (fun W bp X A1 M c1 hb r hp=>by
   have B:RY M=0:=by rw[<-qW,r,qW];exact Et b
   have:=Pq y.heap.size bp (w.heap.size+1) X A1 c1 M a W hp ((hb.block _ C).trans HC.out) (fun W2 S=>hm.below (x.trans ((hb.trans S).mono x.size))) B
   refine this.mono ?_
   rintro e w' ⟨h1,h2,h3,h4⟩
   have he:kC a M=kC a l:=AP rfl r
   rw[he]at h1 h2
   refine⟨h1,fun h0=>?_,h3,h4⟩
   obtain⟨K,J,L',T,Q⟩:=h2 h0
   exact⟨K,J,L',T.trans (zV rfl r),Q⟩))
 have D:(if kC a l≠0 then kC a l else aZ k (cmL a l))=kP k a l:=rfl
 rw[D]at I
 obtain⟨F,hF⟩:=Nm (kP k a l)
 obtain⟨L,hL⟩:=Nm (cmL a l)
 rw[<-hF,<-hL]at I ⊢
 have a0:=g.symm
 have Z:=f.symm
 have Y:=d.symm
 clear g f d n j i E G hk h hm b D hF hL C N
 go_enter Tryz.func151,Tryz.ntmps151
 go_wp2_with fail
 refine(I.out).mono ?_;rintro e w1 ⟨⟨z,K,V,J,rfl,b⟩,s⟩
 have t:=Hp b
 have U:=Hp (x.trans (s.mono x.size))
 have H:=Hp x.size
 obtain⟨u,r0,r1,r2,r3,z0,z1,z2,z3⟩:=aB ((s.block _ (ZL HR.out)).trans HR.out)
 clear b s I
 go_wp2_with fail
 obtain⟨hg,ho⟩:=gY u.out (.int .i64 z.major) (.int .i64 z.minor) (.slice z.eA z.ex.length z.eC) (.slice K V.length J)
 refine bodyPost_ret (results_cell_tmp rfl _ _ (w.heap.size+2) 39 _ (0,0) _ rfl hg Tryz.underlying39 rfl Tryz.RP) rfl ?_
 have R:=ho.kp u.out (ts:=[39]) (by simp)
 have o:=t.own.kp R (by decide) (by decide) (by decide) (by decide)
 exact⟨⟨z,K,V,J,rfl,⟨⟨RH o.ex H.out,o.mods.le H.out⟩,t.RU,t.mods⟩⟩,U.trans ((ho.below (GY2 (ZL u.out))).mono (by omega))⟩
end
end Go.Proofs.YtjiedaialianmaaGreat
