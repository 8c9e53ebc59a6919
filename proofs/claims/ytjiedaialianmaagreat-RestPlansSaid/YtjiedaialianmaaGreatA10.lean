import Derived.Test.YtjiedaialianmaaGreatA06
import Derived.Test.YtjiedaialianmaaGreatA08
set_option maxRecDepth 100000
set_option maxHeartbeats 4000000
namespace Go.Proofs.YtjiedaialianmaaGreat
section
open Go.RowKit Go.Sort
open Gs (Tx)
abbrev bs (t:Tx):ByteArray:=⟨t.toArray⟩
theorem Qx (s:ByteArray):bs (tx s)=s:=Qt s
theorem Nh (t:Tx):tx (bs t)=t:=Qr t
def TR (w:World)(a:Nat)(v:Value)(b:List Tx):Prop:=dA w a v (b.map bs)
theorem N9 (a:List Tx):a.map encStr=(a.map bs).map Value.string:=by rw[List.map_map];rfl
theorem TR.own {w:World}{a:Nat}{v:Value}{b:List Tx}(h:TR w a v b):w.ownsRow a 9 1 v b.length (b.map encStr):=by
 have:=h;unfold TR dA at this;rw[List.length_map]at this;rw[N9];exact this
theorem TR.of_own {w:World}{a n:Nat}{v:Value}{b:List Tx}(h:w.ownsRow a 9 1 v n (b.map encStr)):TR w a v b:=by
 have c:n=b.length:=by have:=h.1;simp at this;exact this.symm
 subst c
 unfold TR dA;rw[List.length_map,<-N9];exact h
theorem TR.nil (w:World)(a:Nat):TR w a (.slice none 0 0) []:=dA.nil _ _
theorem TR.form {w:World}{a:Nat}{v:Value}{b:List Tx}(h:TR w a v b):∃(A:Option Addr)(c:Nat),v=.slice A b.length c/\Row strCells 1 w A (b.map bs):=by
 obtain⟨A,c,e,d,_⟩:=dA.form h
 rw[List.length_map]at e
 exact⟨A,c,e,d⟩
theorem TR.below {w w':World}{a B:Nat}{v:Value}{b:List Tx}(h:TR w a v b)(c:Below B w w')(d:w.heap.size<=B):TR w' a v b:=dA.below h c d
theorem TR.alloc {w:World}{a:Nat}{v:Value}{b:List Tx}(h:TR w a v b)(o:Obj):TR (w.alloc o) a v b:=by unfold TR dA at*;exact h.alloc o
theorem TR.lt {w:World}{a:Nat}{v:Value}{b:List Tx}(h:TR w a v b):∀g,v.ownBlock=some g->a<=g/\g<w.heap.size:=fun g c=>World.ownsRow.lt h g c
theorem TR.kept {w w':World}{a:Nat}{v:Value}{c:List Tx}{row:Option Nat}(h:TR w a v c)(d:w.grownBy w' row)(b:v.ownBlock=none\/v.ownBlock≠row):TR w' a v c:=World.ownsRow.kept h d b
theorem TR.more {w:World}{b a:Nat}{v:Value}{e:List Tx}(h:TR w b v e)(k:a<=b):TR w a v e:=by
 refine⟨h.1,?_⟩
 rcases h.2 with f|⟨g,d,c,j,l,i⟩
 ·exact .inl f
 ·exact .inr ⟨g,d,c,j,by omega,i⟩
abbrev Hl (w:World)(A:Option Addr)(a:List Tx):Prop:=Row strCells 1 w A (a.map bs)
theorem MU {w d:World}{A:Option Addr}{b:List Tx}(h:Hl w A b)(j:Below w.heap.size w d)(i:Nat)(g:i<b.length):
  ∃a,A=some a/\a.block<w.heap.size/\d.cell? (a.add i)=some (.string (bs b[i])):=by
 obtain⟨a,e,c,f⟩:=nT h j i (by simpa using g)
 rw[List.getElem_map]at f
 exact⟨a,e,c,f⟩
theorem Ct (W:World){f:Array Oper}{c:List Oper}{o:Oper}{a:Act}{Q:Exit->Act->World->Prop}(k:o.guard=none)(s x:Operand)
  (p:o.op=.call {callee:=.builtin .append,args:=#[s,x],argTypes:=#[27,27]}) (b:Nat) (v:Value) (j:List Tx) (n:ByteArray) (m:a.eval s=v)
  (l:a.eval x=.slice (some ⟨W.heap.size,0,none⟩) 1 1) (g:TR W b v j) (q:j.length<=1000000) (d:b<=W.heap.size)
  (h:∀i e,TR e b i (j++[tx n])->Below b W e->wpList Tryz.prog f Q c (a.put o.dst i) e):wpList Tryz.prog f Q (o::c) a (W.alloc (.cells #[.string n] 9)):=
 JX W k s x p b v (j.map bs) n m l g (by simpa using q) d (fun i e t r=>h i e (by unfold TR;rw[List.map_append,List.map_cons,List.map_nil,Qx];exact t) r)
theorem kM {w a:World}(h:Below w.heap.size w a)(row:Option Nat):w.grownBy a row:=⟨h.os,h.tape,h.output,h.size,fun k b _=>h.block k b⟩
end
section
open Go.RowKit Go.Sort
open Gs (Tx)
theorem Nn {l:List Plc}{j:Nat}(h:j<l.length):txs (l.take (j+1))=txs (l.take j)++[tx l[j].m.name]:=by
 unfold txs;rw[List.take_succ_eq_append_getElem h,List.map_append];rfl
theorem Ew (l:List Tx):(Gs.Sd l).length=l.length:=(Gs.SN l).length_eq
theorem Dn (A:Option Addr)(c:Nat)(l:List Plc)(w:World)(h:Row Plc.cells 8 w A l)(h8:l.length<=8):
  Calls Tryz.prog 156 #[.slice A l.length c] w fun e D=>(∃v,e=.returned v/\TR D w.heap.size v (Gs.Sd (txs l)))/\Below w.heap.size w D:=by
 have V:=Hp h
 clear h
 go_enter Tryz.func156,Tryz.ntmps156
 go_wp2_with fail
 go_loopw [3,8] (fun v i wr=>∃j:Nat,j<=l.length/\i=.int .i64 j/\TR wr w.heap.size v (txs (l.take j))/\Below w.heap.size w wr) (fun _ i _=>l.length -(intOf i).toNat)
 case atStart=>exact⟨0,by omega,rfl,TR.nil _ _,GZ4 _ _⟩
 case round=>
  obtain⟨j,hj,rfl,G,d⟩:=hrel
  have J:=Hp G
  have X:=Hp d
  clear G
  have f:=d.size
  by_cases b:j<l.length
  ·have H:(j:Int)<l.length:=by omega
   obtain⟨ad,rfl,M,U,T,S,R,Q,P,O,N⟩:=RS V.out d j b
   have I:=Hp (Nn b)
   have B:=Hp (show(txs (l.take j)).length<=8 by rw[eZ,GY6];omega)
   obtain⟨y,E⟩:=Nm (l[j]'b)
   rw[<-E]at U T S R Q P O N I
   obtain⟨q,a⟩:=Nm (wr.alloc (.cells #[.string y.m.name,.int .i64 y.m.major,.int .i64 y.m.minor,.string y.m.text,.slice y.m.eA y.m.ex.length y.m.eC,.slice y.m.iA y.m.im.length y.m.iC,.slice y.m.pA y.m.pa.length y.m.pC,.int .i64 y.first] 83))
   obtain⟨x0,x1,x2,x3,x4,x5,Z,Y,r,o⟩:=zH a
   have F:=a.symm
   have K:wr.heap.size<q.heap.size:=by omega
   have x:=Hp (show TR q w.heap.size _ (txs (l.take j)) from a▸J.out.alloc _)
   have C:=Hp (d.trans (o.mono f))
   have u:=Hp (show w.heap.size<=q.heap.size by omega)
   clear d a o E r
   go_wp2_with (at_builtin;refine Ct q rfl _ _ rfl w.heap.size _ (txs (l.take j)) y.m.name rfl rfl (by exact x.out) (by have:=B.out;omega) u.out ?_;intro v' w4 s t)
   go_roundw
   case rel=>exact⟨j+1,by omega,by go_num,by rw[I.out];exact s,C.trans t⟩
   case measure=>(simp[intOf];try omega)
  ·obtain rfl:j=l.length:=by omega
   have p:=Hp (show TR wr w.heap.size _ (txs l) by have:=J.out;rwa [List.take_length]at this)
   have B:=Hp (show(txs l).length<=big by rw[eZ];unfold big;omega)
   clear d
   go_wp2_with (go_at_call 219;refine(MQ p.own B.out).mono ?_;rintro e w2 ⟨rfl,k,n⟩;have z:=Hp k;have W:=Hp n;clear k n)
   go_ret
   exact⟨⟨_,rfl,TR.of_own z.out⟩,X.grown W.out f (fun g L=>(p.lt g L).1)⟩
theorem LQ (A:Option Addr)(c:Nat)(l:List Plc)(w:World)(h:Row Plc.cells 8 w A l)(n:l.length<=8):
  Calls Tryz.prog 155 #[.slice A l.length c] w fun e k=>e=.returned (.bool (dD l))/\Below w.heap.size w k:=by
 have p:=Hp (Dn A c l w h n)
 have o:=Hp (show dD l=decide ((Lib.compact (Gs.Sd (txs l))).length<l.length) from rfl)
 generalize Gs.Sd (txs l)=T at*
 generalize dD l=b at*
 clear h
 go_enter Tryz.func155,Tryz.ntmps155
 go_wp2_with (first
  |(go_at_call 156;refine(p.out).mono ?_;rintro e s ⟨⟨v,rfl,a⟩,f⟩;have i:=Hp a;have j:=Hp f;clear a f)
  |(go_at_call 218;refine(F6 i.own).mono ?_;rintro e r ⟨⟨u,t,rfl⟩,d⟩;have q:=Hp d;clear d))
 go_ret
 exact⟨aV (by rw[o.out]),j.grown q.out j.size (fun g m=>(i.lt g m).1)⟩
end
section
open Go.RowKit Go.Maps Go.WideMaps Go.Sort
open Gs (Tx)
theorem MS {b a:List ByteArray}(h:b.Perm a)(s:ByteArray):cnt b s=cnt a s:=by
 unfold cnt;rw[(h.filter _).length_eq]
theorem Ra.perm {w:World}{b n:Nat}{c a:List ByteArray}(h:Ra w b n c)(p:c.Perm a):Ra w b n a:=by
 obtain⟨D,e,d⟩:=h
 exact⟨D,e,fun s=>by rw[d,MS p]⟩
def Mt (w:World)(b:Nat)(M:List Tx):Prop:=Ra w b M.length (M.map bs)
theorem Mt.put {w:World}{b:Nat}{M:List Tx}{s:Tx}(h:Ra w b (M.length+1) (M.map bs++[bs s])):Mt w b (s::M):=by
 unfold Mt
 refine Ra.perm h ?_
 rw[List.map_cons]
 exact List.perm_append_comm (l₁:=M.map bs) (l₂:=[bs s])
theorem Mt.lt {w:World}{b:Nat}{M:List Tx}(h:Mt w b M):b<w.heap.size:=Ra.lt h
theorem Mt.kept {w w':World}{b B:Nat}{M:List Tx}(h:Mt w b M)(a:Below B w w')(c:b<B):Mt w' b M:=Ra.kept h a c
structure Wk (w0:World)(T:List Tx)(tA:Option Addr)(tC g:Nat)(lb:Array Value)(p b:Nat)(w:World):Prop where
 below:Below w0.heap.size w0 w
 f0:w.cell? ⟨p,0,none⟩=some (.slice tA T.length tC)
 f1:w.cell? ⟨p,1,none⟩=some (.map (some b))
 f2:w.cell? ⟨p,2,none⟩=some (.func (.func g) #[] lb)
 row:Hl w tA T
 pb:p≠b
 low:w0.heap.size<=b
 rb:∀ad,tA=some ad->ad.block≠b
 plt:p<w.heap.size
theorem L6 {w c:World}{size n b:Nat}{A:Option Addr}{f:List Value}(h:Reads w w.heap.size size A n f)(g:w.grownBy c (some b))(k:∀a,A=some a->a.block≠b):Reads c c.heap.size size A n f:=
 ⟨h.1,fun l=>by
  obtain⟨a,e,d,m⟩:=h.2 l
  refine⟨a,e,GY0 d g.size,fun j u i=>g.cell (m j u i) ?_⟩
  rw[aA]
  exact fun q=>k a e (GY3 q)⟩
theorem Wk.keep {c:World}{T:List Tx}{f:Option Addr}{e g:Nat}{i:Array Value}{p b:Nat}{w d:World}(h:Wk c T f e g i p b w)(a:w.grownBy d (some b)):Wk c T f e g i p b d where
 below:=h.below.grown a h.below.size (fun k j=>by cases j;exact h.low)
 f0:=a.cell h.f0 (fun q=>h.pb (GY3 q))
 f1:=a.cell h.f1 (fun q=>h.pb (GY3 q))
 f2:=a.cell h.f2 (fun q=>h.pb (GY3 q))
 row:=L6 h.row a h.rb
 pb:=h.pb
 low:=h.low
 rb:=h.rb
 plt:=GY0 h.plt a.size
end
section
open Go.RowKit
theorem mE (A p:Option Addr)(c v:Nat)(l:List Exp)(w:World)(h:Row Exp.cells 2 w A l)(n:Row Exp.cells 2 w p l)(t:l.length<=big):
  Calls Tryz.prog 33 #[.slice A l.length c,.slice p l.length v] w fun e q=>e=.returned (.bool true)/\Below w.heap.size w q:=by
 have H:=Hp h
 have z:=Hp n
 unfold big at t
 clear h n
 go_enter Tryz.func33,Tryz.ntmps33
 go_wp2_with fail
 go_loopw [5] (fun i wr=>∃(j:Nat),j<=l.length/\i=.int .i64 j/\Below w.heap.size w wr) (fun i _=>l.length -(intOf i).toNat)
 case atStart=>exact⟨0,by omega,rfl,GZ4 _ _⟩
 case round=>
  obtain⟨j,B,rfl,b⟩:=hrel
  have o:=Hp b
  by_cases a:j<l.length
  ·have k:(j:Int)<l.length:=by omega
   obtain⟨C,rfl,u,s,r⟩:=mF H.out b j a
   obtain⟨y,rfl,m,f,d⟩:=mF z.out b j a
   obtain⟨x,g⟩:=Nm (l[j])
   rw[<-g]at s f r d
   clear g b
   go_wp2_with fail
   go_quiet (fail)
   go_wp2_with fail
   go_roundw
   case rel=>exact⟨j+1,by omega,by go_num,below_drewN o.out _⟩
   case measure=>(simp[intOf];try omega)
  ·go_wp2_with fail
   go_ret
   exact⟨rfl,o.out⟩
theorem FN (M tx:ByteArray)(O N:Int)(u:List Exp)(d:List Imp)(c:List Pat)(P Y S k r l:Option Addr)(eC iC pC v C B:Nat)(w:World)
  (he:Sj w P u) (I:Sj w k u) (hi:TC w Y d) (H:TC w r d) (hp:pJ w S c) (F:pJ w l c):
  Calls Tryz.prog 51 #[.agg #[.string M,.int .i64 O,.int .i64 N,.string tx,.slice P u.length eC,.slice Y d.length iC,.slice S c.length pC],.agg #[.string M,.int .i64 O,.int .i64 N,.string tx,.slice k u.length v,.slice r d.length C,.slice l c.length B]] w fun e w'=>e=.returned (.bool true)/\Below w.heap.size w w':=by
 obtain⟨w0,t⟩:=Nm (w.alloc (.cells #[.string M,.int .i64 O,.int .i64 N,.string tx,.slice P u.length eC,.slice Y d.length iC,.slice S c.length pC] 70))
 obtain⟨e0,e1,e2,e3,e4,e5,e6,hz,b⟩:=wE t
 obtain⟨R,s⟩:=Nm (w0.alloc (.cells #[.string M,.int .i64 O,.int .i64 N,.string tx,.slice k u.length v,.slice r d.length C,.slice l c.length B] 70))
 obtain⟨f0,f1,f2,f3,f4,f5,f6,D,a⟩:=wE s
 rw[hz]at f0 f1 f2 f3 f4 f5 f6 D
 have x0:=(a.cell (p:=⟨w.heap.size,0,none⟩) (by simp;omega)).trans e0
 have x1:=(a.cell (p:=⟨w.heap.size,1,none⟩) (by simp;omega)).trans e1
 have x2:=(a.cell (p:=⟨w.heap.size,2,none⟩) (by simp;omega)).trans e2
 have x3:=(a.cell (p:=⟨w.heap.size,3,none⟩) (by simp;omega)).trans e3
 have x4:=(a.cell (p:=⟨w.heap.size,4,none⟩) (by simp;omega)).trans e4
 have x5:=(a.cell (p:=⟨w.heap.size,5,none⟩) (by simp;omega)).trans e5
 have x6:=(a.cell (p:=⟨w.heap.size,6,none⟩) (by simp;omega)).trans e6
 have L:=Hp (show Below w.heap.size w R from b.trans (a.mono (by omega)))
 have a8:=t.symm
 have a7:=s.symm
 have cE:=Hp (fun W(hW:Below w.heap.size w W)=>mE P k eC v u W (he.1.below hW) (I.1.below hW) he.2.1)
 have HI:=Hp hi
 have a6:=Hp H
 have HP:=Hp hp
 have a5:=Hp F
 have a1:=hi.2.1
 have a0:=hp.2
 unfold big at a1 a0
 have b1:w.heap.size+1<R.heap.size:=by omega
 have b0:w.heap.size<R.heap.size:=by omega
 clear t s b a he I hi H hp F e0 e1 e2 e3 e4 e5 e6 D
 go_enter Tryz.func51,Tryz.ntmps51
 go_wp2_with (go_at_call 33;refine(cE.out _ L.out).mono ?_;rintro e A ⟨rfl,h⟩;obtain⟨g,a2⟩:=aJ h;have K:=Hp (L.trans (h.mono (by omega)));have a9:w.heap.size+1<A.heap.size:=(by have:=h.size;omega))
 have y5:=(g w.heap.size 5 (by omega)).trans x5
 have y6:=(g w.heap.size 6 (by omega)).trans x6
 have g5:=(g (w.heap.size+1) 5 (by omega)).trans f5
 have g6:=(g (w.heap.size+1) 6 (by omega)).trans f6
 clear x0 x1 x2 x3 x4 x5 x6 f0 f1 f2 f3 f4 f5 f6 g a2 h cE
 go_loopw [5] (fun i wr=>∃(j:Nat),j<=d.length/\i=.int .i64 j/\Below A.heap.size A wr) (fun i _=>d.length -(intOf i).toNat)
 case atStart=>exact⟨0,by omega,rfl,GZ4 _ _⟩
 case round=>
  obtain⟨j,hj,rfl,b⟩:=hrel
  have z:=Hp b
  have r5:=(b.cell (p:=⟨w.heap.size,5,none⟩) (by simp;omega)).trans y5
  have s5:=(b.cell (p:=⟨w.heap.size+1,5,none⟩) (by simp;omega)).trans g5
  have r6:=(b.cell (p:=⟨w.heap.size,6,none⟩) (by simp;omega)).trans y6
  have s6:=(b.cell (p:=⟨w.heap.size+1,6,none⟩) (by simp;omega)).trans g6
  have y:=Hp (K.trans (b.mono (by omega)))
  by_cases f:j<d.length
  ·have G:(j:Int)<d.length:=by omega
   obtain⟨ad,rfl,a3,X,V,U,T⟩:=TA HI.out.1 y.out j f
   obtain⟨a4,rfl,J,q,o,n,m⟩:=TA a6.out.1 y.out j f
   obtain⟨x,E⟩:=Nm (d[j])
   rw[<-E]at X q V o U n T m
   clear E b
   go_wp2_with fail
   go_quiet (fail)
   go_wp2_with fail
   go_roundw
   case rel=>exact⟨j+1,by omega,by go_num,below_drewN z.out _⟩
   case measure=>(simp[intOf];try omega)
  ·clear b
   have Z:w.heap.size+1<wr.heap.size:=by have:=z.size;omega
   go_wp2_with fail
   go_loopw [6] (fun i Q=>∃(j:Nat),j<=c.length/\i=.int .i64 j/\Below A.heap.size A Q) (fun i _=>c.length -(intOf i).toNat)
   case atStart=>exact⟨0,by omega,rfl,z.out⟩
   clear r5 s5 r6 s6 z y Z
   case round=>
    obtain⟨j,hj,rfl,b⟩:=hrel
    have z:=Hp b
    have r6:=(b.cell (p:=⟨w.heap.size,6,none⟩) (by simp;omega)).trans y6
    have s6:=(b.cell (p:=⟨w.heap.size+1,6,none⟩) (by simp;omega)).trans g6
    have y:=Hp (K.trans (b.mono (by omega)))
    by_cases f:j<c.length
    ·have G:(j:Int)<c.length:=by omega
     obtain⟨ad,rfl,a3,X,V,U,T⟩:=qE HP.out.1 y.out j f
     obtain⟨a4,rfl,J,q,o,n,m⟩:=qE a5.out.1 y.out j f
     obtain⟨x,E⟩:=Nm (c[j])
     rw[<-E]at X q V o U n T m
     clear E b
     go_wp2_with fail
     go_quiet (fail)
     go_wp2_with fail
     go_roundw
     case rel=>exact⟨j+1,by omega,by go_num,below_drewN z.out _⟩
     case measure=>(simp[intOf];try omega)
    ·clear b
     go_wp2_with fail
     go_ret
     exact⟨rfl,y.out⟩
theorem qA (a b:Mod)(w:World)(K:gI a b)(i:a.ok w)(h:b.ok w):
  Calls Tryz.prog 51 #[a.v,b.v] w fun e s=>e=.returned (.bool true)/\Below w.heap.size w s:=by
 obtain⟨B,F,D,tx,M,H,x,O,N,J,I,z,y⟩:=a
 obtain⟨A,E,C,t,L,G,u,k,j,g,f,d,c⟩:=b
 obtain⟨r,q,p,o,n,m,l⟩:=K
 simp only at r q p o n m l
 subst r q p o n m l
 exact FN B tx F D M H x O J z k g d N I y j f c w i.ex h.ex i.im h.im i.pa h.pa
end
end Go.Proofs.YtjiedaialianmaaGreat
