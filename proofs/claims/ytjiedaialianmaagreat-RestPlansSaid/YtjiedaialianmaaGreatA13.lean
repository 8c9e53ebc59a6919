import Derived.Test.YtjiedaialianmaaGreatA07
import Derived.Test.YtjiedaialianmaaGreatA09
import Derived.Test.YtjiedaialianmaaGreatA10
set_option maxRecDepth 100000
set_option maxHeartbeats 4000000
namespace Go.Proofs.YtjiedaialianmaaGreat
section
open Go.RowKit Go.Sort
open Gs (Tx)
theorem rY {α:Type}(q:α->Bool)(l:List α):decide (0<=idxOf q l)=l.any q:=by
 rcases Sb q l with⟨e,h⟩|⟨j,b,e,h,_⟩
 ·rw[e]
  refine(GY7 (by omega)).trans (Eq.symm ?_)
  rw[List.any_eq_false]
  exact fun x a=>by simp[h x a]
 ·rw[e]
  exact(decide_eq_true (by omega)).trans (List.any_eq_true.2 ⟨_,GZ9 b,h⟩).symm
theorem JE (A:Option Addr)(c:Nat)(l:List Imp)(g:Nat)(s:Array Value)(q:Imp->Bool)(w:World)(Q:∀b w,(callFunc g b).run Tryz.prog w=.ok (.enter g b) w)(h:Row Imp.cells 4 w A l)(G:l.length<=big)
  (B:∀x∈l,∀W,Below w.heap.size w W->Calls Tryz.prog g (#[x.v]++s) W fun e m=>e=.returned (.bool (q x))/\Below W.heap.size W m):
  Calls Tryz.prog 253 #[.slice A l.length c,.func (.func g) #[] s] w fun e m=>e=.returned (.int .i64 (idxOf q l))/\Below w.heap.size w m:=by
 unfold big at G
 have K:=Hp h
 have J:=Hp B
 clear h B
 go_enter Tryz.func253,Tryz.ntmps253
 go_wp2_with fail
 go_loopw [8] (fun i wr=>∃j:Nat,j<=l.length/\i=.int .i64 j/\(∀k(o:k<l.length),k<j->q l[k]=false)/\Below w.heap.size w wr) (fun i _=>l.length -(intOf i).toNat)
 case atStart=>exact⟨0,by omega,rfl,by omega,GZ4 _ _⟩
 case round=>
  obtain⟨j,L,rfl,D,p⟩:=hrel
  have z:=Hp D
  have r:=Hp p
  clear D
  by_cases a:j<l.length
  ·have C:(j:Int)<l.length:=by omega
   obtain⟨R,rfl,H,P,O,N,M⟩:=TA K.out p j a
   have F:=p.size
   have y:=Hp (show Calls Tryz.prog g (#[(l[j]'a).v]++s) wr fun e m=>e=.returned (.bool (q (l[j]'a)))/\Below wr.heap.size wr m from J.out (l[j]'a) (GZ9 _) wr r.out)
   obtain⟨I,d⟩:=Nm (q (l[j]'a))
   rw[<-d]at y
   have n:=Hp d
   clear d p
   cases I
   ·go_wp2_with (go_at_fn g;refine(y.out).mono ?_;rintro e E ⟨rfl,f⟩)
    go_roundw
    case rel=>exact⟨j+1,by omega,by go_num,fun k o t=>by rcases Nat.lt_succ_iff_lt_or_eq.1 t with h|rfl;exact z.out k o h;exact n.symm,r.trans (f.mono (by omega))⟩
    case measure=>(simp[intOf];try omega)
   ·have u:=Hp (fJ a z.out n.symm)
    go_wp2_with (go_at_fn g;refine(y.out).mono ?_;rintro e E ⟨rfl,f⟩)
    go_ret
    exact⟨aC u.symm,r.trans (f.mono (by omega))⟩
  ·have u:=Hp (gT (q:=q) (l:=l) (fun k o=>z.out k o (by omega)))
   go_wp2_with fail
   go_ret
   exact⟨aC u.symm,r.out⟩
theorem Hz (A:Option Addr)(c:Nat)(l:List Imp)(g:Nat)(f:Array Value)(q:Imp->Bool)(w:World)(n:∀a w,(callFunc g a).run Tryz.prog w=.ok (.enter g a) w)(h:Row Imp.cells 4 w A l)(m:l.length<=big)
  (k:∀x∈l,∀W,Below w.heap.size w W->Calls Tryz.prog g (#[x.v]++f) W fun e d=>e=.returned (.bool (q x))/\Below W.heap.size W d):
  Calls Tryz.prog 220 #[.slice A l.length c,.func (.func g) #[] f] w fun e d=>e=.returned (.bool (l.any q))/\Below w.heap.size w d:=by
 have p:=Hp (JE A c l g f q w n h m k)
 have o:=Hp (rY q l)
 generalize l.any q=b at*
 generalize idxOf q l=i at*
 clear h k
 go_enter Tryz.func220,Tryz.ntmps220
 go_wp2_with (go_at_call 253;refine(p.out).mono ?_;rintro e r ⟨rfl,j⟩)
 go_ret
 exact⟨aV o.out,j⟩
theorem DZ (A:Option Addr)(c:Nat)(l:List Tx)(g:Nat)(s:Array Value)(q:Tx->Bool)(w:World)(M:∀b w,(callFunc g b).run Tryz.prog w=.ok (.enter g b) w)(h:Hl w A l)(F:l.length<=big)
  (z:∀x∈l,∀W,Below w.heap.size w W->Calls Tryz.prog g (#[.string (bs x)]++s) W fun e m=>e=.returned (.bool (q x))/\Below W.heap.size W m):
  Calls Tryz.prog 157 #[.slice A l.length c,.func (.func g) #[] s] w fun e m=>e=.returned (.int .i64 (idxOf q l))/\Below w.heap.size w m:=by
 unfold big at F
 have J:=Hp h
 have I:=Hp z
 clear h z
 go_enter Tryz.func157,Tryz.ntmps157
 go_wp2_with fail
 go_loopw [8] (fun i wr=>∃j:Nat,j<=l.length/\i=.int .i64 j/\(∀k(o:k<l.length),k<j->q l[k]=false)/\Below w.heap.size w wr) (fun i _=>l.length -(intOf i).toNat)
 case atStart=>exact⟨0,by omega,rfl,by omega,GZ4 _ _⟩
 case round=>
  obtain⟨j,K,rfl,C,p⟩:=hrel
  have y:=Hp C
  have r:=Hp p
  clear C
  by_cases a:j<l.length
  ·have B:(j:Int)<l.length:=by omega
   obtain⟨N,rfl,G,L⟩:=MU J.out p j a
   have E:=p.size
   have v:=Hp (show Calls Tryz.prog g (#[.string (bs (l[j]'a))]++s) wr fun e m=>e=.returned (.bool (q (l[j]'a)))/\Below wr.heap.size wr m from I.out (l[j]'a) (GZ9 _) wr r.out)
   obtain⟨H,d⟩:=Nm (q (l[j]'a))
   rw[<-d]at v
   have n:=Hp d
   clear d p
   cases H
   ·go_wp2_with (go_at_fn g;refine(v.out).mono ?_;rintro e D ⟨rfl,f⟩)
    go_roundw
    case rel=>exact⟨j+1,by omega,by go_num,fun k o t=>by rcases Nat.lt_succ_iff_lt_or_eq.1 t with h|rfl;exact y.out k o h;exact n.symm,r.trans (f.mono (by omega))⟩
    case measure=>(simp[intOf];try omega)
   ·have u:=Hp (fJ a y.out n.symm)
    go_wp2_with (go_at_fn g;refine(v.out).mono ?_;rintro e D ⟨rfl,f⟩)
    go_ret
    exact⟨aC u.symm,r.trans (f.mono (by omega))⟩
  ·have u:=Hp (gT (q:=q) (l:=l) (fun k o=>y.out k o (by omega)))
   go_wp2_with fail
   go_ret
   exact⟨aC u.symm,r.out⟩
theorem Jb (A:Option Addr)(c:Nat)(l:List Tx)(g:Nat)(f:Array Value)(q:Tx->Bool)(w:World)(n:∀a w,(callFunc g a).run Tryz.prog w=.ok (.enter g a) w)(h:Hl w A l)(m:l.length<=big)
  (k:∀x∈l,∀W,Below w.heap.size w W->Calls Tryz.prog g (#[.string (bs x)]++f) W fun e d=>e=.returned (.bool (q x))/\Below W.heap.size W d):
  Calls Tryz.prog 159 #[.slice A l.length c,.func (.func g) #[] f] w fun e d=>e=.returned (.bool (l.any q))/\Below w.heap.size w d:=by
 have p:=Hp (DZ A c l g f q w n h m k)
 have o:=Hp (rY q l)
 generalize l.any q=b at*
 generalize idxOf q l=i at*
 clear h k
 go_enter Tryz.func159,Tryz.ntmps159
 go_wp2_with (go_at_call 157;refine(p.out).mono ?_;rintro e r ⟨rfl,j⟩)
 go_ret
 exact⟨aV o.out,j⟩
def pW (b:ByteArray)(x:Imp):Bool:=decide (x.mod=b)
theorem Fs (m:Mod)(b:ByteArray):asks m (tx b)=m.im.any (pW b):=by
 unfold asks
 congr 1
 funext i
 unfold pW
 by_cases h:i.mod=b
 ·simp[h]
 ·have:tx i.mod≠tx b:=fun e=>h (FC e)
  simp[h,this]
theorem LP (x:Imp)(b:ByteArray)(B:Nat)(w:World)(d:B<w.heap.size)(h:w.cell? ⟨B,0,none⟩=some (.string b)):
  Calls Tryz.prog 221 (#[x.v]++ #[.pointer (some ⟨B,0,none⟩)]) w fun e a=>e=.returned (.bool (pW b x))/\Below w.heap.size w a:=by
 have c:pW b x=(x.mod.toList==b.toList):=by
  unfold pW
  by_cases e:x.mod=b
  ·rw[str_eq e];simp[e]
  ·rw[mY e];simp[e]
 rw[c]
 go_enter Tryz.func221,Tryz.ntmps221
 go_wp2_with fail
 go_ret
 exact⟨rfl,ZB⟩
theorem Ow {l:List Plc}{a:ByteArray}{b:Tx}{j:Nat}(c:j<l.length)(h:l.find? (named a)=some l[j]):nU l (tx a) b=asks l[j].m b:=by
 unfold nU;rw[Iq,h]
theorem Kk {l:List Plc}{a:ByteArray}(h:tx a∈txs l):∃j,∃d:j<l.length,idxOf (named a) l=j/\l.find? (named a)=some l[j]:=by
 rcases gW (named a) l with⟨_,c⟩|h
 ·obtain⟨x,b,e⟩:=List.mem_map.1 h
  have:=List.find?_eq_none.1 c x b
  exact absurd (decide_eq_true (FC e)) this
 ·exact h
theorem BU (A:Option Addr)(c:Nat)(l:List Plc)(a b:ByteArray)(w:World)(h:aU w A l)(y:tx a∈txs l):
  Calls Tryz.prog 161 #[.slice A l.length c,.string a,.string b] w fun e E=>e=.returned (.bool (nU l (tx a) (tx b)))/\Below w.heap.size w E:=by
 obtain⟨j,i,B,z⟩:=Kk y
 rw[Ow i z,Fs]
 obtain⟨p,g⟩:=Nm (w.alloc (.cells #[.string b] 9))
 obtain⟨r,F,f⟩:=Ui g
 have q:=h.each l[j] (GZ9 _)
 have C:=Hp (SY A c l a p (h.row.below f) h.len)
 have H:=Hp (fun W(o:Below p.heap.size p W)=>Hz (l[j]'i).m.iA (l[j]'i).m.iC (l[j]'i).m.im 221 #[.pointer (some ⟨w.heap.size,0,none⟩)] (pW b) W (enters_of Tryz.func221 (by kernel_rfl) rfl) ((q.below f).im.1.below o) q.im.2.1
  (fun x _ I n=>LP x b w.heap.size I (by have:=o.size;have:=n.size;omega) ((n.cell (by have:=o.size;simp;omega)).trans ((o.cell (by simp;omega)).trans r))))
 rw[B]at C
 have J:=Hp (fun W(s:Below w.heap.size w W)=>RS h.row s j i)
 obtain⟨V,rfl,_⟩:=RS h.row (GZ4 _ _) j i
 have D:=Hp f
 have v:=g.symm
 have G:(j:Int)<l.length:=by omega
 have k:=h.len
 unfold big at k
 generalize(l[j].m.im.any (pW b))=R at*
 clear g f h q B z y
 go_enter Tryz.func161,Tryz.ntmps161
 go_wp2_with (first
  |(go_at_call 124;refine(C.out).mono ?_;rintro e L ⟨rfl,d⟩;obtain⟨_,u,_,U,T,S,Q,P,O,N,M⟩:=J.out _ (D.trans (d.mono (by omega)));obtain rfl:=GY3 u)
  |(go_at_call 220;refine(H.out _ d).mono ?_;rintro e K ⟨rfl,t⟩))
 go_ret
 exact⟨rfl,D.trans ((d.trans (t.mono d.size)).mono (by omega))⟩
end
section
open Go.RowKit Go.Lib Go.Sort
open Gs (Tx)
theorem TR.ne {w:World}{a k:Nat}{v:Value}{b:List Tx}(h:TR w a v b)(c:k<a):v.ownBlock≠some k:=fun e=>by have:=(h.lt k e).1;omega
theorem heap_put {w:World}{g q:Nat}{a:Array Value}{e:TypeId}{b:Nat×Nat}(d:Array (List UInt8))(c:w.heap[g]? =some (.cells a e b)):
  (putRow encStr (Sort.ahead w q) g 0 d).heap[g]? =some (.cells (putCells encStr 0 d a) e b):=by
 simp[putRow,mapBlock,Sort.ahead,Array.getElem?_modify,c,onCells]
theorem Tm :∀(l:List Tx)(i:Nat),l.eraseIdx i=l.take i++l.drop (i+1)
 | [],i=>by simp
 |x::l,0=>by simp
 |x::l,i+1=>by simp[Tm l i]
theorem Lr {w:World}{b c i:Nat}{A:Option Addr}{a:List Tx}(h:TR w b (.slice A a.length c) a)(y:i<a.length):
  Calls Tryz.prog 162 #[.slice A a.length c,.int .i64 i,.int .i64 (i+1)] w fun e k=>e=.returned (.slice A (a.eraseIdx i).length c)/\TR k b (.slice A (a.eraseIdx i).length c) (a.eraseIdx i)/\w.grownBy k (Value.slice A a.length c).ownBlock:=by
 have p:=h.own
 have o:Value.slice A a.length c≠ .slice none 0 0:=by intro e;injection e with _ e2 _;omega
 obtain⟨g,H,d,B,z,f,l,r,D⟩:=Lib.holds_of_ownsRow p o
 injection d with hA _ hcc
 subst hA hcc
 unfold maxLen at l
 have x:(a.eraseIdx i).length=a.length -1:=by rw[List.length_eraseIdx,if_pos y]
 refine(Tryz.slices_Delete_string g 0 c i (i+1) a w D f (by omega) (by omega) (by omega)).mono ?_
 rintro e k ⟨rfl,q,rfl⟩
 refine⟨by rw[x,show i+1 -i=1 by omega],?_,yF _⟩
 rcases p.2 with⟨G,_⟩|⟨K,t,m,d,j,C,J,F,E,I⟩
 ·exact absurd G o
 ·injection d with hA' _ hc'
  injection hA' with hA'
  injection hA' with hg' _ _
  subst hg' hc'
  refine TR.of_own (n:=(a.eraseIdx i).length) ⟨by simp,.inr ⟨g,c,_,rfl,j,heap_put _ C,by omega,F,by simp[putCells,E],?_⟩⟩
  have v:a.take i++a.drop (i+1)++List.replicate (i+1 -i) []=a.eraseIdx i++[[]]:=by rw[Tm,show i+1 -i=1 by omega];rfl
  rw[v,Nat.mul_one]
  have u:=take_putCells m (a.eraseIdx i++[[]]) (by simp;omega)
  have s:=congrArg (List.take (a.eraseIdx i).length) u
  rw[List.take_take,Nat.min_eq_left (by simp)]at s
  rw[s,List.map_append]
  rw[List.take_append_of_le_length (by simp),List.take_of_length_le (by simp)]
theorem OH (r:Tx->Tx->Bool)(left:List Tx)(x:Tx):Gs.free r left x=!(left.any (r x)):=by
 unfold Gs.free
 induction left with
 |nil=>rfl
 |cons y l ih=>rw[List.all_cons,List.any_cons,ih];cases r x y<;>rfl
theorem VQ {α:Type}(q:α->Bool):∀(l:List α),idxOf q l=if l.findIdx q<l.length then(l.findIdx q:Int)else-1
 | []=>rfl
 |x::l=>by
  unfold idxOf
  rw[List.findIdx_cons]
  by_cases h:q x=true
  ·simp[h]
  ·have b:q x=false:=by simpa using h
   have a:=VQ q l
   rw[if_neg h,b]
   simp only[cond_false,GY8]
   by_cases k:l.findIdx q<l.length
   ·rw[if_pos k]at a
    rw[a,if_neg (by omega),if_pos (by omega)];rfl
   ·rw[if_neg k]at a
    rw[a,if_pos (by omega),if_neg (by omega)]
theorem Gl (A:Option Addr)(c:Nat)(l:List Plc)(L X:Nat)(x y:Tx)(w:World)(h:aU w A l)(k:w.cell? ⟨L,0,none⟩=some (.slice A l.length c))(j:w.cell? ⟨X,0,none⟩=some (.string (bs x)))(b:x∈txs l):
  Calls Tryz.prog 160 (#[.string (bs y)]++ #[.pointer (some ⟨L,0,none⟩),.pointer (some ⟨X,0,none⟩)]) w fun e g=>e=.returned (.bool (nU l x y))/\Below w.heap.size w g:=by
 have f:=Hp (BU A c l (bs x) (bs y) w h (by rw[Nh];exact b))
 simp only[Nh]at f
 generalize nU l x y=d at*
 clear h b
 go_enter Tryz.func160,Tryz.ntmps160
 go_wp2_with (first|(go_at_call 161;(with_reducible refine(f.out).mono ?_);rintro e i ⟨rfl,a⟩))
 go_ret
 exact⟨rfl,a⟩
theorem FZ (A:Option Addr)(c:Nat)(l:List Plc)(B L:Nat)(f:Option Addr)(n:Nat)(left:List Tx)(x:Tx)(w:World)(h:aU w A l)(t:w.cell? ⟨L,0,none⟩=some (.slice A l.length c))
  (i:w.cell? ⟨B,0,none⟩=some (.slice f left.length n)) (r:Hl w f left) (s:left.length<=big) (o:x∈txs l) (C:L<w.heap.size):
  Calls Tryz.prog 158 (#[.string (bs x)]++ #[.pointer (some ⟨B,0,none⟩),.pointer (some ⟨L,0,none⟩)]) w fun e z=>e=.returned (.bool (Gs.free (nU l) left x))/\Below w.heap.size w z:=by
 obtain⟨v,d⟩:=Nm (w.alloc (.cells #[.string (bs x)] 9))
 obtain⟨j,g,a⟩:=Ui d
 have E:=Hp (Jb f n left 160 #[.pointer (some ⟨L,0,none⟩),.pointer (some ⟨w.heap.size,0,none⟩)] (nU l x) v (enters_of Tryz.func160 (by kernel_rfl) rfl) (r.below a) s
  (fun y _ W m=>Gl A c l L w.heap.size x y W ((h.below a).below m) ((m.cell (by simp;omega)).trans ((a.cell C).trans t)) ((m.cell (by simp;omega)).trans j) o))
 have D:B<w.heap.size:=World.block_lt_of_cell? _ _ i
 have d0:=(a.cell (p:=⟨B,0,none⟩) D).trans i
 have u:=Hp a
 have q:=d.symm
 rw[OH]
 generalize left.any (nU l x)=b at*
 clear d a h r t i o g s
 go_enter Tryz.func158,Tryz.ntmps158
 go_wp2_with (go_at_call 159;refine(E.out).mono ?_;rintro e F ⟨rfl,k⟩)
 go_ret
 exact⟨rfl,u.trans (k.mono u.size)⟩
def PW (b:World)(a:Nat)(e:Ending)(o:Option (List Tx)):Prop:=∃v,e=.returned (.tuple #[v,.bool o.isSome])/\TR b a v (o.getD [])
theorem TR.Qp {w e:World}{a B:Nat}{v:Value}{f:List Tx}(h:TR w a v f)(j:Below B w e)(b:∀g,v.ownBlock=some g->g<B):TR e a v f:=by
 refine⟨h.1,?_⟩
 rcases h.2 with k|⟨g,d,c,i,n,m,l⟩
 ·exact .inl k
 ·refine .inr ⟨g,d,c,i,n,?_,l⟩
  rw[j.block g (b g (by rw[i];rfl))];exact m
structure Pz (l:List Plc)(base B base2:Nat)(w:World)(v:Value)(left out:List Tx)(wr:World):Prop where
 ord:Gs.order (nU l) left.length left out=rT l
 out_:TR wr base2 v out
 box:∃u,Boxed wr B 27 u/\TR wr base u left/\(∀g,u.ownBlock=some g->g<B)
 mem:∀x∈left,x∈txs l
 len:out.length+left.length<=8
 bel:Below base w wr
theorem Jj (r:Tx->Tx->Bool)(left a:List Tx)(h:left=[]):Gs.order r left.length left a=some a:=by subst h;rfl
theorem Kv (r:Tx->Tx->Bool)(left a:List Tx)(h:left≠[]):Gs.order r left.length left a=if left.findIdx (Gs.free r left)<left.length then Gs.order r (left.length -1) (left.eraseIdx (left.findIdx (Gs.free r left))) (a++[left.getD (left.findIdx (Gs.free r left)) []])else none:=by
 obtain⟨n,b⟩:∃n,left.length=n+1:=by
  cases left with
  |nil=>exact absurd rfl h
  |cons x l=>exact⟨l.length,rfl⟩
 rw[b,Gs.order,b];rfl
theorem Ii (A:Option Addr)(c:Nat)(l:List Plc)(w:World)(h:aU w A l)(h8:l.length<=8):
  Calls Tryz.prog 87 #[.slice A l.length c] w fun e w'=>PW w' w.heap.size e (rT l)/\Below w.heap.size w w':=by
 obtain⟨D,H⟩:=Nm (w.alloc (.cells #[.slice A l.length c] 37))
 obtain⟨a8,s,L⟩:=Ui H
 have c1:=Hp (Dn A c l D (h.row.below L) h8)
 have HP:=Hp h
 have H0:=Hp L
 have c6:=Hp a8
 have a0:=Hp s
 have Y:=Hp (show(Gs.Sd (txs l)).length=l.length by rw[Ew,eZ])
 have c7:=H.symm
 clear h L H s
 go_enter Tryz.func87,Tryz.ntmps87
 go_wp2_with (go_at_call 156;refine(c1.out).mono ?_;rintro e a ⟨⟨v,rfl,J⟩,X⟩;obtain⟨lA,lC,rfl,_⟩:=J.form;have HT:=Hp J;have C:=Hp X;clear J X)
 have Z:Pz l D.heap.size a.heap.size (a.heap.size+1) D (.slice none 0 0) (Gs.Sd (txs l)) [] (a.alloc (.cells #[.slice lA (Gs.Sd (txs l)).length lC] 27)):=
  ⟨by rw[Y.out];rfl,TR.nil _ _,⟨_,Boxed.new _ _ _,HT.alloc _,fun g V=>(HT.lt g V).2⟩,fun x S=>by rwa [Gs.Kj]at S,
   by rw[Y.out];simpa using h8,C.alloc C.size _⟩
 have b8:=Hp Z
 have c5:=Hp (show w.heap.size<a.heap.size by have h1:=a0.out;have h2:=C.size;omega)
 clear Z
 go_loopg [5] (Gs.Sd (txs l)).length (fun gf v wr=>∃left i,left.length=gf/\Pz l D.heap.size a.heap.size (a.heap.size+1) D v left i wr)
 case atStart=>exact⟨_,_,rfl,b8.out⟩
 case round=>
  obtain⟨left,i,G,hS⟩:=hrel
  have B:=Hp hS
  have HB:=Hp hS.bel
  obtain⟨u,f,I,F⟩:=hS.box
  obtain⟨uA,uC,rfl,E⟩:=I.form
  have b0:=f.cell
  have b1:=f.frozen
  have HX:=Hp f
  have a2:=Hp I
  have o:=Hp F
  have j:=Hp E
  have s:=a0.out
  have a7:=(HB.cell (p:=⟨w.heap.size,0,none⟩) (by simp;omega)).trans c6.out
  have d1:w.heap.size<wr.heap.size:=by have:=HB.size;omega
  have r:=Hp (H0.trans (HB.mono H0.size))
  have c4:=Hp G
  have a9:=f.lt
  clear hS I F E s G
  by_cases y:left=[]
  ·subst y
   have n:=Hp (B.ord.symm.trans (Jj _ _ i rfl))
   go_wp2_with fail
   go_ret2
   exact⟨⟨_,by rw[n.out];rfl,by rw[n.out];exact B.out_.more (by have:=c5.out;omega)⟩,r.out⟩
  ·have n:=Hp (B.ord.symm.trans (Kv _ _ i y))
   have c8:(0:Int)<left.length:=by have:=List.length_pos_iff.2 y;omega
   have d0:left.length<=8:=by have:=B.len;omega
   have P:=Hp (DZ uA uC left 158 #[.pointer (some ⟨a.heap.size,0,none⟩),.pointer (some ⟨w.heap.size,0,none⟩)] (Gs.free (nU l) left) wr (enters_of Tryz.func158 (by kernel_rfl) rfl) j.out (by unfold big;omega)
    (fun x S W M=>FZ A c l a.heap.size w.heap.size uA uC left x W (HP.below (r.trans (M.mono r.size))) ((M.cell (by simp;omega)).trans a7) ((M.cell (by simp;omega)).trans b0) (j.below M) (by unfold big;omega) (B.mem x S) (by have:=M.size;omega)))
   rw[VQ]at P
   obtain⟨k,hk⟩:=Nm (left.findIdx (Gs.free (nU l) left))
   rw[<-hk]at P n
   clear hk f
   by_cases d:k<left.length
   ·rw[if_pos d]at P n
    have a3:=Hp (fun W(M:Below wr.heap.size wr W)=>MU j.out M k d)
    obtain⟨Q,hA,_⟩:=MU j.out (GZ4 _ _) k d
    subst hA
    have eg:left.getD k []=left[k]:=by rw[List.getD_eq_getElem?_getD,GY5 d];rfl
    rw[eg]at n
    obtain⟨t,ht⟩:=Nm (left[k]'d)
    rw[<-ht]at n
    simp only[<-ht]at a3
    clear ht eg y
    have b9:=Hp (show i.length<=1000000 by have:=B.len;omega)
    have c9:(k:Int)<left.length:=by omega
    have HK:=Hp d
    go_wp2_with (first
     |(go_at_call 157;refine(P.out).mono ?_;rintro e R ⟨rfl,b⟩
       have b2:=(b.cell (p:=⟨a.heap.size,0,none⟩) a9).trans b0
       obtain⟨_,eA,_,r3⟩:=a3.out R b
       obtain rfl:=GY3 eA
       have a5:=Hp b
       have c3:=Hp (B.out_.below b (GZ3 _))
       have b7:=Hp (a2.below b (GZ3 _))
       have a1:=Hp (show Boxed R a.heap.size _ _ from(b.block _ HX.lt).trans HX.out)
       have b3:=Hp (show a.heap.size+1<=R.heap.size by have:=a1.lt;omega)
       clear b)
     |(at_builtin;refine Ct R rfl _ _ rfl (a.heap.size+1) _ i (bs t) rfl rfl (by exact c3.out) b9.out b3.out ?_;intro v' w4 U m
       have d4:=(m.cell (p:=⟨a.heap.size,0,none⟩) (by simp)).trans b2
       have a4:=Hp m
       have c0:=Hp U
       have b6:=Hp (b7.Qp m (fun g V=>by have:=o.out g V;omega))
       have b4:=Hp (show Boxed w4 a.heap.size _ _ from(m.block _ (by omega)).trans a1.out)
       clear m U)
     |(go_at_call 162;refine(Lr b6.out HK.out).mono ?_;rintro e w5 ⟨rfl,T,K⟩
       have N:=Hp (b4.kept K (fun q=>by have:=o.out _ q.symm;omega))
       have d3:=N.cell
       have d2:=N.frozen
       have b5:=Hp T
       have O:=Hp K
       clear T K))
    have hE:(left.eraseIdx k).length=left.length -1:=by rw[List.length_eraseIdx,if_pos HK.out]
    have HE:=Hp hE
    clear hE
    go_roundg (left.length -1)
    case measure=>have:=c4.out;omega
    case rel=>
     have z:∀g,(Value.slice (some Q) left.length uC).ownBlock=some g->g<a.heap.size:=o.out
     have hs:=grownBy_setCell' w5 a.heap.size (.slice (some Q) (left.eraseIdx k).length uC)
     refine⟨left.eraseIdx k,i++[t],HE.out,?_,?_,⟨_,N.set _,b5.kept hs (.inr (fun q=>by have:=z _ q;omega)),z⟩,fun x S=>B.mem x (List.mem_of_mem_eraseIdx S),?_,?_⟩
     ·rw[HE.out];exact n.symm
     ·have h4:=c0.out
      rw[Nh]at h4
      exact(h4.kept O.out (.inr (fun q=>by
       have h1:=z Q.block rfl
       exact h4.ne (k:=Q.block) (by omega) q))).kept hs (.inr (fun q=>by
        have h5:=h4.kept O.out (.inr (fun q=>by
         have h1:=z Q.block rfl
         exact h4.ne (k:=Q.block) (by omega) q))
        exact h5.ne (k:=a.heap.size) (by omega) q))
     ·have:=B.len;have:=HE.out;have:=HK.out;rw[GZ8];simp;omega
     ·have z1:=HB.size
      have z2:=a5.size
      have z3:=a4.size
      have a6:D.heap.size<=a.heap.size:=C.size
      have q4:Below D.heap.size D w4:=(HB.trans (a5.mono z1)).trans (a4.mono (by omega))
      exact(q4.grown O.out q4.size (fun g V=>(a2.lt g V).1)).setCell (p:=⟨a.heap.size,0,none⟩) a6 _
   ·rw[if_neg d]at P n
    clear d
    go_wp2_with (go_at_call 157;refine(P.out).mono ?_;rintro e R ⟨rfl,b⟩)
    go_ret2
    exact⟨⟨_,by rw[n.out];rfl,by rw[n.out];exact TR.nil _ _⟩,r.trans (b.mono r.size)⟩
end
section
open Go.RowKit Go.Lib Go.Sort
open Gs (Tx)
theorem CE (A:Option Addr)(c:Nat)(l:List Plc)(i k:Nat)(w:World)(h:aU w A l)(J:i<l.length)(B:k<l.length):
  Calls Tryz.prog 109 #[.slice A l.length c,.int .i64 i,.int .i64 k] w fun e Q=>e=.returned (.bool (asks l[i].m (tx l[k].m.name)))/\Below w.heap.size w Q:=by
 rw[Fs]
 have u:=h.each l[i] (GZ9 _)
 have p:=h.len
 have g:=u.im.2.1
 unfold big at p g
 obtain⟨ad,rfl,X,_⟩:=RS h.row (GZ4 _ _) i J
 have M:=Hp (fun W(b:Below w.heap.size w W)=>RS h.row b i J)
 have L:=Hp (fun W(b:Below w.heap.size w W)=>RS h.row b k B)
 have P:=Hp u.im.1
 have U:(i:Int)<l.length:=by omega
 have T:(k:Int)<l.length:=by omega
 obtain⟨x,t⟩:=Nm (l[i].m)
 obtain⟨y,s⟩:=Nm (l[k].m)
 rw[<-t]at P g ⊢
 simp only[<-t]at M
 simp only[<-s]at L
 rw[<-s]
 obtain⟨R,D⟩:=Nm (x.im.any (pW y.name))
 rw[<-D]
 have N:=Hp D
 clear D u h t s
 go_enter Tryz.func109,Tryz.ntmps109
 go_wp2_with fail
 go_loopw [7] (fun n wr=>∃j:Nat,j<=x.im.length/\n=.int .i64 j/\(∀q(H:q<x.im.length),q<j->pW y.name x.im[q]=false)/\Below w.heap.size w wr) (fun i _=>x.im.length -(intOf i).toNat)
 case atStart=>exact⟨0,by omega,rfl,by omega,GZ4 _ _⟩
 case round=>
  obtain⟨j,Z,rfl,K,f⟩:=hrel
  have O:=Hp K
  have G:=Hp f
  clear K
  obtain⟨_,E,_,a0,a1,a2,a3,a4,Y,a6,a7⟩:=M.out _ f
  obtain rfl:=GY3 E
  obtain⟨_,E,_,b0,b1,b2,b3,b4,b5,b6,b7⟩:=L.out _ f
  obtain rfl:=GY3 E
  by_cases o:j<x.im.length
  ·have I:(j:Int)<x.im.length:=by omega
   obtain⟨bd,r,V,h0,h1,h2,h3⟩:=TA P.out f j o
   rw[r]at Y
   clear f r
   by_cases d:x.im[j].mod=y.name
   ·have C:=str_eq d
    have a:=Hp (show R=true by rw[N.out];exact List.any_eq_true.2 ⟨_,GZ9 o,by simp[pW,d]⟩)
    clear d
    go_wp2_with fail
    go_quiet (fail)
    go_wp2_with fail
    go_ret
    exact⟨aV a.symm,below_drewN G.out _⟩
   ·have C:=mY d
    have F:=Hp (show pW y.name x.im[j]=false by simp[pW,d])
    clear d
    go_wp2_with fail
    go_quiet (fail)
    go_wp2_with fail
    go_roundw
    case rel=>exact⟨j+1,by omega,by go_num,fun k B v=>by rcases Nat.lt_succ_iff_lt_or_eq.1 v with h|rfl;exact O.out k B h;exact F.out,below_drewN G.out _⟩
    case measure=>(simp[intOf];try omega)
  ·have a:=Hp (show R=false by
    rw[N.out,List.any_eq_false]
    intro z S
    obtain⟨q,H,e⟩:=List.getElem_of_mem S
    rw[<-e,O.out q H (by omega)];simp)
   clear f
   go_wp2_with fail
   go_ret
   exact⟨aV a.symm,G.out⟩
end
section
open Go.RowKit
def zI (W:World)(b:Nat)(t:TypeId):Prop:=∃(x y:Int)(g:Option Addr)(c e:Nat)(f:Option Addr)(a d:Nat),W.heap[b]? =some (.cells #[.int .i64 x,.int .i64 y,.slice g c e,.slice f a d] t (0,0))
theorem KC {W:World}{b:Nat}{t:TypeId}{p:Addr}(h:zI W b t)(d:p.block=b){u:Value}(a:W.cell? p=some u):(p.off<2/\∃x,u=.int .i64 x)\/(2<=p.off/\∃A n c,u=.slice A n c):=by
 obtain⟨x,y,q,j,l,m,i,k,e⟩:=h
 obtain⟨g,o,f⟩:=p
 subst d
 simp only[World.cell?,e]at a
 split at a
 ·cases a
 ·match o,a with
  |0,a=>simp at a;exact .inl ⟨by simp,x,a.symm⟩
  |1,a=>simp at a;exact .inl ⟨by simp,y,a.symm⟩
  |2,a=>simp at a;exact .inr ⟨by simp,_,_,_,a.symm⟩
  |3,a=>simp at a;exact .inr ⟨by simp,_,_,_,a.symm⟩
  |o+4,a=>simp at a
theorem JQ (a:Addr)(n:Nat):(a.add n).off=a.off+n:=by
 unfold Addr.add;split
 ·rename_i h;subst h;rfl
 ·rfl
theorem Reads.other {W W':World}{b k n:Nat}{t:TypeId}{A:Option Addr}{a:List Value}(h:Reads W W.heap.size k A n a)(hr:zI W b t)(ho:Only b W W')
  (r:0<n->(∃s,a[0]? =some (.string s))\/∃l i,a[0]? =some (.int .i64 l)/\a[2]? =some (.int .i64 i)):Reads W' W'.heap.size k A n a:=by
 refine⟨h.1,fun m=>?_⟩
 obtain⟨g,e,o,f⟩:=h.2 m
 have d:g.block≠b:=fun c=>by
  rcases r m with⟨s,p⟩|⟨l,i,p,v⟩
  ·rcases KC hr (by rw[aA];exact c) (f 0 _ p)with⟨_,x,h⟩|⟨_,_,_,_,h⟩<;>cases h
  ·rcases KC hr (by rw[aA];exact c) (f 2 _ v)with⟨h,_⟩|⟨_,_,_,_,h⟩
   ·rw[JQ]at h;omega
   ·cases h
 exact⟨g,e,GY0 o ho.size,fun j u q=>by
  rw[<-f j u q]
  exact World.cell?_of_block (by rw[aA];exact ho.block g.block o d)⟩
section
variable {W W':World} {b:Nat} {t:TypeId} (hr:zI W b t) (ho:Only b W W')
include hr ho
theorem Sj.other {A:Option Addr}{l:List Exp}(h:Sj W A l):Sj W' A l:=⟨Reads.other h.1 hr ho (fun a=>by
 cases l with
 |nil=>simp at a
 |cons x r=>exact .inl ⟨x.name,rfl⟩),h.2⟩
theorem TC.other {A:Option Addr}{l:List Imp}(h:TC W A l):TC W' A l:=⟨Reads.other h.1 hr ho (fun a=>by
 cases l with
 |nil=>simp at a
 |cons x r=>exact .inl ⟨x.mod,rfl⟩),h.2⟩
theorem pJ.other {A:Option Addr}{l:List Pat}(h:pJ W A l):pJ W' A l:=⟨Reads.other h.1 hr ho (fun a=>by
 cases l with
 |nil=>simp at a
 |cons x r=>exact .inr ⟨x.kind,x.sym,rfl,rfl⟩),h.2⟩
theorem Mod.ok.other {m:Mod}(h:m.ok W):m.ok W':=⟨Sj.other hr ho h.ex,TC.other hr ho h.im,pJ.other hr ho h.pa,h.name,h.text⟩
theorem Krn.ok.other {k:Krn}(h:k.ok W):k.ok W':=⟨Sj.other hr ho h.ex⟩
theorem aU.other {A:Option Addr}{l:List Plc}(h:aU W A l):aU W' A l:=⟨Reads.other h.row hr ho (fun b=>by
 cases l with
 |nil=>simp at b
 |cons x r=>exact .inl ⟨x.m.name,rfl⟩),h.len,fun x a=>Mod.ok.other hr ho (h.each x a)⟩
end
end
section
open Go
theorem Ep {n:Nat}{a r:List UInt8}(h:a.length=n):txt n (some (a++r))=(a,some r):=by
 rw[oU (by rw[GZ8];omega)]
 subst h
 simp
theorem gG {k:Nat}{n:Int}(r:List UInt8)(a:0<=n)(h:n<dV k):aI k (some (digits n k++r))=(n,some r):=by
 unfold aI
 rw[Ep (digits_length n k),CB,Int.emod_eq_of_lt a h]
theorem xH :dV 1=256:=by rw[qN];rfl
theorem E9 :dV 2=65536:=by rw[qN];rfl
theorem iJ (s:ByteArray):sof s.data.toList=s:=by cases s;simp
theorem AR (s:ByteArray):s.data.toList.length=s.size:=by rw[Array.length_toList];rfl
theorem zK (s:ByteArray)(r:List UInt8)(h:s.size<=255):nam (some (bL s++r))=(s.data.toList,some r):=by
 have e:bL s++r=digits s.size 1++(s.data.toList++r):=by unfold bL;rw[List.append_assoc]
 unfold nam
 rw[e,gG _ (by omega) (by rw[xH];omega)]
 exact Ep (by rw[AR];omega)
theorem PM (x:Exp)(r:List UInt8)(h:x.name.size<=255)(a:0<=x.at_)(b:x.at_<65536):gF (some (eX x++r))=(x,some r):=by
 have e:eX x++r=bL x.name++(digits x.at_ 2++r):=by unfold eX;rw[List.append_assoc]
 unfold gF
 rw[e,zK _ _ h]
 simp only
 rw[gG _ a (by rw[E9];omega),iJ]
theorem Oj (x:Imp)(r:List UInt8)(h:x.mod.size<=255)(c:x.name.size<=255)(b:0<=x.major)(f:x.major<=255)(a:0<=x.minor)(d:x.minor<=255):Ro (some (eG x++r))=(x,some r):=by
 have e:eG x++r=bL x.mod++(bL x.name++(digits x.major 1++(digits x.minor 1++r))):=by unfold eG;simp only[List.append_assoc]
 unfold Ro
 rw[e,zK _ _ h]
 simp only
 rw[zK _ _ c]
 simp only
 rw[gG _ b (by rw[xH];omega)]
 simp only
 rw[gG _ a (by rw[xH];omega),iJ,iJ]
theorem PQ (x:Pat)(r:List UInt8)(c:0<=x.kind)(i:x.kind<=255)(b:0<=x.at_)(h:x.at_<65536)(g: -1<=x.sym)(f:x.sym<=100)(a:0<=x.add)(d:x.add<65536):fZ (some (gB x++r))=(x,some r):=by
 have e:gB x++r=digits x.kind 1++(digits x.at_ 2++(digits (x.sym+1) 1++(digits x.add 2++r))):=by unfold gB;simp only[List.append_assoc]
 unfold fZ
 rw[e,gG _ c (by rw[xH];omega)]
 simp only
 rw[gG _ b (by rw[E9];omega)]
 simp only
 rw[gG _ (by omega) (by rw[xH];omega)]
 simp only
 rw[gG _ a (by rw[E9];omega)]
 simp only[Prod.mk.injEq,and_true]
 rw[show x.sym+1 -1=x.sym by omega]
theorem wB {α:Type}{f:Rest->α×Rest}{enc:α->List UInt8}:∀{a:List α}(r:List UInt8),(∀x∈a,∀r,f (some (enc x++r))=(x,some r))->dU f a.length (some (a.flatMap enc++r))=(a,some r)
 | [],r,_=>rfl
 |x::a,r,h=>by
  have e:(x::a).flatMap enc++r=enc x++(a.flatMap enc++r):=by rw[List.flatMap_cons,List.append_assoc]
  rw[GY8,e]
  show((f (some (enc x++(a.flatMap enc++r)))).1::(dU f a.length (f (some (enc x++(a.flatMap enc++r)))).2).1,(dU f a.length (f (some (enc x++(a.flatMap enc++r)))).2).2)=_
  rw[h x (by simp)]
  simp only
  rw[wB r fun y b=>h y (List.mem_cons_of_mem _ b)]
theorem Pk {m:Mod}(h:aL m=0):(d7 (dK m)).2=some []/\gI (pQ (dK m)) m:=by
 obtain⟨O,h2,h3,Z,Y,X,W,V,M,o,N⟩:=aY h
 have S:=RZ O
 obtain⟨F,b⟩:=Nm (m.pa.flatMap gB++([]:List UInt8))
 obtain⟨p,c⟩:=Nm (digits m.pa.length 1++F)
 obtain⟨G,d⟩:=Nm (m.im.flatMap eG++p)
 obtain⟨q,f⟩:=Nm (digits m.im.length 1++G)
 obtain⟨H,g⟩:=Nm (m.ex.flatMap eX++q)
 obtain⟨s,i⟩:=Nm (digits m.ex.length 1++H)
 obtain⟨t,j⟩:=Nm (m.text.data.toList++s)
 obtain⟨u,k⟩:=Nm (digits m.text.size 2++t)
 obtain⟨v,l⟩:=Nm (digits m.minor 1++u)
 obtain⟨w,n⟩:=Nm (digits m.major 1++v)
 have e:dK m=bL m.name++w:=by
  rw[n,l,k,j,i,g,f,d,c,b]
  unfold dK kG
  simp only[List.append_assoc,List.append_nil]
 generalize U:dK m=L at*
 have R:=xH
 have Q:=E9
 have E:d0 L=(m.name.data.toList,some w):=by unfold d0;rw[e,zK _ _ (by omega)]
 have D:d1 L=(m.major,some v):=by unfold d1;rw[E];simp only;rw[n,gG _ (by omega) (by omega)]
 have C:d2 L=(m.minor,some u):=by unfold d2;rw[D];simp only;rw[l,gG _ (by omega) (by omega)]
 have P:d3 L=((m.text.size:Int),some t):=by unfold d3;rw[C];simp only;rw[k,gG _ (by omega) (by omega)]
 have B:d4 L=(m.text.data.toList,some s):=by unfold d4;rw[P];simp only;rw[j,Ep (by rw[AR];omega)]
 have A:d5 L=(m.ex,some q):=by
  unfold d5;rw[B];simp only;rw[i,gG _ (by omega) (by omega)]
  simp only
  rw[show((m.ex.length:Int)).toNat=m.ex.length by omega,g,wB _ fun x a r=>by
   have:=lJ M x a
   have J:=RZ this.1
   exact PM x r (by omega) this.2.1 (by omega)]
 have z:d6 L=(m.im,some p):=by
  unfold d6;rw[A];simp only;rw[f,gG _ (by omega) (by omega)]
  simp only
  rw[show((m.im.length:Int)).toNat=m.im.length by omega,d,wB _ fun x a r=>by
   have:=Ug (kX o x a)
   have J:=RZ this.1
   have I:=RZ this.2.1
   exact Oj x r (by omega) (by omega) this.2.2.1 this.2.2.2.1 this.2.2.2.2.1 this.2.2.2.2.2]
 have y:d7 L=(m.pa,some []):=by
  unfold d7;rw[z];simp only;rw[c,gG _ (by omega) (by omega)]
  simp only
  rw[show((m.pa.length:Int)).toNat=m.pa.length by omega,b,wB _ fun x a r=>by
   obtain⟨e,K⟩:=uW (DX h) x a
   have:=AA K
   have T:=Rf x.kind
   exact PQ x r (by omega) (by omega) (by omega) (by omega) (by omega) (by omega) (by omega) (by omega)]
 refine⟨by rw[y],?_⟩
 unfold pQ
 exact⟨by show sof (d0 L).1=_;rw[E,iJ],by show(d1 L).1=_;rw[D],by show(d2 L).1=_;rw[C],by show sof (d4 L).1=_;rw[B,iJ],by show(d5 L).1=_;rw[A],by show(d6 L).1=_;rw[z],by show(d7 L).1=_;rw[y]⟩
theorem Iz {m:Mod}(h:aL m=0):dO (dK m)=0/\gI (iD (dK m)) m:=by
 obtain⟨b,a⟩:=Pk h
 have e:dO (dK m)=0:=by
  unfold dO
  rw[if_neg (by simp[b]),a.err,h]
 refine⟨e,?_⟩
 unfold iD
 rw[if_neg (by omega)]
 exact a
end
section
open Go.RowKit
theorem SX {α:Type}(f:Rest->α×Rest)(n:Nat):dU f n none=([],none):=by cases n<;>rfl
theorem UA {α:Type}(f:Rest->α×Rest)(n:Nat)(s:List UInt8):dU f (n+1) (some s)=((f (some s)).1::(dU f n (f (some s)).2).1,(dU f n (f (some s)).2).2):=rfl
theorem xP {α:Type}(f:Rest->α×Rest)(B g:Nat)(R:Array Value)(I:List α->Rest->World->Prop)(a:Rest)(w:World)
  (eg:∀o w,(callFunc g o).run Tryz.prog w=.ok (.enter g o) w)
  (z:∀b a W,I b a W->Rd B a W) (hl:(left a).length<=big)
  (j:∀N,Only B w N->Rd B (aI 1 a).2 N->I [] (aI 1 a).2 N)
  (x:∀b s W,b.length<=255->I b (some s) W->Calls Tryz.prog g R W fun e F=>(∃u,e=.returned u)/\I (b++[(f (some s)).1]) (f (some s)).2 F)
  (h:Rd B a w):
  Calls Tryz.prog 130 #[.pointer (some ⟨B,0,none⟩),.func (.func g) #[] R] w fun e F=>(∃u,e=.returned u)/\I (dU f (aI 1 a).1.toNat (aI 1 a).2).1 (dU f (aI 1 a).1.toNat (aI 1 a).2).2 F:=by
 have L:=Hp (eY B a 1 w h hl (by omega) (by omega))
 change Hid (Calls _ _ #[_,.int .i64 1] w _)at L
 have Q:=dZ 1 a (by omega)
 have r2:=Ru a
 obtain⟨c,S⟩:∃c:Nat,(aI 1 a).1=c:=⟨(aI 1 a).1.toNat,by omega⟩
 rw[S]at L Q r2
 have y:(aI 1 a).1.toNat=c:=by omega
 rw[y]
 obtain⟨T,J⟩:=Nm (dU f c (aI 1 a).2)
 rw[<-J]
 have Y:=Hp J
 have HD:=Hp x
 have Z:=Hp j
 have A:=Hp z
 clear S y J x j z Q h
 go_enter Tryz.func130,Tryz.ntmps130
 go_wp2_with (go_at_call 128;refine(L.out).mono ?_;rintro e w2 ⟨rfl,V,r⟩;have I2:=Hp (Z.out w2 r V);clear V r)
 go_loopw [4] (fun i wr=>∃(n:Nat)(b:List α)(d:Rest),i=.int .i64 n/\n+b.length<=255/\I b d wr/\b++(dU f n d).1=T.1/\(dU f n d).2=T.2) (fun i _=>(intOf i).toNat)
 case atStart=>exact⟨c,[],_,rfl,by simp;omega,I2.out,by rw[Y.out];rfl,by rw[Y.out]⟩
 case round=>
  obtain⟨n,b,d,rfl,hn,K,m,l⟩:=hrel
  obtain⟨M,q,f0,f1⟩:=(A.out _ _ _ K).cells
  have E:=Hp K
  clear K
  by_cases p:n=0
  ·subst p
   have D:=Hp (show b=T.1 by rw[<-m];simp[dU])
   have C:=Hp (show d=T.2 from l)
   clear m l M q f0 f1
   go_wp2_with fail
   go_end0
   exact⟨⟨_,rfl⟩,by rw[<-D.out,<-C.out];exact E.out⟩
  ·obtain⟨k,H⟩:∃k,n=k+1:=⟨n -1,by omega⟩
   have a1:0<n:=by omega
   have a0:(0:Int)<n:=by omega
   have q1:IntKind.i64.wrap ((n:Int) -1)=k:=by rw[IntWalk.i64_in _ (by omega)];omega
   have v:k+(b.length+1)<=255:=by omega
   have G:b.length<=255:=by omega
   have t:k<n:=by omega
   rw[H]at m l
   cases d with
   |none=>
    have D:=Hp (show b=T.1 by rw[<-m,SX];simp)
    have C:=Hp (show none=T.2 by rw[<-l,SX])
    simp only[Option.isNone_none]at q
    clear m l M H p
    go_wp2_with fail
    go_end0
    exact⟨⟨_,rfl⟩,by rw[<-D.out,<-C.out];exact E.out⟩
   |some s=>
    simp only[Option.isNone_some]at q
    have X:=Hp (HD.out b s _ G E.out)
    rw[UA]at m l
    have D:=Hp (show(b++[(f (some s)).1])++(dU f k (f (some s)).2).1=T.1 by rw[<-m];simp)
    have C:=Hp l
    have O:=Hp t
    have P:=Hp v
    clear m l M H p t v hn
    go_wp2_with fail
    refine(X.out).mono ?_
    rintro e w3 ⟨⟨u,rfl⟩,U⟩
    have I3:=Hp U
    clear U X E HD Z A I2
    go_wp2_with fail
    go_roundw
    case rel=>exact⟨k,b++[(f (some s)).1],(f (some s)).2,rfl,by rw[GZ8];exact P.out,I3.out,D.out,C.out⟩
    case measure=>(have:=O.out;simp[intOf];try omega)
end
end Go.Proofs.YtjiedaialianmaaGreat
