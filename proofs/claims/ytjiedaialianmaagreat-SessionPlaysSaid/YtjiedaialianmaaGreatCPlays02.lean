import Derived.Test.YtjiedaialianmaaGreatA06
import Derived.Test.YtjiedaialianmaaGreatA08
import Derived.Test.YtjiedaialianmaaGreatCPlays01
set_option maxRecDepth 100000
set_option maxHeartbeats 4000000
namespace Go.Proofs.YtjiedaialianmaaGreat
section
open Go
open Gs (Tx)
theorem Fa :∀{l:List Plc}{a:Int},bW a l->bW a (bI a l).1
 | [],_,h=>h
 |x::l,a,⟨h1,h2,h3,h4⟩=>by
  refine⟨by simp,h2,h3,?_⟩
  have:=Fa (h4.lower (b:=a+aH x.m) (by unfold aR;omega))
  exact this
theorem KG {l a:List Plc}(h:l.map (·.m)=a.map (·.m))(i:Nat):(l[i]?).map (·.m)=(a[i]?).map (·.m):=by
 have:=congrArg (·[i]?) h
 simpa using this
theorem IK {l a:List Plc}(h:l.map (·.m)=a.map (·.m)):txs l=txs a:=by
 have e:∀r:List Plc,txs r=(r.map (·.m)).map fun m=>tx m.name:=fun r=>by unfold txs;rw[List.map_map];rfl
 rw[e,e,h]
theorem Km {l a:List Plc}(h:l.map (·.m)=a.map (·.m)):kV l=kV a:=by
 funext i k
 have:=KG h i
 unfold kV
 rw[IK h]
 cases c:l[i]?<;>cases b:a[i]?<;>rw[c,b]at this
 ·cases this
 ·cases this
 ·have:=GY3 this
  simp only[this]
theorem Ej {l a:List Plc}(h:l.map (·.m)=a.map (·.m)):eH l=eH a:=by
 unfold eH yP;rw[Km h,kL h]
theorem FD {l a:List Plc}(h:l.map (·.m)=a.map (·.m)):dD l=dD a:=by
 unfold dD;rw[IK h,kL h]
theorem Du :∀{l c:List Plc},l.map (·.m)=c.map (·.m)->∀a,(l.find? (named a)=none/\c.find? (named a)=none)\/∃x∈l,∃b∈c,x.m=b.m/\l.find? (named a)=some x/\c.find? (named a)=some b
 | [],[],_,_=>.inl ⟨rfl,rfl⟩
 | [],_::_,h,_=>by cases h
 |_::_,[],h,_=>by cases h
 |x::l,b::c,h,a=>by
  rw[List.map_cons,List.map_cons]at h
  injection h with h1 h2
  have i:named a b=named a x:=by unfold named;rw[h1]
  rw[List.find?_cons,List.find?_cons,i]
  cases n:named a x
  ·rcases Du h2 a with e|⟨y,g,f,d,e,k,j⟩
   ·exact .inl e
   ·exact .inr ⟨y,List.mem_cons_of_mem _ g,f,List.mem_cons_of_mem _ d,e,k,j⟩
  ·exact .inr ⟨x,List.mem_cons_self ..,b,List.mem_cons_self ..,h1,rfl,rfl⟩
def Alike (a b:Int):Prop:=0<=a/\a<=65535/\0<=b/\b<=65535/\(b -a) % 2=0
theorem H9 {l:List Exp}{nm:ByteArray}{a:Int}(h:∀x∈l,0<=x.at_/\x.at_<a)(b:0<a):0<=(iR l nm).1/\(iR l nm).1<a:=by
 unfold iR
 cases e:l.find? (called nm)with
 |none=>exact⟨Int.le_refl _,b⟩
 |some x=>exact h x (List.mem_of_find?_eq_some e)
theorem JP {k:Krn}{l a:List Plc}(h:l.map (·.m)=a.map (·.m))(o:∀x∈k.ex,0<=x.at_/\x.at_<4096)(n:∀x∈l,∀y∈x.m.ex,0<=y.at_/\y.at_<256)(p:∀x∈l,0<=x.first/\x.first<=15)(d:∀x∈a,0<=x.first/\x.first<=15)(i:Imp):
  (addrOf k a i).2=(addrOf k l i).2/\Alike (addrOf k l i).1 (addrOf k a i).1:=by
 unfold addrOf
 by_cases b:i.mod=RG
 ·rw[if_pos b,if_pos b]
  refine⟨rfl,?_⟩
  split
  ·exact⟨by simp,by simp,by simp,by simp,by simp⟩
  ·have:=H9 (nm:=i.name) o (by omega)
   exact⟨by omega,by omega,by omega,by omega,by omega⟩
 ·rw[if_neg b,if_neg b]
  rcases Du h i.mod with⟨f,e⟩|⟨x,j,g,c,f,e,q⟩
  ·rw[f,e]
   exact⟨rfl,by simp,by simp,by simp,by simp,by simp⟩
  ·rw[e,q]
   simp only[<-f]
   have t:=p x j
   have s:=d g c
   have r:=H9 (nm:=i.name) (n x j) (by omega)
   split
   ·exact⟨rfl,by simp,by simp,by simp,by simp,by simp⟩
   ·split
    ·exact⟨rfl,by simp,by simp,by simp,by simp,by simp⟩
    ·refine⟨rfl,?_⟩
     show Alike (4096+64*x.first+_) (4096+64*g.first+_)
     exact⟨by omega,by omega,by omega,by omega,by omega⟩
def Ey :List Int->List Int->Prop
 | [],[]=>True
 |a::l,b::r=>Alike a b/\Ey l r
 |_,_=>False
theorem D9 :∀{l r:List Int}(i:Nat),Ey l r->Alike (l.getD i 0) (r.getD i 0)
 | [],[],i,_=>by simp[Alike]
 |a::l,b::r,0,h=>by simpa using h.1
 |a::l,b::r,i+1,h=>by simpa using D9 i h.2
 | [],_::_,_,h=>h.elim
 |_::_,[],_,h=>h.elim
theorem VD {k:Krn}{l a:List Plc}(c:∀i,(addrOf k a i).2=(addrOf k l i).2/\Alike (addrOf k l i).1 (addrOf k a i).1):∀r,(aN k l r).2=0->(aN k a r).2=0/\Ey (aN k l r).1 (aN k a r).1
 | [],_=>⟨rfl,trivial⟩
 |i::r,h=>by
  obtain⟨j,f⟩:=c i
  unfold aN at h ⊢
  by_cases d:(addrOf k l i).2=0
  ·rw[if_neg (by omega)]at h
   by_cases b:(aN k l r).2=0
   ·obtain⟨g,e⟩:=VD c r b
    rw[if_neg (by omega),if_neg (by omega),if_neg (by omega),if_neg (by omega)]
    exact⟨rfl,f,e⟩
   ·rw[if_pos b]at h;exact absurd h b
  ·rw[if_pos d]at h;exact absurd h d
theorem GD {z a at_ c s f b e:Int}(j:Alike s f)(t:(e -b) % 2=0)(u:4096<=e/\e<=5056)(q:z<=256)(h:RO z a at_ c s b=0):RO z a at_ c f e=0:=by
 obtain⟨p,o,n,m,l⟩:=j
 have r:=Rf a
 unfold RO RN at h ⊢
 by_cases d:aK a=0
 ·rw[if_pos d]at h;omega
 ·rw[if_neg d]at h ⊢
  by_cases i:c<0\/65535<c\/at_<0\/z -aK a<at_\/b<0\/65279<b
  ·rw[if_pos i]at h;omega
  ·rw[if_neg i,if_neg d]at h
   rw[if_neg (by omega),if_neg d]
   by_cases g:s<0\/65535<s\/b+at_<0\/65535<b+at_\/c<0\/65535<c
   ·rw[if_pos g]at h;omega
   ·rw[if_neg g]at h
    rw[if_neg (by omega)]
    by_cases k:a=5/\(s+c -(b+at_)) % 2=1
    ·rw[if_pos k]at h;omega
    ·rw[if_neg (by omega)]
theorem yL {f a:List Int}{b c:Int}(i:Ey f a)(g:(c -b) % 2=0)(m:0<=b/\b<=65535)(j:4096<=c/\c<=5056):∀{r:List Pat}{s d:ByteArray},s.size<=256->d.size=s.size->(bH f b r s).2=0->(bH a c r d).2=0
 | [],_,_,_,_,_=>rfl
 |p::r,s,d,hz,hs,h=>by
  unfold bH at h ⊢
  by_cases e:RO s.size p.kind p.at_ p.add (iX f b p) b=0
  ·rw[if_neg (by omega)]at h
   have l:Alike (iX f b p) (iX a c p):=by
    unfold iX
    by_cases k:p.sym<0
    ·rw[if_pos k,if_pos k];exact⟨by omega,by omega,by omega,by omega,by omega⟩
    ·rw[if_neg k,if_neg k];exact D9 _ i
   have n:RO d.size p.kind p.at_ p.add (iX a c p) c=0:=by rw[hs];exact GD l g j (by omega) e
   rw[if_neg (by omega)]
   exact yL i g m j (by rw[Rz e];exact hz) (by rw[Rz n,Rz e,hs]) h
  ·rw[if_pos e]at h;exact absurd h e
theorem ML {k:Krn}{l b:List Plc}(g:∀i,(addrOf k b i).2=(addrOf k l i).2/\Alike (addrOf k l i).1 (addrOf k b i).1){x a:Plc}(f:x.m=a.m)(o:0<=x.first/\x.first<=15)(n:0<=a.first/\a.first<=15)(e:x.m.text.size<=256)(h:(fE k l x).2=0):(fE k b a).2=0:=by
 unfold fE at h ⊢
 rw[<-f]
 by_cases d:(aN k l x.m.im).2=0
 ·rw[if_neg (by omega)]at h
  obtain⟨p,j⟩:=VD g _ d
  rw[if_neg (by omega)]
  by_cases c:(bH (aN k l x.m.im).1 (bV x) x.m.pa x.m.text).2=0
  ·have s:bV x=4096+64*x.first:=rfl
   have r:bV a=4096+64*a.first:=rfl
   rw[if_neg (fun q=>q (yL j (by omega) (by omega) (by omega) e rfl c))]
  ·rw[if_pos c]at h;exact absurd h c
 ·rw[if_pos d]at h;exact absurd h d
theorem Aq {k:Krn}{l:List Plc}:∀{r:List Plc}{a:Int},(bU k l r a).2=0↔∀x∈r,(fE k l x).2=0
 | [],_=>by simp[bU]
 |x::r,a=>by
  unfold bU
  by_cases e:(fE k l x).2=0
  ·rw[if_neg (by omega)]
   have:=Aq (k:=k) (l:=l) (r:=r) (a:=aR x)
   constructor
   ·intro h
    by_cases c:(bU k l r (aR x)).2=0
    ·intro y b
     rcases List.mem_cons.1 b with rfl|b
     ·exact e
     ·exact this.1 c y b
    ·rw[if_pos c]at h;exact absurd h c
   ·intro h
    rw[if_neg (fun q=>q (this.2 fun y b=>h y (List.mem_cons_of_mem _ b)))]
  ·rw[if_pos e]
   exact⟨fun h=>absurd h e,fun h=>absurd (h x (List.mem_cons_self ..)) e⟩
theorem rQ {l:List Plc}(h:RY l=0):∀x∈l,0<=x.first/\x.first<=15:=fun x a=>by
 obtain⟨c,b⟩:=(cZ h).2.1 x a
 have:=gK c
 simp only[kE,Bool.and_eq_true,decide_eq_true_eq]at b
 omega
theorem GV {k:Krn}{l d:List Plc}(h:aZ k l=0)(f:l.map (·.m)=d.map (·.m))(v:bW 0 d):aZ k d=0:=by
 obtain⟨D,C,B⟩:=Sz h
 obtain⟨u,p,z,_⟩:=dM D
 have o:=cZ p
 have t:∀x∈d,0<=x.first/\aR x<=16:=by
  have:∀{r:List Plc}{a:Int},bW a r->∀x∈r,a<=x.first/\aR x<=16:=by
   intro r
   induction r with
   |nil=>intro a _ x b;cases b
   |cons y r ih=>
    intro a ⟨E,J,I,w⟩ x b
    rcases List.mem_cons.1 b with rfl|b
    ·exact⟨E,w.le⟩
    ·have:=ih w x b
     have e:aR y=y.first+aH y.m:=rfl
     exact⟨by omega,this.2⟩
  exact this v
 have c:RY d=0:=OJ (by rw[<-kL f];exact o.1) (fun x b=>by
  obtain⟨y,s,e⟩:=oF f b
  obtain⟨L,K⟩:=t x b
  have M:aR x=x.first+aH x.m:=rfl
  refine⟨e▸(o.2.1 y s).1,?_⟩
  simp only[kE,Bool.and_eq_true,decide_eq_true_eq]
  omega) v
 have H:aX k d=0:=by
  unfold aX
  rw[u,c,<-FD f,z];rfl
 unfold aZ
 rw[if_neg (by omega),<-Ej f,C,if_neg (by simp)]
 have A:=fun i=>JP f (fun x b=>(Ee u x b).2) (fun x b y s=>by
  have q:=aY (o.2.1 x b).1
  have G:=q.2.2.1
  have:=lJ q.2.2.2.2.2.2.2.2.1 y s
  omega) (rQ p) (rQ c) i (k:=k)
 refine Aq.2 fun x b=>?_
 have F:∀i(n:i<l.length)(j:i<d.length),(l[i]).m=(d[i]).m:=fun i n j=>by
  have:=KG f i
  rw[GY5 n,GY5 j]at this
  exact GY3 this
 obtain⟨i,n,rfl⟩:=List.getElem_of_mem b
 have g:i<l.length:=by rw[kL f];exact n
 exact ML A (F i g n) (rQ p _ (GZ9 _)) (rQ c _ (GZ9 _)) (aY (o.2.1 _ (GZ9 g)).1).2.2.1 (Aq.1 B _ (GZ9 g))
end
section
open Go.RowKit
def F5 :Fl:=⟨[],none,0⟩
theorem QW {w c:World}{A:Option Addr}{l:List Ded}(h:Row Ded.cells 3 w A l)(f:Below w.heap.size w c)(i:Nat)(o:i<l.length):
  ∃a,A=some a/\a.block<w.heap.size/\c.cell? (a.add (i*3))=some (iv l[i].kind)/\c.cell? ⟨(a.add (i*3)).block,(a.add (i*3)).off+1,none⟩=some (iv l[i].at_)/\c.cell? ⟨(a.add (i*3)).block,(a.add (i*3)).off+2,none⟩=some (iv l[i].value):=by
 obtain⟨a,rfl,b,e⟩:=Row.at_ (enc:=Ded.cells) (k:=3) (fun _=>rfl) h i o
 have g:=e 0 _ rfl
 rw[add_zero_]at g
 have d:∀j u,0<j->(Ded.cells l[i])[j]? =some u->c.cell? ⟨(a.add (i*3)).block,(a.add (i*3)).off+j,none⟩=some u:=fun j u n m=>by
  rw[<-add_pos_ _ _ n]
  exact(f.cell (by rw[aA,aA];exact b)).trans (e j u m)
 exact⟨a,rfl,b,(f.cell (by rw[aA];exact b)).trans g,d 1 _ (by omega) rfl,d 2 _ (by omega) rfl⟩
theorem dA.fl {w:World}{b:Nat}{v:Value}{l:List ByteArray}(h:dA w b v l)(g:l.length<=big)(d:∀s∈l,s.size<=big):∃f:Fl,v=.slice f.a f.bl.length f.c/\f.bl=l/\f.ok w:=by
 obtain⟨A,c,rfl,e,i⟩:=h.form
 exact⟨⟨l,A,c⟩,rfl,rfl,⟨⟨e,g,d⟩,i⟩⟩
end
section
open Go.RowKit
theorem JO (A:Option Addr)(c:Nat)(l:List ByteArray)(g:Nat)(s:Array Value)(q:ByteArray->Bool)(w:World)(M:∀b w,(callFunc g b).run Tryz.prog w=.ok (.enter g b) w)(h:Row strCells 1 w A l)(F:l.length<=big)
  (z:∀x∈l,∀W,Below w.heap.size w W->Calls Tryz.prog g (#[.string x]++s) W fun e m=>e=.returned (.bool (q x))/\Below W.heap.size W m):
  Calls Tryz.prog 157 #[.slice A l.length c,.func (.func g) #[] s] w fun e m=>e=.returned (.int .i64 (idxOf q l))/\Below w.heap.size w m:=by
 unfold big at F
 have J:=Hp h
 have I:=Hp z
 clear h z
 go_enter Tryz.func157,Tryz.ntmps157
 go_wp2_with fail
 go_loopw [8] (fun i wr=>∃j:Nat,j<=l.length/\i=.int .i64 j/\(∀k(o:k<l.length),k<j->q l[k]=false)/\Below w.heap.size w wr) (fun i _=>l.length -(intOf i).toNat)
 case atStart=>exact⟨0,by omega,rfl,by omega,GZ4 _ _⟩
 case round=>
  obtain⟨j,K,rfl,C,p⟩:=hrel
  have y:=Hp C
  have r:=Hp p
  clear C
  by_cases a:j<l.length
  ·have B:(j:Int)<l.length:=by omega
   obtain⟨N,rfl,G,L⟩:=nT J.out p j a
   have E:=p.size
   have v:=Hp (show Calls Tryz.prog g (#[.string (l[j]'a)]++s) wr fun e m=>e=.returned (.bool (q (l[j]'a)))/\Below wr.heap.size wr m from I.out (l[j]'a) (GZ9 _) wr r.out)
   obtain⟨H,d⟩:=Nm (q (l[j]'a))
   rw[<-d]at v
   have n:=Hp d
   clear d p
   cases H
   ·go_wp2_with fail
    refine(v.out).mono ?_
    rintro e D ⟨rfl,f⟩
    go_wp2_with fail
    go_roundw
    case rel=>exact⟨j+1,by omega,by go_num,fun k o t=>by rcases Nat.lt_succ_iff_lt_or_eq.1 t with h|rfl;exact y.out k o h;exact n.symm,r.trans (f.mono (by omega))⟩
    case measure=>(simp[intOf];try omega)
   ·have u:=Hp (fJ a y.out n.symm)
    go_wp2_with fail
    refine(v.out).mono ?_
    rintro e D ⟨rfl,f⟩
    go_wp2_with fail
    go_ret
    exact⟨aC u.symm,r.trans (f.mono (by omega))⟩
  ·have u:=Hp (gT (q:=q) (l:=l) (fun k o=>y.out k o (by omega)))
   go_wp2_with fail
   go_ret
   exact⟨aC u.symm,r.out⟩
def oQ (s:ByteArray):Bool:=((s.size:Int) != 128)
theorem EU (s:ByteArray)(w:World):Calls Tryz.prog 168 #[.string s] w fun e a=>e=.returned (.bool (oQ s))/\w=a:=by
 go_enter Tryz.func168,Tryz.ntmps168
 go_wp2_with fail
 all_goals(go_ret;exact⟨rfl,rfl⟩)
theorem PN {α:Type}(q:α->Bool)(l:List α):(0<=idxOf q l)↔∃x∈l,q x=true:=by
 rcases Sb q l with⟨b,a⟩|⟨j,e,b,a,_⟩
 ·rw[b]
  constructor
  ·intro h;omega
  ·rintro⟨x,d,c⟩;rw[a x d]at c;cases c
 ·rw[b]
  exact⟨fun _=>⟨_,GZ9 e,a⟩,fun _=>by omega⟩
theorem Ph (l:List ByteArray):(0<=idxOf oQ l)↔¬ ∀s∈l,s.size=128:=by
 rw[PN]
 constructor
 ·rintro⟨x,a,c⟩ h
  have:=h x a
  simp[oQ,this]at c
 ·intro h
  refine Classical.byContradiction fun d=>h fun s b=>?_
  refine Classical.byContradiction fun e=>d ⟨s,b,?_⟩
  simp[oQ];omega
theorem yN (f:Fl)(w:World)(h:f.ok w):Calls Tryz.prog 94 #[f.v] w fun e p=>e=.returned (.int .i64 (bP f.bl))/\Below w.heap.size w p:=by
 obtain⟨u,d⟩:=Nm (w.alloc (.cells #[.slice f.a f.bl.length f.c] 29))
 obtain⟨G,A,i⟩:=Ui d
 have r:=d.symm
 have j:=Hp i
 have l:=Hp (Ph f.bl)
 have n:=Hp (JO f.a f.c f.bl 168 #[] oQ u (fun _ _=>by kernel_rfl) (h.below i).row.row h.row.len (fun x _ W _=>(EU x W).mono fun e p ⟨F,C⟩=>⟨F,C▸GZ4 _ _⟩))
 have D:=h.row.len
 unfold big at D
 obtain⟨N,s⟩:=Nm (idxOf oQ f.bl)
 rw[<-s]at n l
 obtain⟨E,o⟩:=Nm (bP f.bl)
 rw[<-o]
 have k:=Hp o
 clear d i h s o
 by_cases m:1<=f.bl.length/\f.bl.length<=32
 ·by_cases q:0<=N
  ·have b:=Hp (show E=1 by rw[k.out];unfold bP;rw[if_pos m,if_neg (l.out.1 q)])
   clear k l
   obtain⟨z,y⟩:=m
   go_enter Tryz.func94,Tryz.ntmps94
   go_wp2_with (first|(go_at_call 159;go_in)|(go_at_call 157;refine(n.out).mono ?_;rintro e t ⟨rfl,g⟩))
   go_ret
   exact⟨aC b.symm,j.trans (g.mono (by omega))⟩
  ·have b:=Hp (show E=0 by rw[k.out];unfold bP;rw[if_pos m,if_pos (Classical.byContradiction fun B=>q (l.out.2 B))])
   clear k l
   obtain⟨z,y⟩:=m
   go_enter Tryz.func94,Tryz.ntmps94
   go_wp2_with (first|(go_at_call 159;go_in)|(go_at_call 157;refine(n.out).mono ?_;rintro e t ⟨rfl,g⟩))
   go_ret
   exact⟨aC b.symm,j.trans (g.mono (by omega))⟩
 ·have b:=Hp (show E=3 by rw[k.out];unfold bP;rw[if_neg m])
  clear k l n
  go_enter Tryz.func94,Tryz.ntmps94
  go_wp2_with fail
  all_goals(go_ret;exact⟨aC b.symm,j.out⟩)
end
section
open Go.RowKit
theorem cell_of_heap {w:World}{b:Nat}{a:Array Value}{t:TypeId}{c:Nat×Nat}(h:w.heap[b]? =some (.cells a t c))(o:Nat):w.cell? ⟨b,o,none⟩=a[o]?:=by simp[World.cell?,h]
theorem aQ {w:World}{b:Nat}{a:Array Value}{t:TypeId}(h:w.heap[b]? =some (.cells a t (0,0)))(o:Nat):w.frozen? ⟨b,o,none⟩=false:=by simp[World.frozen?,h]
section
variable {w w':World} {g:Nat} {l:List UInt8}
theorem BytesAt.lt (h:BytesAt w g l):g<w.heap.size:=by
 obtain⟨b,a,_⟩:=h
 exact(ZL a)
theorem BytesAt.kept (h:BytesAt w g l)(e:w'.heap[g]? =w.heap[g]?):BytesAt w' g l:=by
 obtain⟨a,c,b⟩:=h
 exact⟨a,e.trans c,b⟩
theorem BytesAt.QH (h:BytesAt w g l)(j:Nat)(a:j<l.length):w.cell? ⟨g,j,none⟩=some (.int .u8 ((l.getD j 0).toNat:Int)):=by
 rw[h.cell j a,List.getD_eq_getElem?_getD,GY5 a];rfl
theorem BytesAt.free (h:BytesAt w g l)(j:Nat)(c:j<l.length):w.frozen? ⟨g,j,none⟩=false:=by
 obtain⟨b,a,e,d⟩:=h
 simp only[World.frozen?,a]
 simp
 omega
theorem BytesAt.set (h:BytesAt w g l)(j:Nat)(x:UInt8):BytesAt (w.setCell ⟨g,j,none⟩ (.int .u8 (x.toNat:Int))) g (l.set j x):=by
 obtain⟨a,d,c,b⟩:=h
 refine⟨a.setIfInBounds j (u8v x),?_,by simpa using c,?_⟩
 ·simp[World.setCell,Array.getElem?_modify,d,u8v]
 ·rw[Array.toList_setIfInBounds,List.take_set,List.length_set,b,List.map_set]
theorem BytesAt.Qv (h:BytesAt w g l)(j:Nat)(n:Nat)(a:n<256):BytesAt (w.setCell ⟨g,j,none⟩ (.int .u8 (n:Int))) g (l.set j (UInt8.ofNat n)):=by
 have:=h.set j (UInt8.ofNat n)
 rwa [show(UInt8.ofNat n).toNat=n from by simp[Nat.mod_eq_of_lt a]]at this
theorem CW (s:ByteArray)(a:Nat):s.size<=(bytesRow s a).size/\(bytesRow s a).toList.take s.size=(bytesOf s).map u8v:=by
 obtain⟨d⟩:=s
 show d.size<=_/\List.take d.size _=List.map u8v d.toList
 unfold bytesRow
 constructor
 ·rw[Array.size_append,Array.size_map];exact Nat.le_add_right _ _
 ·rw[Array.toList_append,Array.toList_map]
  rw[List.take_append_of_le_length (by simp),List.take_of_length_le (by simp)]
  rfl
end
theorem UY (s:ByteArray):∃(F:World->World)(C:World->Nat),∀W,(convert 9 135 (.string s)).run Tryz.prog W=.ok (.slice (some ⟨W.heap.size,0,none⟩) s.size (C W)) (F W)/\
  s.size<=C W/\BytesAt (F W) W.heap.size (bytesOf s)/\Below W.heap.size W (F W):=by
 refine⟨fun W=>W.drew.alloc (.cells (bytesRow s (grownCap W s.size 0 5)) 5 ((bytesRow s (grownCap W s.size 0 5)).size,(bytesRow s (grownCap W s.size 0 5)).size+1)),fun W=>grownCap W s.size 0 5,fun W=>⟨run_bytes_of_string (P:=Tryz.prog) W 9 135 5 s Tryz.underlying9 Tryz.underlying135 Tryz.underlying5,grownCap_ge W s.size 0 5,?_,?_⟩⟩
 ·refine⟨bytesRow s (grownCap W s.size 0 5),?_,?_⟩
  ·show(W.heap.push _)[W.heap.size]? =_
   simp
  ·rw[RB];exact CW s _
 ·exact(GZ4 _ _).trans ⟨rfl,rfl,rfl,by show W.heap.size<=(W.heap.push _).size;rw[Array.size_push];exact Nat.le_succ _,fun k a=>by
   show(W.heap.push _)[k]? =_
   rw[Array.getElem?_push_lt a,Array.getElem?_eq_getElem a]⟩
theorem U2 (W:World)(g n a:Nat)(l:List UInt8)(b:l.length=n)(d:BytesAt W g l):
  (convert 135 9 (.slice (some ⟨g,0,none⟩) n a)).run Tryz.prog W=.ok (.string (ofBytes l)) W:=by
 subst b
 exact run_convert_bytes_back (P:=Tryz.prog) W 135 9 5 ⟨g,0,none⟩ a l Tryz.underlying135 Tryz.underlying5 Tryz.underlying9 (fun j c=>by
  have:=d.cell j c
  rw[show(⟨g,0,none⟩:Addr).add j=⟨g,j,none⟩ from by unfold Addr.add;split<;>simp_all]
  exact this)
end
section
open Go.RowKit
theorem MG (i:Int)(w:World):Calls Tryz.prog 150 #[.int .i64 i] w fun e a=>e=.returned (.int .u8 (255:Nat))/\a=w:=by
 go_enter Tryz.func150,Tryz.ntmps150
 go_wp2_with fail
 go_ret
 exact⟨rfl,rfl⟩
theorem NZ (s:ByteArray)(i:Nat)(h:i<s.size):s[i]'h=(bytesOf s).getD i 0:=by
 rw[List.getD_eq_getElem?_getD,GY5 (by rw[RB];exact h)]
 simp[bytesOf]
 rfl
theorem bZ (s:ByteArray)(i:Nat)(h:i<s.size)(w:World):(Instr.index 9 (.string s) (.int .i64 (i:Int))).run Tryz.prog w=.ok (.int .u8 (((bytesOf s).getD i 0).toNat:Int)) w:=by
 rw[run_index_string w 9 s .i64 (i:Int) Tryz.underlying9,dif_pos (by omega)]
 simp only[Int.toNat_natCast]
 rw[NZ s i h]
end
section
open Go.RowKit
theorem oG {w:World}{a:Addr}{v:Value}(h:w.cell? a=some v):a.block<w.heap.size:=by
 rcases Nat.lt_or_ge a.block w.heap.size with b|c
 ·exact b
 ·unfold World.cell? at h;rw[Array.getElem?_eq_none c]at h;cases h
theorem uK (l:List UInt8)(i n:Nat):(ofBytes l).extract i (i+n)=ofBytes ((l.drop i).take n):=by
 have:((ofBytes l).extract i (i+n)).data.toList=(l.drop i).take n:=by
  simp[ofBytes,ByteArray.data_extract,List.extract]
 refine ba_eq (this.trans ?_)
 simp[ofBytes]
end
section
open Go.RowKit
theorem pF {α:Type}{enc:α->List Value}{k:Nat}(c:∀x,(enc x).length=k){w:World}{g:Nat}{a:Array Value}{t:TypeId}{d:Nat×Nat}{l:List α}(h:w.heap[g]? =some (.cells a t d))(e:a.toList=l.flatMap enc):Row enc k w (some ⟨g,0,none⟩) l:=by
 refine⟨flat_length c l,fun _=>⟨_,rfl,(ZL h),fun j u b=>?_⟩⟩
 rw[show(⟨g,0,none⟩:Addr).add j=⟨g,j,none⟩ from by unfold Addr.add;split<;>simp_all,cell_of_heap h j,<-b,<-e]
 simp
end
section
open Go.RowKit
theorem Ha (s:ByteArray)(w:World)(p:s.size<=big):Calls Tryz.prog 173 #[.string s] w fun e o=>e=.returned (.int .i64 (iG (bytesOf s):Nat))/\o=w:=by
 unfold big at p
 obtain⟨U,j⟩:=Nm (iG (bytesOf s))
 rw[<-j]
 have g:U=mD (bytesOf s) s.size:=by rw[j,iG,RB]
 have r:=Hp g
 clear j g
 go_enter Tryz.func173,Tryz.ntmps173
 go_wp2_with fail
 go_loop [3] (fun n=>∃k:Nat,k<=s.size/\n=.int .i64 k/\mD (bytesOf s) k=U) (fun n=>(intOf n).toNat)
 case atStart=>exact⟨s.size,GZ3 _,rfl,r.symm⟩
 case round=>
  obtain⟨k,u,rfl,a⟩:=hrel
  cases k with
  |zero=>
   have h:=Hp a
   clear a
   go_wp2_with fail
   go_ret
   exact⟨aC (by rw[<-h.out];rfl),rfl⟩
  |succ m=>
   have q:m<s.size:=by omega
   have l:=bZ s m q
   have b:((bytesOf s).getD m 0).toNat<256:=kJ _
   obtain⟨c,i⟩:∃c,c=(bytesOf s).getD m 0:=⟨_,rfl⟩
   rw[<-i]at l b
   unfold mD at a
   rw[<-i]at a
   obtain⟨x,f⟩:=Nm c.toNat
   rw[<-f]at l b
   have v:(0:Int)<((m+1:Nat):Int):=by omega
   by_cases t:c=255
   ·rw[if_pos t]at a
    have d:x=255:=by rw[f,t];rfl
    subst d
    have h:=Hp a
    clear a f i t
    go_wp2_with fail
    go_round
    case rel=>exact⟨m,by omega,by go_num,h.out⟩
    case measure=>(simp[intOf];try omega)
   ·rw[if_neg t]at a
    have d:((x:Int)==255)=false:=by
     have:x≠255:=fun e=>t (by rw[<-UInt8.toNat_inj,<-f,e];rfl)
     simp;omega
    have h:=Hp a
    clear a f i t
    go_wp2_with fail
    go_ret
    exact⟨aC (by rw[<-h.out];first|rfl|omega),rfl⟩
theorem Jp (s:ByteArray)(b:Bool)(w:World)(g:s.size<=big)(a:b=(((iG (bytesOf s):Nat):Int)==0)):Calls Tryz.prog 170 #[.string s] w fun e c=>e=.returned (.bool b)/\c=w:=by
 have f:=Hp (fun W=>Ha s W g)
 obtain⟨U,d⟩:=Nm (iG (bytesOf s))
 rw[<-d]at f a
 have h:=Hp a
 clear d a
 go_enter Tryz.func170,Tryz.ntmps170
 go_wp2_with (go_at_call 173;refine(f.out _).mono ?_;rintro e c ⟨rfl,rfl⟩)
 go_ret
 exact⟨aV (by rw[h.out]),rfl⟩
theorem Dy (B:Nat)(S:ByteArray)(i:Nat)(w:World)(g:w.cell? ⟨B,0,none⟩=some (.string S))(f:5*(i+1)<=S.size)(d:S.size<=100000):
  Calls Tryz.prog 171 #[.pointer (some ⟨B,0,none⟩),.int .i64 i] w fun e a=>e=.returned (.string (ofBytes (RV (bytesOf S) i)))/\a=w:=by
 have c:=Hp (show S.extract (S.size -5*(i+1)) (S.size -5*(i+1)+5)=ofBytes (RV (bytesOf S) i) by
  unfold RV
  rw[RB,<-uK,wR])
 have b:5*((i:Int)+1)<=S.size:=by omega
 go_enter Tryz.func171,Tryz.ntmps171
 go_wp2_with fail
 go_ret
 exact⟨by rw[<-c.out];rfl,rfl⟩
theorem OG (W:World){k:Array Oper}{o:Oper}{a:Act}{K:Act->World->Prop}{Q:Exit->Act->World->Prop}{E:Prop}(p:o.guard=none)(s x:Operand)
  (C:o.op=.call {callee:=.builtin .append,args:=#[s,x],argTypes:=#[27,27]}) (b:Nat) (v:Value) (i:List ByteArray) (z:a.eval s=v) (e:dA W b v i)
  (A:Option Addr) (c:Nat) (f:List ByteArray) (w:a.eval x=.slice A f.length c) (B:Row strCells 1 W A f) (r:i.length+f.length<=1000000) (d:b<=W.heap.size)
  (h:∀j g,dA g b j (i++f)->Below b W g->K (a.put o.dst j) g):if Region.wanted o (yielded k a.tmps)=true then Oper.wp Tryz.prog o a W K Q else E:=by
 obtain⟨t,D,n,m,l⟩:=info_parts Tryz.zQ
 refine jX W p s x 27 C b 9 t (.string ⟨#[]⟩) 1 16 Tryz.underlying27 D n m l rfl (by decide) v i.length (i.map Value.string) z e W.heap.size A f.length c (f.flatMap strCells) w B
  (fun u q=>by rw[<-rZ]at q;obtain⟨y,_,rfl⟩:=List.mem_map.1 q;rfl) (by simp only[maxLen];omega) (by omega) d ?_
 intro j g G F _
 refine h j g ?_ ((GZ4 b W).grown F d (iW e))
 unfold dA
 rw[GZ8,List.map_append,rZ f];exact G
theorem Nu {w:World}{B:Nat}{S:ByteArray}{i:Nat}{R:List ByteArray}{e:Nat}{N:ByteArray}{A b:Option Addr}{c a:Nat}(d:w.heap[B]? =some (.cells #[.string S,.int .i64 i,.slice A R.length c,.int .i64 e] 154 (0,0)))
  (g:dA w (B+1) (.slice b (R++[N]).length a) (R++[N])):JSt (w.setCell ⟨B,2,none⟩ (.slice b (R.length+1) a)) B S i (R++[N]) e:=by
 have f:R.length+1=(R++[N]).length:=by simp
 rw[f]
 exact⟨b,a,heap_setCell_same w B 2 _ _ (.slice b (R++[N]).length a) d,g.eT d (by decide) 2 _⟩
theorem EJ (a b:Nat)(d:a<256)(c:b<256):bits .or .i64 (a:Int) ((b:Int)*256)=((a+256*b:Nat):Int):=by
 rw[show(b:Int)*256=((b*256:Nat):Int) by omega,VS a (b*256) (by omega) (by omega)]
 have:=Nat.shiftLeft_add_eq_or_of_lt (b:=a) (i:=8) (by omega) b
 simp only[Nat.shiftLeft_eq,Nat.reducePow]at this
 rw[Nat.or_comm];omega
theorem LV (B:Nat)(E:ByteArray)(w:World)(h:E.size=5)(c:(bytesOf E).getD 4 0≠0):
  Calls Tryz.prog 172 #[.pointer (some ⟨B,0,none⟩),.string E] w fun e d=>e=.returned (.bool true)/\d=w:=by
 have a:=bZ E 4 (by omega)
 obtain⟨x,b⟩:∃x,x=((bytesOf E).getD 4 0).toNat:=⟨_,rfl⟩
 rw[<-b]at a
 have g:((x:Int) != 0)=true:=by
  have:x≠0:=fun e=>c (by rw[<-UInt8.toNat_inj,<-b,e];rfl)
  simp;omega
 have f:∀W,(Instr.index 9 (.string E) (.int .i64 4)).run Tryz.prog W=.ok (.int .u8 (x:Int)) W:=a
 clear c b a
 go_enter Tryz.func172,Tryz.ntmps172
 go_wp2_with fail
 go_ret
 exact⟨rfl,rfl⟩
theorem Mw (B:Nat)(S E:ByteArray)(i:Nat)(A:Option Addr)(c:Nat)(R:List ByteArray)(e:Nat)(w:World)(hE:E.size=5)(hS:S.size<=100000)(N:w.heap[B]? =some (.cells #[.string S,.int .i64 i,.slice A R.length c,.int .i64 e] 154 (0,0)))
  (C:(bytesOf E).getD 4 0=0) (l:eU (bytesOf S) (bytesOf E) R e=none):
  Calls Tryz.prog 172 #[.pointer (some ⟨B,0,none⟩),.string E] w fun en X=>en=.returned (.bool false)/\Below w.heap.size w X:=by
 have x:=cell_of_heap N 0
 simp only[GZ2,GZ0]at x
 unfold eU at l
 rw[if_neg (by rw[C];exact fun h=>h rfl),RB]at l
 obtain⟨a,f⟩:=Nm (oV (bytesOf E))
 have z:=f
 obtain⟨m,d⟩:=Nm (iN (bytesOf E))
 have y:=d
 have F:=Hp f
 have D:=Hp d
 clear f d
 have s:=bZ E 0 (by omega)
 have r:=bZ E 1 (by omega)
 have o:=bZ E 2 (by omega)
 have n:=bZ E 3 (by omega)
 have b:=bZ E 4 (by omega)
 rw[C]at b
 have i4:∀W,(Instr.index 9 (.string E) (.int .i64 4)).run Tryz.prog W=.ok (.int .u8 0) W:=b
 have U:((bytesOf E).getD 0 0).toNat<256:=kJ _
 have T:((bytesOf E).getD 1 0).toNat<256:=kJ _
 have Q:((bytesOf E).getD 2 0).toNat<256:=kJ _
 have P:((bytesOf E).getD 3 0).toNat<256:=kJ _
 unfold oV two at z
 unfold iN two at y
 generalize((bytesOf E).getD 0 0).toNat=v at*
 generalize((bytesOf E).getD 1 0).toNat=k at*
 generalize((bytesOf E).getD 2 0).toNat=u at*
 generalize((bytesOf E).getD 3 0).toNat=j at*
 have i0:∀W,(Instr.index 9 (.string E) (.int .i64 0)).run Tryz.prog W=.ok (.int .u8 (v:Int)) W:=s
 have i1:∀W,(Instr.index 9 (.string E) (.int .i64 1)).run Tryz.prog W=.ok (.int .u8 (k:Int)) W:=r
 have i2:∀W,(Instr.index 9 (.string E) (.int .i64 2)).run Tryz.prog W=.ok (.int .u8 (u:Int)) W:=o
 have i3:∀W,(Instr.index 9 (.string E) (.int .i64 3)).run Tryz.prog W=.ok (.int .u8 (j:Int)) W:=n
 have J:=EJ v k U T
 have I:=EJ u j Q P
 rw[<-z]at J
 rw[<-y]at I
 have v0:IntKind.i64.wrap (v:Int)=v:=IntWalk.i64_in _ (by omega)
 have v1:IntKind.i64.wrap (k:Int)=k:=IntWalk.i64_in _ (by omega)
 have v2:IntKind.i64.wrap (u:Int)=u:=IntWalk.i64_in _ (by omega)
 have v3:IntKind.i64.wrap (j:Int)=j:=IntWalk.i64_in _ (by omega)
 have Z:IntKind.i64.wrap ((k:Int)*256)=(k:Int)*256:=IntWalk.i64_in _ (by omega)
 have Y:IntKind.i64.wrap ((j:Int)*256)=(j:Int)*256:=IntWalk.i64_in _ (by omega)
 have a5:a<65536:=by omega
 have a4:m<65536:=by omega
 rw[<-F.out,<-D.out]at l
 have L:S.size<a+m\/m=0\/800<m:=by
  by_cases h:S.size<a+m\/m=0\/800<m
  ·exact h
  ·rw[if_neg h]at l;cases l
 have HW:=Hp (show Below w.heap.size w w.drew from below_drewN (GZ4 _ _) 1)
 clear l C N z y s r o n b
 go_enter Tryz.func172,Tryz.ntmps172
 go_upto_region 3 with fail
 go_cut [5,6] from 10 to 25 (fun p q H=>p=.int .i64 (a:Int)/\q=.int .i64 (m:Int)/\H.heap=w.heap/\Below w.heap.size w H)
 case first=>
  go_quiet (fail)
  have HN:=Hp (show Below w.heap.size w (w.drewN nq) from below_drewN (GZ4 _ _) nq)
  go_wp2_with fail
  go_meet
  exact⟨rfl,rfl,rfl,HN.out⟩
 case rest=>
  obtain⟨rfl,rfl,K,M⟩:=hcut
  obtain⟨V,rfl⟩:=Nm wc
  have t0:V.cell? ⟨B,0,none⟩=some (.string S):=(World.cell?_of_block (a:=⟨B,0,none⟩) (by rw[K])).trans x
  have G:=Hp M
  clear M K x i0 i1 i2 i3 i4 J I v0 v1 v2 v3 Z Y U T Q P
  by_cases b1:S.size<a+m
  ·have g:(S.size:Int)<(a:Int)+m:=by omega
   have t:decide ((S.size:Int)<(a:Int)+m)=true:=decide_eq_true g
   go_wp2_with fail
   go_ret
   exact⟨rfl,G.out⟩
  ·have g:¬((S.size:Int)<(a:Int)+m):=by omega
   have t:decide ((S.size:Int)<(a:Int)+m)=false:=GY7 g
   by_cases O:m=0
   ·subst O
    go_wp2_with fail
    go_ret
    exact⟨rfl,G.out⟩
   ·have a7:((m:Int)==0)=false:=by simp[O]
    have b3:800<m:=by omega
    have a6:(800:Int)<m:=by omega
    go_wp2_with fail
    go_ret
    exact⟨rfl,G.out⟩
theorem Oo (B:Nat)(S E:ByteArray)(i:Nat)(R:List ByteArray)(e:Nat)(w:World)(hE:E.size=5)(hS:S.size<=100000)(hR:R.length<=900000)(he:e<=200000)(L:JSt w B S i R e)
  (h4:(bytesOf E).getD 4 0=0) (p:List ByteArray×Nat) (g:eU (bytesOf S) (bytesOf E) R e=some p):
  Calls Tryz.prog 172 #[.pointer (some ⟨B,0,none⟩),.string E] w fun en w'=>en=.returned (.bool true)/\Below B w w'/\JSt w' B S i p.1 p.2:=by
 obtain⟨A,c,L,hO⟩:=L
 unfold eU at g
 rw[if_neg (by rw[h4];exact fun h=>h rfl),RB]at g
 obtain⟨a,v⟩:=Nm (oV (bytesOf E))
 have ha:=v
 obtain⟨m,u⟩:=Nm (iN (bytesOf E))
 have Z:=u
 have a7:=Hp v
 have a6:=Hp u
 clear v u
 have I:=bZ E 0 (by omega)
 have H:=bZ E 1 (by omega)
 have G:=bZ E 2 (by omega)
 have F:=bZ E 3 (by omega)
 have s:=bZ E 4 (by omega)
 rw[h4]at s
 have i4:∀W,(Instr.index 9 (.string E) (.int .i64 4)).run Tryz.prog W=.ok (.int .u8 0) W:=s
 have a0:((bytesOf E).getD 0 0).toNat<256:=kJ _
 have a1:((bytesOf E).getD 1 0).toNat<256:=kJ _
 have a2:((bytesOf E).getD 2 0).toNat<256:=kJ _
 have a3:((bytesOf E).getD 3 0).toNat<256:=kJ _
 unfold oV two at ha
 unfold iN two at Z
 generalize((bytesOf E).getD 0 0).toNat=U at*
 generalize((bytesOf E).getD 1 0).toNat=C at*
 generalize((bytesOf E).getD 2 0).toNat=T at*
 generalize((bytesOf E).getD 3 0).toNat=z at*
 have i0:∀W,(Instr.index 9 (.string E) (.int .i64 0)).run Tryz.prog W=.ok (.int .u8 (U:Int)) W:=I
 have i1:∀W,(Instr.index 9 (.string E) (.int .i64 1)).run Tryz.prog W=.ok (.int .u8 (C:Int)) W:=H
 have i2:∀W,(Instr.index 9 (.string E) (.int .i64 2)).run Tryz.prog W=.ok (.int .u8 (T:Int)) W:=G
 have i3:∀W,(Instr.index 9 (.string E) (.int .i64 3)).run Tryz.prog W=.ok (.int .u8 (z:Int)) W:=F
 have o1:=EJ U C a0 a1
 have o2:=EJ T z a2 a3
 rw[<-ha]at o1
 rw[<-Z]at o2
 have v0:IntKind.i64.wrap (U:Int)=U:=IntWalk.i64_in _ (by omega)
 have v1:IntKind.i64.wrap (C:Int)=C:=IntWalk.i64_in _ (by omega)
 have v2:IntKind.i64.wrap (T:Int)=T:=IntWalk.i64_in _ (by omega)
 have v3:IntKind.i64.wrap (z:Int)=z:=IntWalk.i64_in _ (by omega)
 have v4:IntKind.i64.wrap ((C:Int)*256)=(C:Int)*256:=IntWalk.i64_in _ (by omega)
 have v5:IntKind.i64.wrap ((z:Int)*256)=(z:Int)*256:=IntWalk.i64_in _ (by omega)
 have b9:a<65536:=by omega
 have b7:m<65536:=by omega
 rw[<-a7.out,<-a6.out]at g
 have n:¬(S.size<a+m\/m=0\/800<m):=fun h=>by rw[if_pos h]at g;cases g
 rw[if_neg n]at g
 injection g with g
 obtain⟨N,hN⟩:=Nm (sO (bytesOf S) a m)
 rw[<-hN]at g
 have J:S.extract a (a+m)=N:=by rw[hN];unfold sO;rw[<-uK,wR]
 have HP:=Hp g.symm
 have HX:=Hp J
 have HJ:=Hp L
 have HO:=Hp hO
 have c0:B<w.heap.size:=(ZL L)
 clear g h4 L hO ha Z I H G F s hN J
 go_enter Tryz.func172,Tryz.ntmps172
 go_upto_region 3 with fail
 go_cut [5,6] from 10 to 25 (fun p q D=>p=.int .i64 (a:Int)/\q=.int .i64 (m:Int)/\D.heap=w.heap/\Below w.heap.size w D)
 case first=>
  go_quiet (fail)
  have HN:=Hp (show Below w.heap.size w (w.drewN nq) from below_drewN (GZ4 _ _) nq)
  go_wp2_with fail
  go_meet
  exact⟨rfl,rfl,rfl,HN.out⟩
 case rest=>
  obtain⟨rfl,rfl,hh,V⟩:=hcut
  obtain⟨d,rfl⟩:=Nm wc
  have b5:=V.size
  have j:=Hp (show d.heap[B]? =some (.cells #[.string S,.int .i64 i,.slice A R.length c,.int .i64 e] 154 (0,0)) by rw[hh];exact HJ.out)
  have a5:=Hp (show dA d (B+1) (.slice A R.length c) R from HO.below V (GZ3 _))
  have s0:=cell_of_heap j.out 0
  have s2:=cell_of_heap j.out 2
  have s3:=cell_of_heap j.out 3
  have f2:=aQ j.out 2
  simp only[GZ2,GZ0,GZ1]at s0 s2 s3
  have HB:=Hp (V.mono (show B<=w.heap.size by omega))
  have r:B<d.heap.size:=by omega
  obtain⟨b1,b2,b3⟩:a+m<=S.size/\m≠0/\m<=800:=by omega
  have a4:¬((S.size:Int)<(a:Int)+m):=by omega
  have b0:decide ((S.size:Int)<(a:Int)+m)=false:=GY7 a4
  have c3:((m:Int)==0)=false:=by simp[b2]
  have c1:¬((800:Int)<m):=by omega
  have b4:(a:Int)+m<=S.size:=by omega
  clear V hh i0 i1 i2 i3 i4 o1 o2 v0 v1 v2 v3 v4 v5 a0 a1 a2 a3 n
  obtain⟨q,Y⟩:=Nm (a+m)
  have J:=HX.out
  rw[<-Y]at J
  have HQ:=Hp Y
  have q1:(q:Int)<=S.size:=by omega
  have q2:(a:Int)<=q:=by omega
  have q3:(0:Int)<=q:=by omega
  have X:IntKind.i64.wrap ((a:Int)+m)=(q:Int):=by rw[IntWalk.i64_in _ (by omega)];omega
  clear Y
  have O:=Hp (show∀o:Obj,dA (d.alloc o).drew (B+1) (.slice A R.length c) R from fun o=>World.ownsRow.alloc a5.out o)
  have M:=Hp (show Row strCells 1 (d.alloc (.cells #[.string N] 9)).drew (some ⟨d.heap.size,0,none⟩) [N] from pF (enc:=strCells) (k:=1) (fun _=>rfl) (heap_alloc_new d (.cells #[.string N] 9)) rfl)
  have P:=Hp (show∀o:Obj,(d.alloc o).drew.heap[B]? =some (.cells #[.string S,.int .i64 i,.slice A R.length c,.int .i64 e] 154 (0,0)) from fun o=>(Below.heap_alloc d o B r).trans j.out)
  have Q:=Hp (show∀o:Obj,Below B d (d.alloc o).drew from fun o=>((GZ4 _ _).alloc (GY2 r) o).drew)
  have a8:=Hp (show R.length+[N].length<=1000000 by simp only[List.length_singleton];omega)
  have a9:=Hp (show∀o:Obj,B+1<=(d.alloc o).drew.heap.size from fun o=>by have:d.heap.size<=(d.alloc o).heap.size:=(by simp);show B+1<=(d.alloc o).heap.size;omega)
  have Q4:=Hp X
  clear X
  go_upto_region 6 with fail
  go_cut [5,6] from 43 to 60 (fun p q D=>p=.int .i64 (a:Int)/\q=.int .i64 (m:Int)/\JSt D B S i (R++[N]) e/\Below B d D)
  case first=>
   have X:=Q4.out
   go_region_law ((refine OG _ (by rfl) (.tmp 47) (.tmp 57) (by rfl) (B+1) (.slice A R.length c) R (by rfl) (O.out _) (some ⟨d.heap.size,0,none⟩) 1 [N] (by rfl) M.out a8.out (a9.out _) ?_;intro v' w2 t f;obtain⟨A',c',rfl,-,-⟩:=t.form;have b:=(f.block B (Nat.lt_succ_self B)).trans (P.out _);have z2:=cell_of_heap b 2;have zf:=aQ b 2;simp only[GZ2,GZ0,GZ1]at z2;have l:=Hp b;have x:=Hp t;have y:=Hp ((Q.out _).trans (f.mono (Nat.le_succ B)));clear b t f))
   all_goals(
    go_wp2_with fail
    go_meet
    exact⟨rfl,rfl,Nu l.out x.out,y.setCell (p:=⟨B,2,none⟩) (GZ3 _) _⟩)
  case rest=>
   obtain⟨rfl,rfl,⟨A2,c2,b,K⟩,f⟩:=hcut
   obtain⟨w2,rfl⟩:=Nm wc
   have z3:=cell_of_heap b 3
   have zf:=aQ b 3
   simp only[GZ2,GZ0,GZ1]at z3
   have l:=Hp b
   have x:=Hp K
   have y:=Hp (HB.trans f)
   have b8:(e:Int)<=200000:=by omega
   clear b K f s0 s2 s3 f2 J O M P Q
   have b6:max (e:Int) ((a:Int)+m)=((max e (a+m):Nat):Int):=by omega
   go_wp2_with fail
   go_ret
   refine⟨rfl,?_,?_⟩
   ·exact y.setCell (p:=⟨B,3,none⟩) (GZ3 _) _
   ·rw[HP.out]
    exact⟨A2,c2,heap_setCell_same w2 B 3 _ _ _ l.out,x.eT l.out (by decide) 3 _⟩
end
section
open Go.RowKit
abbrev KV :Value:=.agg #[.int .i64 0,.int .i64 0,.int .i64 0]
theorem Tryz.Ot :(Tryz.prog.info? 60).map (fun i=>(i.zero,i.size,i.bytes))=some (some KV,3,24):=by kernel_rfl
theorem PD (l:List Ded):∀u∈l.flatMap Ded.cells,u.oneCell'=true:=by
 intro u b
 obtain⟨x,_,a⟩:=List.mem_flatMap.1 b
 simp only[Ded.cells,List.mem_cons,List.not_mem_nil,or_false]at a
 rcases a with rfl|rfl|rfl<;>rfl
theorem Lg (W:World){k:Array Oper}{o:Oper}{a:Act}{K:Act->World->Prop}{Q:Exit->Act->World->Prop}{E:Prop}(p:o.guard=none)(s x:Operand)
  (y:o.op=.call {callee:=.builtin .append,args:=#[s,x],argTypes:=#[52,52]}) (b:Nat) (v:Value) (i:List Ded) (u:a.eval s=v) (e:mZ W b v i)
  (A:Option Addr) (c:Nat) (f:List Ded) (t:a.eval x=.slice A f.length c) (w:Row Ded.cells 3 W A f) (q:i.length+f.length<=1000000) (d:b<=W.heap.size)
  (h:∀j g,mZ g b j (i++f)->Below b W g->K (a.put o.dst j) g):if Region.wanted o (yielded k a.tmps)=true then Oper.wp Tryz.prog o a W K Q else E:=by
 obtain⟨r,z,n,m,l⟩:=info_parts Tryz.Ot
 refine jX W p s x 52 y b 60 r KV 3 24 Tryz.underlying52 z n m l rfl (by decide) v i.length (i.flatMap Ded.cells) u e W.heap.size A f.length c (f.flatMap Ded.cells) t w
  (PD f) (by simp only[maxLen];omega) (by omega) d ?_
 intro j g C B _
 refine h j g ?_ ((GZ4 b W).grown B d (iW e))
 unfold mZ
 rw[GZ8,List.flatMap_append];exact C
theorem OB {w:World}{P:Nat}{D:List Ded}{d:Ded}{A b:Option Addr}{c a:Nat}(e:w.heap[P]? =some (.cells #[.slice A D.length c] 214 (0,0)))
  (g:mZ w (P+1) (.slice b (D++[d]).length a) (D++[d])):PSt (w.setCell ⟨P,0,none⟩ (.slice b (D.length+1) a)) P (D++[d]):=by
 have f:D.length+1=(D++[d]).length:=by simp
 rw[f]
 exact⟨b,a,heap_setCell_same w P 0 _ _ (.slice b (D++[d]).length a) e,g.eT e (by decide) 0 _⟩
theorem JY {l:List UInt8}{j:Nat}(h:j<l.length):l.take (j+1)=l.take j++[l.getD j 0]:=by
 rw[List.take_succ_eq_append_getElem h,getD_lt h]
theorem VO (P a:Nat)(s:ByteArray)(D:List Ded)(w:World)(hs:s.size<=5000)(ha:a<=100000)(hD:D.length<=20000)(Z:PSt w P D):
  Calls Tryz.prog 169 #[.pointer (some ⟨P,0,none⟩),.int .i64 a,.string s] w fun e V=>Below P w V/\PSt V P (D++jM a (bytesOf s))/\∃u,e=.returned u:=by
 have HP:=Hp Z
 have C:(bytesOf s).length=s.size:=RB s
 have v:=Hp C
 clear Z C
 go_enter Tryz.func169,Tryz.ntmps169
 go_wp2_with fail
 go_loopw [9] (fun i wr=>∃j:Nat,j<=s.size/\i=.int .i64 j/\PSt wr P (D++jM a ((bytesOf s).take j))/\Below P w wr) (fun i _=>s.size -(intOf i).toNat)
 case atStart=>exact⟨0,Nat.zero_le _,rfl,by rw[List.take_zero];simpa[jM]using HP.out,GZ4 _ _⟩
 case round=>
  obtain⟨j,hj,rfl,d,F⟩:=hrel
  have HJ:=Hp d
  have U:=Hp F
  by_cases n:j<s.size
  ·have Y:(j:Int)<s.size:=by omega
   have m:=JY (l:=bytesOf s) (j:=j) (by rw[v.out];exact n)
   have W:=bZ s j n
   obtain⟨c,I⟩:∃c,c=(bytesOf s).getD j 0:=⟨_,rfl⟩
   rw[<-I]at W m
   have G:c.toNat<256:=kJ _
   have b:=IP a ((bytesOf s).take j) c
   rw[GY6,v.out,show min j s.size=j by omega,<-m]at b
   have a0:=Hp b
   obtain⟨x,B⟩:=Nm c.toNat
   rw[<-B]at W G
   obtain⟨h,f⟩:∃h,h=D++jM a ((bytesOf s).take j):=⟨_,rfl⟩
   have J:h.length<=30000:=by
    have:=iH a ((bytesOf s).take j)
    rw[GY6,v.out]at this
    rw[f,GZ8];omega
   rw[<-f]at d
   by_cases t:c=255
   ·rw[if_pos t,List.append_nil]at b
    have H:((x:Int) != 255)=false:=by
     have:x=255:=by rw[B,t];rfl
     rw[this];rfl
    have g:=Hp b
    clear d F m I b B f t
    go_wp2_with fail
    go_roundw
    case rel=>exact⟨j+1,n,by go_num,by rw[g.out];exact HJ.out,U.out⟩
    case measure=>(simp[intOf];try omega)
   ·rw[if_neg t]at b
    have H:((x:Int) != 255)=true:=by
     have:x≠255:=fun e=>t (by rw[<-UInt8.toNat_inj,<-B,e];rfl)
     simp;omega
    obtain⟨A,K,d,hO⟩:=d
    obtain⟨q,X⟩:=Nm (a+j)
    rw[<-X,<-B]at b
    have g:=Hp (show D++jM a ((bytesOf s).take (j+1))=h++[⟨1,(q:Int),(x:Int)⟩] by rw[b,f,List.append_assoc])
    have q4:IntKind.i64.wrap ((a:Int)+j)=(q:Int):=by rw[IntWalk.i64_in _ (by omega)];omega
    have q5:IntKind.i64.wrap (x:Int)=x:=IntWalk.i64_in _ (by omega)
    have s0:=cell_of_heap d 0
    have f0:=aQ d 0
    simp only[GZ2,GZ0]at s0
    have E:P<wr.heap.size:=(ZL d)
    have N:=Hp (show∀o:Obj,mZ (wr.alloc o).drew (P+1) (.slice A h.length K) h from fun o=>World.ownsRow.alloc hO o)
    have L:=Hp (show Row Ded.cells 3 (wr.alloc (.cells #[.int .i64 1,.int .i64 (q:Int),.int .i64 (x:Int)] 60)).drew (some ⟨wr.heap.size,0,none⟩) [⟨1,(q:Int),(x:Int)⟩] from pF (enc:=Ded.cells) (k:=3) (fun _=>rfl) (heap_alloc_new wr (.cells #[.int .i64 1,.int .i64 (q:Int),.int .i64 (x:Int)] 60)) rfl)
    have Q:=Hp (show∀o:Obj,(wr.alloc o).drew.heap[P]? =some (.cells #[.slice A h.length K] 214 (0,0)) from fun o=>(Below.heap_alloc wr o P E).trans d)
    have S:=Hp (show∀o:Obj,Below P wr (wr.alloc o).drew from fun o=>((GZ4 _ _).alloc (GY2 E) o).drew)
    have O:=Hp (show h.length+([⟨1,(q:Int),(x:Int)⟩]:List Ded).length<=1000000 by simp only[List.length_singleton];omega)
    have R:=Hp (show∀o:Obj,P+1<=(wr.alloc o).drew.heap.size from fun o=>by have:wr.heap.size<=(wr.alloc o).heap.size:=(by simp);show P+1<=(wr.alloc o).heap.size;omega)
    clear d F m I b B f t hO X J
    go_upto_region 4 with fail
    go_region_law ((refine Lg _ (by rfl) (.tmp 20) (.tmp 29) (by rfl) (P+1) (.slice A h.length K) h (by rfl) (N.out _) (some ⟨wr.heap.size,0,none⟩) 1 [⟨1,(q:Int),(x:Int)⟩] (by rfl) L.out O.out (R.out _) ?_;intro v' w2 y z;obtain⟨A',c',rfl⟩:=bG y;have r:=(z.block P (Nat.lt_succ_self P)).trans (Q.out _);have z2:=cell_of_heap r 0;have zf:=aQ r 0;simp only[GZ2,GZ0]at z2;have M:=Hp (OB r y);have T:=Hp (U.trans ((S.out _).trans (z.mono (Nat.le_succ P))));clear r y z))
    all_goals(
     go_wp2_with fail
     go_roundw
     case rel=>exact⟨j+1,n,by go_num,by rw[g.out];exact M.out,T.setCell (p:=⟨P,0,none⟩) (GZ3 _) _⟩
     case measure=>(simp[intOf];try omega))
  ·obtain rfl:j=s.size:=by omega
   have HE:=Hp (show(bytesOf s).take s.size=bytesOf s from List.take_of_length_le (by rw[v.out];exact GZ3 _))
   clear d F
   go_wp2_with fail
   go_end0
   exact⟨U.out,by rw[<-HE.out];exact HJ.out,_,rfl⟩
end
end Go.Proofs.YtjiedaialianmaaGreat
