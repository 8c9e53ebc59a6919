import Derived.Test.YtjiedaialianmaaGreatA04
import Derived.Test.YtjiedaialianmaaGreatA05
set_option maxRecDepth 100000
set_option maxHeartbeats 8000000
namespace Go.Proofs.YtjiedaialianmaaGreat
section
open Go
open Go.RowKit Go.Lib
def bC (z:Nat)(T:World->Prop):Prop:=∀W a:World,(∀p:Addr,p.block<z->a.cell? p=W.cell? p)->T W->T a
theorem bC.cell {z:Nat}{a:Addr}{v:Option Value}(h:a.block<z):bC z (fun W=>W.cell? a=v):=fun _ _ k e=>(k a h).trans e
theorem bC.and {z:Nat}{T U:World->Prop}(h:bC z T)(k:bC z U):bC z (fun W=>T W/\U W):=fun W a e x=>⟨h W a e x.1,k W a e x.2⟩
theorem bC.any (z:Nat):bC z (fun _=>True):=fun _ _ _ x=>x
structure fI (b:World)(T:World->Prop):Prop where
 D:∀W':World,T W'->T W'.drew
 S:∀W' W2:World,T W'->Below W'.heap.size W' W2->T W2
 A:∀(W':World)(o:Obj),T W'->T (W'.alloc o)
 X:∀(W':World)(bX oX:Nat)(vX:Value),b.heap.size<=bX->T W'->T (W'.setCell ⟨bX,oX,none⟩ vX)
 L:∀W':World,T W'->Below b.heap.size b W'
theorem fI.now {b:World}{S:World->Prop}(_:fI b S)(h:S b):S b:=h
theorem dE {b:World}{T:World->Prop}(h:bC b.heap.size T):fI b (fun W=>Below b.heap.size b W/\T W) where
 D W x:=⟨x.1.drew,h W W.drew (fun _ _=>rfl) x.2⟩
 S W W2 x a:=⟨x.1.trans (a.mono x.1.size),h W W2 (fun _ c=>a.cell (GY0 c x.1.size)) x.2⟩
 A W o x:=have a:Below W.heap.size W (W.alloc o):=(GZ4 _ _).alloc (GZ3 _) o
  ⟨x.1.trans (a.mono x.1.size),h W (W.alloc o) (fun _ c=>a.cell (GY0 c x.1.size)) x.2⟩
 X W bX oX vX hX x:=have a:Below b.heap.size W (W.setCell ⟨bX,oX,none⟩ vX):=(GZ4 _ _).setCell (p:=⟨bX,oX,none⟩) hX vX
  ⟨x.1.trans a,h W (W.setCell ⟨bX,oX,none⟩ vX) (fun _ c=>a.cell c) x.2⟩
 L _ x:=x.1
end
section
open Go.RowKit
theorem oP (A:Option Addr)(c:Nat)(l:List Exp)(most:Int)(w:World)(h:Sj w A l)(T:0<=most)(y:most<=big):
  Calls Tryz.prog 76 #[.slice A l.length c,.int .i64 most] w fun e r=>e=.returned (.int .i64 (eF [] most l))/\Below w.heap.size w r:=by
 obtain⟨q,N,H⟩:=h
 unfold big at N y
 have D:=Hp q
 have Q:=Hp H
 clear q H
 have c3:=Hp (fun W n=>bE n 0 (most -1) W)
 have S:wrap64 (most -1)=most -1:=IntWalk.wrap64_in _ (by omega)
 go_enter Tryz.func76,Tryz.ntmps76
 go_wp2_with fail
 go_loopw [5] (fun i wr=>∃j:Nat,j<=l.length/\i=.int .i64 j/\SC l most j=eF [] most l/\Below w.heap.size w wr) (fun i _=>l.length -(intOf i).toNat)
 case atStart=>exact⟨0,by omega,rfl,rfl,GZ4 _ _⟩
 case round=>
  obtain⟨j,U,rfl,L,B⟩:=hrel
  have u:=Hp L
  have G:=Hp B
  clear L
  by_cases a:j<l.length
  ·have I:(j:Int)<l.length:=by omega
   obtain⟨ad,rfl,P,Y,X⟩:=mF D.out B j a
   clear B
   have x:=Q.out l[j] (GZ9 _)
   have v:=Hp (fun W=>Sl l[j].name W x)
   cases b:isName l[j].name
   ·rw[b]at v
    have o:=Hp ((wM (most:=most) a b).symm.trans u.out)
    clear b
    go_wp2_with (first|(go_at_call 142;(with_reducible refine(v.out _).mono ?_);rintro e r ⟨rfl,rfl⟩))
    go_ret
    exact⟨aC o.out,G.out⟩
   ·rw[b]at v
    have E:=Hp b
    clear b
    go_wp2_with (first|(go_at_call 142;(with_reducible refine(v.out _).mono ?_);rintro e r ⟨rfl,rfl⟩))
    go_loopw [6] (fun i M=>∃k:Nat,k<=j/\i=.int .i64 k/\(∀g(O:g<l.length),g<k->l[g].name≠l[j].name)/\Below w.heap.size w M) (fun i _=>j -(intOf i).toNat)
    case atStart=>exact⟨0,by omega,rfl,by omega,G.out⟩
    case round=>
     obtain⟨k,O,rfl,K,d⟩:=hrel
     have F:=Hp K
     have p:=Hp d
     clear K
     obtain⟨_,f,_,g0,Z⟩:=mF D.out d j a
     obtain rfl:=GY3 f
     by_cases z:k<j
     ·have s:k<l.length:=by omega
      have J:(k:Int)<j:=by omega
      obtain⟨_,f,_,f0,_⟩:=mF D.out d k s
      obtain rfl:=GY3 f
      clear d f
      by_cases m:l[k].name=l[j].name
      ·have o:=Hp ((UN (most:=most) a E.out s z m).symm.trans u.out)
       go_wp2_with fail
       go_quiet (fail)
       go_wp2_with fail
       go_ret
       exact⟨aC o.out,below_drewN p.out _⟩
      ·have R:=Hp m
       have V:=mY m
       clear m
       go_wp2_with fail
       go_quiet (fail)
       go_wp2_with fail
       go_roundw
       case rel=>exact⟨k+1,by omega,by go_num,fun g t a=>by rcases Nat.lt_succ_iff_lt_or_eq.1 a with h|rfl;exact F.out g t h;exact R.out,below_drewN p.out _⟩
       case measure=>(simp[intOf];try omega)
     ·obtain rfl:k=j:=by omega
      clear d f
      by_cases q:0<=l[k].at_/\l[k].at_<most
      ·have o:=Hp ((vT a E.out (fun g t a=>F.out g t a) q).trans u.out)
       have C:=Hp (fun W=>bK l[k].at_ 0 (most -1) W q.1 (by omega))
       clear q
       go_wp2_with (first|(go_at_call 75;(with_reducible refine(C.out _).mono ?_);rintro e r ⟨rfl,rfl⟩))
       go_roundw
       case rel=>exact⟨k+1,by omega,by go_num,o.out,p.out⟩
       case measure=>(simp[intOf];try omega)
      ·have o:=Hp ((sI a E.out (fun g t a=>F.out g t a) (by omega)).symm.trans u.out)
       have C:=Hp (fun W=>RQ l[k].at_ 0 (most -1) W (by omega))
       clear q
       go_wp2_with (first|(go_at_call 75;(with_reducible refine(C.out _).mono ?_);rintro e r ⟨rfl,rfl⟩))
       go_ret
       exact⟨aC o.out,p.out⟩
  ·have o:=Hp ((yO (most:=most) a).symm.trans u.out)
   go_wp2_with fail
   go_ret
   exact⟨aC o.out,G.out⟩
end
section
open Go.RowKit Go.Maps Go.WideMaps
def qX (a b:Int):Bool:=decide (0<=a)&&decide (a<=255)&&(decide (0<=b)&&decide (b<=255))
theorem Uw (a b:Int)(w:World):
  Calls Tryz.prog 182 #[.int .i64 a,.int .i64 b] w fun e d=>e=.returned (.bool (qX a b))/\w=d:=by
 by_cases h:0<=a/\a<=255
 ·have f:=Hp (fun W=>TJ a 0 255 W h.1 h.2)
  have g:=Hp (fun W=>gU b 0 255 W)
  have c:qX a b=(decide (0<=b)&&decide (b<=255)):=by unfold qX;simp[h.1,h.2]
  rw[c];clear c h
  go_enter Tryz.func182,Tryz.ntmps182
  go_wp2_with (first|(go_at_call 217;(with_reducible refine(f.out _).mono ?_);rintro e d ⟨rfl,rfl⟩)|(go_at_call 217;(with_reducible refine(g.out _).mono ?_);rintro e d ⟨rfl,rfl⟩))
  all_goals(go_ret;exact⟨rfl,rfl⟩)
 ·have f:=Hp (fun W=>mV a 0 255 W (by omega))
  have c:qX a b=false:=by unfold qX;simp;omega
  rw[c];clear c h
  go_enter Tryz.func182,Tryz.ntmps182
  go_wp2_with (first|(go_at_call 217;(with_reducible refine(f.out _).mono ?_);rintro e d ⟨rfl,rfl⟩))
  all_goals(go_ret;exact⟨rfl,rfl⟩)
theorem Cn (b a:ByteArray)(d c:Int):dP ⟨b,a,d,c⟩=if isName b=true then(if isName a=true then(if qX d c=true then 0 else 3)else 1)else 1:=by
 unfold dP qX
 cases isName b<;>cases isName a<;>simp
 (repeat' split)<;>first|rfl|omega
theorem Jn (h g:ByteArray)(k j:Int)(w:World)(x:h.size<=big)(v:g.size<=big):
  Calls Tryz.prog 185 #[.agg #[.string h,.string g,.int .i64 k,.int .i64 j]] w fun e u=>e=.returned (.int .i64 (dP ⟨h,g,k,j⟩))/\Below w.heap.size w u:=by
 rw[Cn]
 have s:=Hp (fun W=>qY h W x)
 have y:=Hp (fun W=>qY g W v)
 have z:=Hp (fun W=>Uw k j W)
 have t:=Hp ((GZ4 w.heap.size w).alloc (GZ3 _) (.cells #[.string h,.string g,.int .i64 k,.int .i64 j] 173))
 clear x v
 generalize isName h=a at*
 generalize isName g=b at*
 generalize qX k j=c at*
 cases a
 ·go_enter Tryz.func185,Tryz.ntmps185
  go_wp2_with (first|(go_at_call 181;(with_reducible refine(s.out _).mono ?_);rintro e i ⟨rfl,d⟩;obtain⟨n,m⟩:=aJ d;have l:w.heap.size<i.heap.size:=by have:=d.size;(try simp at this);omega))
  go_ret
  exact⟨rfl,t.trans (d.mono (by simp))⟩
 cases b
 ·go_enter Tryz.func185,Tryz.ntmps185
  go_wp2_with (first|(go_at_call 181;(with_reducible refine(s.out _).mono ?_);rintro e i ⟨rfl,d⟩;obtain⟨n,m⟩:=aJ d;have l:w.heap.size<i.heap.size:=by have:=d.size;(try simp at this);omega)|(go_at_call 181;(with_reducible refine(y.out _).mono ?_);rintro e o ⟨rfl,f⟩;obtain⟨r,q⟩:=aJ f;have p:w.heap.size<o.heap.size:=by have:=f.size;(try simp at this);omega))
  go_ret
  exact⟨rfl,(t.trans (d.mono (by simp))).trans (f.mono (by omega))⟩
 cases c
 all_goals
  go_enter Tryz.func185,Tryz.ntmps185
  go_wp2_with (first|(go_at_call 181;(with_reducible refine(s.out _).mono ?_);rintro e i ⟨rfl,d⟩;obtain⟨n,m⟩:=aJ d;have l:w.heap.size<i.heap.size:=by have:=d.size;(try simp at this);omega)|(go_at_call 181;(with_reducible refine(y.out _).mono ?_);rintro e o ⟨rfl,f⟩;obtain⟨r,q⟩:=aJ f;have p:w.heap.size<o.heap.size:=by have:=f.size;(try simp at this);omega)|(go_at_call 182;(with_reducible refine(z.out _).mono ?_);rintro e u ⟨rfl,rfl⟩))
  go_ret
  exact⟨rfl,(t.trans (d.mono (by simp))).trans (f.mono (by omega))⟩
theorem zB (j g:ByteArray)(i h:Int)(w:World)(o:j.size<=big)(n:g.size<=big):
  Calls Tryz.prog 178 #[.agg #[.string j,.string g,.int .i64 i,.int .i64 h]] w fun e f=>e=.returned (.int .i64 (dP ⟨j,g,i,h⟩))/\Below w.heap.size w f:=by
 rw[Cn]
 have k:=Hp (fun W=>Sl j W o)
 have m:=Hp (fun W=>Sl g W n)
 have p:=Hp (fun W=>bE i 0 255 W)
 have q:=Hp (fun W=>bE h 0 255 W)
 have l:=Hp ((GZ4 w.heap.size w).alloc (GZ3 _) (.cells #[.string j,.string g,.int .i64 i,.int .i64 h] 173))
 unfold qX
 clear o n
 generalize isName j=a at*
 generalize isName g=b at*
 generalize(decide (0<=i)&&decide (i<=255))=c at*
 generalize(decide (0<=h)&&decide (h<=255))=d at*
 cases a
 ·go_enter Tryz.func178,Tryz.ntmps178
  go_wp2_with (first|(go_at_call 142;(with_reducible refine(k.out _).mono ?_);rintro e f ⟨rfl,rfl⟩))
  go_ret
  exact⟨rfl,l.out⟩
 cases b
 ·go_enter Tryz.func178,Tryz.ntmps178
  go_wp2_with (first|(go_at_call 142;(with_reducible refine(k.out _).mono ?_);rintro e f ⟨rfl,rfl⟩)|(go_at_call 142;(with_reducible refine(m.out _).mono ?_);rintro e f ⟨rfl,rfl⟩))
  go_ret
  exact⟨rfl,l.out⟩
 cases c
 ·go_enter Tryz.func178,Tryz.ntmps178
  go_wp2_with (first|(go_at_call 142;(with_reducible refine(k.out _).mono ?_);rintro e f ⟨rfl,rfl⟩)|(go_at_call 142;(with_reducible refine(m.out _).mono ?_);rintro e f ⟨rfl,rfl⟩)|(go_at_call 75;(with_reducible refine(p.out _).mono ?_);rintro e f ⟨rfl,rfl⟩))
  go_ret
  exact⟨rfl,l.out⟩
 cases d
 all_goals
  go_enter Tryz.func178,Tryz.ntmps178
  go_wp2_with (first|(go_at_call 142;(with_reducible refine(k.out _).mono ?_);rintro e f ⟨rfl,rfl⟩)|(go_at_call 142;(with_reducible refine(m.out _).mono ?_);rintro e f ⟨rfl,rfl⟩)|(go_at_call 75;(with_reducible refine(p.out _).mono ?_);rintro e f ⟨rfl,rfl⟩)|(go_at_call 75;(with_reducible refine(q.out _).mono ?_);rintro e f ⟨rfl,rfl⟩))
  go_ret
  exact⟨rfl,l.out⟩
theorem VT {a c b d:List UInt8}(f:(32:UInt8) ∉ a)(e:(32:UInt8) ∉ c)(h:a++[32]++b=c++[32]++d):a=c/\b=d:=by
 induction a generalizing c with
 |nil=>cases c with
  |nil=>simp at h;exact⟨rfl,h⟩
  |cons y c=>simp at h e;exact absurd h.1 e.1
 |cons x a ih=>cases c with
  |nil=>simp at h f;exact absurd h.1.symm f.1
  |cons y c=>
   simp only[List.cons_append,List.cons.injEq]at h
   simp only[List.mem_cons,not_or]at f e
   obtain⟨i,g⟩:=ih f.2 e.2 h.2
   exact⟨by rw[h.1,i],g⟩
theorem FT {s:ByteArray}(h:isName s=true):(32:UInt8) ∉ s.data.toList:=by
 unfold isName at h
 simp only[Bool.and_eq_true]at h
 intro a
 have:=List.all_eq_true.1 h.2 _ a
 simp[fC]at this
def keyBytes (x:Imp):ByteArray:=x.mod++⟨#[32]⟩++x.name
theorem key_inj {x y:Imp}(c:isName x.mod=true)(b:isName y.mod=true)(h:keyBytes x=keyBytes y):x.mod=y.mod/\x.name=y.name:=by
 have a:(keyBytes x).data.toList=(keyBytes y).data.toList:=by rw[h]
 unfold keyBytes at a
 rw[dY,dY,dY,dY]at a
 obtain⟨e,d⟩:=VT (FT c) (FT b) a
 exact⟨ba_eq e,ba_eq d⟩
theorem DJ {x:Imp}(h:dP x≠1):isName x.mod=true:=by
 unfold dP at h
 cases a:isName x.mod
 ·simp[a]at h
 ·rfl
theorem F7 (A:Option Addr)(c:Nat)(l:List Imp)(w:World)(h:TC w A l):
  Calls Tryz.prog 183 #[.slice A l.length c] w fun e w'=>e=.returned (.int .i64 (eP [] l))/\Below w.heap.size w w':=by
 obtain⟨hr,hl,hs⟩:=h
 unfold big at hl
 have HR:=Hp hr
 have HS:=Hp hs
 clear hr hs
 have a6:=@run_makeMap Tryz.prog
 go_enter Tryz.func183,Tryz.ntmps183
 go_wp2_with fail
 go_loopw [10] (fun i wr=>∃j:Nat,j<=l.length/\i=.int .i64 j/\gM l j=eP [] l/\(∀k(u:k<l.length),k<j->isName l[k].mod=true)/\Ra wr w.heap.size j ((l.take j).map keyBytes)/\Below w.heap.size w wr) (fun i _=>l.length -(intOf i).toNat)
 case atStart=>exact⟨0,by omega,rfl,rfl,by omega,Ra.made _,ZB⟩
 case round=>
  obtain⟨j,hj,rfl,hE,hN,a1,hb⟩:=hrel
  have V:=Hp hE
  have X:=Hp hb
  have B:=Hp a1
  have a2:=Hp hN
  clear hE a1 hN
  by_cases a:j<l.length
  ·have a5:(j:Int)<l.length:=by omega
   obtain⟨ad,rfl,a7,h0,h1,h2,h3⟩:=TA HR.out hb j a
   obtain⟨x,C⟩:=HS.out l[j] (GZ9 _)
   have P:=Hp (sP l keyBytes j a)
   have R:=Hp (wP l keyBytes j (by omega) (keyBytes l[j]))
   obtain⟨ks,S⟩:∃ks,ks=(l.take j).map keyBytes:=⟨_,rfl⟩
   rw[<-S]at P R B
   have y:=Hp (show ks.length<=big by rw[S];simp;unfold big;omega)
   have F:=Hp (show j<=big by unfold big;omega)
   have G:w.heap.size<wr.heap.size:=B.lt
   have Y:((l[j]'a).mod++⟨#[32]⟩).size=(l[j]'a).mod.size+1:=by rw[ByteArray.size_append];rfl
   obtain⟨m,J⟩:∃m,m=(l[j]'a).mod++⟨#[32]⟩++(l[j]'a).name:=⟨_,rfl⟩
   have a9:∀W,(Op.stringOp .add (l[j]'a).mod ⟨#[32]⟩).run Tryz.prog W=.ok (.string ((l[j]'a).mod++⟨#[32]⟩)) W:=fun W=>run_string_add_sum _ _ _ (by show _+1<=_;unfold big at x;omega)
   have a8:∀W,(Op.stringOp .add ((l[j]'a).mod++⟨#[32]⟩) (l[j]'a).name).run Tryz.prog W=.ok (.string m) W:=fun W=>by rw[J];exact run_string_add_sum _ _ _ (by unfold big at x C;omega)
   have g:=Hp (show m.size<=Fq by rw[J,ByteArray.size_append,Y];unfold Fq;unfold big at x C;omega)
   have E:m=keyBytes l[j]:=J
   rw[<-E]at P R
   obtain⟨q,L⟩:=Nm (cnt ks m)
   have q2:wrap64 (q+1)=q+1:=by rw[L];exact BP y.out (by unfold big;omega)
   have a0:=Hp (KM (ks:=ks) (s:=m))
   have v:=Hp (Aa ks m m)
   rw[<-L]at a0 v
   rw[if_pos rfl]at v
   have r:=Hp L
   have b0:=Hp E
   have Z:dP l[j]≠1->(0<q↔∃k,∃u:k<l.length,k<j/\(l[k].mod=l[j].mod/\l[k].name=l[j].name)):=fun a4=>by
    rw[a0.out,R.out]
    constructor
    ·rintro⟨k,u,o,e⟩
     exact⟨k,u,o,key_inj (a2.out k u o) (DJ a4) (e.trans E)⟩
    ·rintro⟨k,u,o,z,e2⟩
     exact⟨k,u,o,by rw[E];unfold keyBytes;rw[z,e2]⟩
   have N:=Hp Z
   have U:=Hp (fun W=>Jn (l[j]'a).mod (l[j]'a).name (l[j]'a).major (l[j]'a).minor W x C)
   obtain⟨er,T⟩:=Nm (dP (l[j]'a))
   have O:er=dP ⟨(l[j]'a).mod,(l[j]'a).name,(l[j]'a).major,(l[j]'a).minor⟩:=T
   rw[<-O]at U
   have a3:=Hp T
   clear hb S L J E Z T O Y
   rcases vQ (l[j]'a)with h5|h5|h5
   all_goals
    obtain rfl:=a3.trans h5
    have H:=Hp h5
    clear h5 a3
   ·by_cases n:0<q
    ·obtain⟨k,u,o,D⟩:=(N.out (by rw[H.out];omega)).1 n
     have z:=Hp ((nC a (by rw[H.out];omega) u o D).symm.trans V.out)
     have t1:(1:Int)<q+1:=by omega
     clear n D
     go_wp2_with (first
    |(at_lookup;refine bA _ rfl _ _ rfl w.heap.size (j+1) (ks++[m]) (f.kept d (by omega)) m g.out rfl rfl (q+1) v.symm ?_)
    |(at_lookup;refine bA _ rfl _ _ rfl w.heap.size j ks (B.alloc _) m g.out rfl rfl q r.out ?_)
    |(at_mapUpdate;refine Rh _ rfl _ _ _ rfl w.heap.size j ks (B.alloc _) m g.out y.out F.out rfl rfl q r.out rfl ?_;intro w1 f b;obtain⟨p,I,t⟩:=jL b G;have f0:=p 0 _ rfl;have f1:=p 1 _ rfl;have f2:=p 2 _ rfl;have f3:=p 3 _ rfl;clear p)
    |(go_at_call 185;refine(U.out _).mono ?_;rintro e w2 ⟨rfl,d⟩;obtain⟨M,K⟩:=aJ d))
     go_ret
     exact⟨aC z.out,(X.trans t).trans (d.mono (by omega))⟩
    ·have Q:=Hp (fun k(u:k<l.length)(o:k<j)e=>n ((N.out (by rw[H.out];omega)).2 ⟨k,u,o,e⟩))
     have z:=Hp ((tL a H.out Q.out).trans V.out)
     have t1:decide ((1:Int)<q+1)=false:=by simp;omega
     clear n
     go_wp2_with (first
    |(at_lookup;refine bA _ rfl _ _ rfl w.heap.size (j+1) (ks++[m]) (f.kept d (by omega)) m g.out rfl rfl (q+1) v.symm ?_)
    |(at_lookup;refine bA _ rfl _ _ rfl w.heap.size j ks (B.alloc _) m g.out rfl rfl q r.out ?_)
    |(at_mapUpdate;refine Rh _ rfl _ _ _ rfl w.heap.size j ks (B.alloc _) m g.out y.out F.out rfl rfl q r.out rfl ?_;intro w1 f b;obtain⟨p,I,t⟩:=jL b G;have f0:=p 0 _ rfl;have f1:=p 1 _ rfl;have f2:=p 2 _ rfl;have f3:=p 3 _ rfl;clear p)
    |(go_at_call 185;refine(U.out _).mono ?_;rintro e w2 ⟨rfl,d⟩;obtain⟨M,K⟩:=aJ d))
     go_roundw
     case rel=>exact⟨j+1,by omega,by go_num,z.out,fun k u o=>by rcases Nat.lt_succ_iff_lt_or_eq.1 o with h|rfl;exact a2.out k u h;exact DJ (by rw[H.out];omega),by rw[P.out];exact f.kept d (by omega),(X.trans t).trans (d.mono (by omega))⟩
     case measure=>(simp[intOf];try omega)
   ·have z:=Hp ((tY a H.out).symm.trans V.out)
    go_wp2_with (first
    |(at_lookup;refine bA _ rfl _ _ rfl w.heap.size (j+1) (ks++[m]) (f.kept d (by omega)) m g.out rfl rfl (q+1) v.symm ?_)
    |(at_lookup;refine bA _ rfl _ _ rfl w.heap.size j ks (B.alloc _) m g.out rfl rfl q r.out ?_)
    |(at_mapUpdate;refine Rh _ rfl _ _ _ rfl w.heap.size j ks (B.alloc _) m g.out y.out F.out rfl rfl q r.out rfl ?_;intro w1 f b;obtain⟨p,I,t⟩:=jL b G;have f0:=p 0 _ rfl;have f1:=p 1 _ rfl;have f2:=p 2 _ rfl;have f3:=p 3 _ rfl;clear p)
    |(go_at_call 185;refine(U.out _).mono ?_;rintro e w2 ⟨rfl,d⟩;obtain⟨M,K⟩:=aJ d))
    go_ret
    exact⟨aC z.out,(X.trans t).trans (d.mono (by omega))⟩
   ·by_cases n:0<q
    ·obtain⟨k,u,o,D⟩:=(N.out (by rw[H.out];omega)).1 n
     have z:=Hp ((nC a (by rw[H.out];omega) u o D).symm.trans V.out)
     have t1:(1:Int)<q+1:=by omega
     clear n D
     go_wp2_with (first
    |(at_lookup;refine bA _ rfl _ _ rfl w.heap.size (j+1) (ks++[m]) (f.kept d (by omega)) m g.out rfl rfl (q+1) v.symm ?_)
    |(at_lookup;refine bA _ rfl _ _ rfl w.heap.size j ks (B.alloc _) m g.out rfl rfl q r.out ?_)
    |(at_mapUpdate;refine Rh _ rfl _ _ _ rfl w.heap.size j ks (B.alloc _) m g.out y.out F.out rfl rfl q r.out rfl ?_;intro w1 f b;obtain⟨p,I,t⟩:=jL b G;have f0:=p 0 _ rfl;have f1:=p 1 _ rfl;have f2:=p 2 _ rfl;have f3:=p 3 _ rfl;clear p)
    |(go_at_call 185;refine(U.out _).mono ?_;rintro e w2 ⟨rfl,d⟩;obtain⟨M,K⟩:=aJ d))
     go_ret
     exact⟨aC z.out,(X.trans t).trans (d.mono (by omega))⟩
    ·have Q:=Hp (fun k(u:k<l.length)(o:k<j)e=>n ((N.out (by rw[H.out];omega)).2 ⟨k,u,o,e⟩))
     have z:=Hp ((qD a H.out Q.out).symm.trans V.out)
     have t1:decide ((1:Int)<q+1)=false:=by simp;omega
     clear n
     go_wp2_with (first
    |(at_lookup;refine bA _ rfl _ _ rfl w.heap.size (j+1) (ks++[m]) (f.kept d (by omega)) m g.out rfl rfl (q+1) v.symm ?_)
    |(at_lookup;refine bA _ rfl _ _ rfl w.heap.size j ks (B.alloc _) m g.out rfl rfl q r.out ?_)
    |(at_mapUpdate;refine Rh _ rfl _ _ _ rfl w.heap.size j ks (B.alloc _) m g.out y.out F.out rfl rfl q r.out rfl ?_;intro w1 f b;obtain⟨p,I,t⟩:=jL b G;have f0:=p 0 _ rfl;have f1:=p 1 _ rfl;have f2:=p 2 _ rfl;have f3:=p 3 _ rfl;clear p)
    |(go_at_call 185;refine(U.out _).mono ?_;rintro e w2 ⟨rfl,d⟩;obtain⟨M,K⟩:=aJ d))
     go_ret
     exact⟨aC z.out,(X.trans t).trans (d.mono (by omega))⟩
  ·have z:=Hp ((U0 a).symm.trans V.out)
   go_wp2_with fail
   go_ret
   exact⟨aC z.out,X.out⟩
end
section
open Go.RowKit
theorem rX (s:ByteArray):(s.toList==[107,101,114,110,101,108])=decide (s=RG):=by
 rw[Lib.toList_data,Bool.eq_iff_iff,beq_iff_eq,decide_eq_true_eq]
 exact⟨fun h=>ba_eq h,fun h=>by rw[h];rfl⟩
theorem oM (m:Mod)(w:World)(h:m.ok w):
  Calls Tryz.prog 113 #[m.v] w fun e D=>e=.returned (.int .i64 (aL m))/\Below w.heap.size w D:=by
 obtain⟨O,N,M,T,L⟩:=h
 obtain⟨w0,K⟩:=Nm (w.alloc (.cells #[.string m.name,.int .i64 m.major,.int .i64 m.minor,.string m.text,.slice m.eA m.ex.length m.eC,.slice m.iA m.im.length m.iC,.slice m.pA m.pa.length m.pC] 70))
 obtain⟨g0,g1,g2,g3,g4,g5,g6,hz,V⟩:=wE K
 have b2:w.heap.size<w0.heap.size:=by omega
 have f:=Hp V
 have a9:=K.symm
 clear K V
 obtain⟨E,g⟩:=Nm (aL m)
 rw[<-g]
 have HE:=Hp g
 have a7:=O.2.1
 have a6:=N.2.1
 have a5:=M.2
 have ht:=L
 unfold big at a7 a6 a5 ht
 have z1:=Hp (show(m.text.size:Int)<=big by unfold big;omega)
 have Z:=Hp O
 have P:=Hp N
 have Y:=Hp M
 have a8:=Hp L
 have U:aL m=if isName m.name=false\/m.name=RG then 1
  else if m.major<0\/255<m.major\/m.minor<0\/255<m.minor then 3
  else if 256<m.text.size\/6<m.ex.length\/6<m.im.length\/12<m.pa.length then 2
  else if m.text.size=0\/m.text.size % 4≠0 then 1
  else if eF [] m.text.size m.ex≠0 then eF [] m.text.size m.ex
  else if eP [] m.im≠0 then eP [] m.im
  else Rp m.text.size m.im.length 0 m.pa:=rfl
 rw[U]at g
 have C:=Hp (fun W=>qY m.name W T)
 clear U T O N M L
 have B:=Hp (fun W=>Uw m.major m.minor W)
 have H:=Hp (fun W(X:Below w.heap.size w W)=>wC m.eA m.eC m.ex m.text.size W ⟨Z.out.1.below X,Z.out.2⟩ (by omega) z1.out)
 have G:=Hp (fun W(X:Below w.heap.size w W)=>F7 m.iA m.iC m.im W ⟨P.out.1.below X,P.out.2⟩)
 have F:=Hp (fun W(X:Below w.heap.size w W)=>Gm m.name m.text m.major m.minor m.eA m.iA m.pA m.ex.length m.eC m.im.length m.iC m.pC m.pa W ⟨Y.out.1.below X,Y.out.2⟩ a8.out P.out.2.1)
 have kq:=rX m.name
 have S:qX m.major m.minor=!decide (m.major<0\/255<m.major\/m.minor<0\/255<m.minor):=by
  unfold qX;rw[Bool.eq_iff_iff];simp;omega
 by_cases I:isName m.name=true
 case neg=>
  rw[if_pos (by simp at I;exact .inl I)]at g
  rw[show isName m.name=false by simpa using I]at C
  clear I kq S
  go_enter Tryz.func113,Tryz.ntmps113
  go_wp2_with (first|(go_at_call 181;(with_reducible refine(C.out _).mono ?_);rintro e l ⟨rfl,a⟩;obtain⟨A,u⟩:=aJ a;have q:w.heap.size<l.heap.size:=by have:=a.size;(try simp at this);omega)|(go_at_call 182;(with_reducible refine(B.out _).mono ?_);rintro e D ⟨rfl,rfl⟩)|(go_at_call 154;(with_reducible refine(H.out _ (f.out.trans (a.mono (by omega)))).mono ?_);rintro e k ⟨rfl,b⟩;obtain⟨z,t⟩:=aJ b;have p:w.heap.size<k.heap.size:=by have:=b.size;(try simp at this);omega)|(go_at_call 183;(with_reducible refine(G.out _ ((f.out.trans (a.mono (by omega))).trans (b.mono (by omega)))).mono ?_);rintro e j ⟨rfl,c⟩;obtain⟨y,s⟩:=aJ c;have o:w.heap.size<j.heap.size:=by have:=c.size;(try simp at this);omega)|(go_at_call 184;(with_reducible refine(F.out _ (((f.out.trans (a.mono (by omega))).trans (b.mono (by omega))).trans (c.mono (by omega)))).mono ?_);rintro e i ⟨rfl,d⟩;obtain⟨x,r⟩:=aJ d;have n:w.heap.size<i.heap.size:=by have:=d.size;(try simp at this);omega))
  go_ret
  exact⟨aC g.symm,(f.trans (a.mono (by omega)))⟩
 rw[I]at C
 by_cases J:m.name=RG
 case pos=>
  rw[if_pos (.inr J)]at g
  rw[show decide (m.name=RG)=true by simp[J]]at kq
  clear I J S
  go_enter Tryz.func113,Tryz.ntmps113
  go_wp2_with (first|(go_at_call 181;(with_reducible refine(C.out _).mono ?_);rintro e l ⟨rfl,a⟩;obtain⟨A,u⟩:=aJ a;have q:w.heap.size<l.heap.size:=by have:=a.size;(try simp at this);omega)|(go_at_call 182;(with_reducible refine(B.out _).mono ?_);rintro e D ⟨rfl,rfl⟩)|(go_at_call 154;(with_reducible refine(H.out _ (f.out.trans (a.mono (by omega)))).mono ?_);rintro e k ⟨rfl,b⟩;obtain⟨z,t⟩:=aJ b;have p:w.heap.size<k.heap.size:=by have:=b.size;(try simp at this);omega)|(go_at_call 183;(with_reducible refine(G.out _ ((f.out.trans (a.mono (by omega))).trans (b.mono (by omega)))).mono ?_);rintro e j ⟨rfl,c⟩;obtain⟨y,s⟩:=aJ c;have o:w.heap.size<j.heap.size:=by have:=c.size;(try simp at this);omega)|(go_at_call 184;(with_reducible refine(F.out _ (((f.out.trans (a.mono (by omega))).trans (b.mono (by omega))).trans (c.mono (by omega)))).mono ?_);rintro e i ⟨rfl,d⟩;obtain⟨x,r⟩:=aJ d;have n:w.heap.size<i.heap.size:=by have:=d.size;(try simp at this);omega))
  go_ret
  exact⟨aC g.symm,(f.trans (a.mono (by omega)))⟩
 rw[if_neg (by simp[I,J])]at g
 rw[show decide (m.name=RG)=false by simp[J]]at kq
 by_cases R:m.major<0\/255<m.major\/m.minor<0\/255<m.minor
 case pos=>
  rw[if_pos R]at g
  rw[S,show decide (m.major<0\/255<m.major\/m.minor<0\/255<m.minor)=true by simp[R]]at B
  clear I J R S
  go_enter Tryz.func113,Tryz.ntmps113
  go_wp2_with (first|(go_at_call 181;(with_reducible refine(C.out _).mono ?_);rintro e l ⟨rfl,a⟩;obtain⟨A,u⟩:=aJ a;have q:w.heap.size<l.heap.size:=by have:=a.size;(try simp at this);omega)|(go_at_call 182;(with_reducible refine(B.out _).mono ?_);rintro e D ⟨rfl,rfl⟩)|(go_at_call 154;(with_reducible refine(H.out _ (f.out.trans (a.mono (by omega)))).mono ?_);rintro e k ⟨rfl,b⟩;obtain⟨z,t⟩:=aJ b;have p:w.heap.size<k.heap.size:=by have:=b.size;(try simp at this);omega)|(go_at_call 183;(with_reducible refine(G.out _ ((f.out.trans (a.mono (by omega))).trans (b.mono (by omega)))).mono ?_);rintro e j ⟨rfl,c⟩;obtain⟨y,s⟩:=aJ c;have o:w.heap.size<j.heap.size:=by have:=c.size;(try simp at this);omega)|(go_at_call 184;(with_reducible refine(F.out _ (((f.out.trans (a.mono (by omega))).trans (b.mono (by omega))).trans (c.mono (by omega)))).mono ?_);rintro e i ⟨rfl,d⟩;obtain⟨x,r⟩:=aJ d;have n:w.heap.size<i.heap.size:=by have:=d.size;(try simp at this);omega))
  go_ret
  exact⟨aC g.symm,(f.trans (a.mono (by omega)))⟩
 rw[if_neg R]at g
 rw[S,show decide (m.major<0\/255<m.major\/m.minor<0\/255<m.minor)=false by simp[R]]at B
 clear I J R S
 by_cases t4:256<m.text.size
 case pos=>
  rw[if_pos (by omega)]at g
  have a4:(256:Int)<(m.text.size:Nat):=by omega
  clear t4
  go_enter Tryz.func113,Tryz.ntmps113
  go_wp2_with (first|(go_at_call 181;(with_reducible refine(C.out _).mono ?_);rintro e l ⟨rfl,a⟩;obtain⟨A,u⟩:=aJ a;have q:w.heap.size<l.heap.size:=by have:=a.size;(try simp at this);omega)|(go_at_call 182;(with_reducible refine(B.out _).mono ?_);rintro e D ⟨rfl,rfl⟩)|(go_at_call 154;(with_reducible refine(H.out _ (f.out.trans (a.mono (by omega)))).mono ?_);rintro e k ⟨rfl,b⟩;obtain⟨z,t⟩:=aJ b;have p:w.heap.size<k.heap.size:=by have:=b.size;(try simp at this);omega)|(go_at_call 183;(with_reducible refine(G.out _ ((f.out.trans (a.mono (by omega))).trans (b.mono (by omega)))).mono ?_);rintro e j ⟨rfl,c⟩;obtain⟨y,s⟩:=aJ c;have o:w.heap.size<j.heap.size:=by have:=c.size;(try simp at this);omega)|(go_at_call 184;(with_reducible refine(F.out _ (((f.out.trans (a.mono (by omega))).trans (b.mono (by omega))).trans (c.mono (by omega)))).mono ?_);rintro e i ⟨rfl,d⟩;obtain⟨x,r⟩:=aJ d;have n:w.heap.size<i.heap.size:=by have:=d.size;(try simp at this);omega))
  go_ret
  exact⟨aC g.symm,(f.trans (a.mono (by omega)))⟩
 have a4:decide ((256:Int)<(m.text.size:Nat))=false:=by simp;omega
 by_cases t5:6<m.ex.length
 case pos=>
  rw[if_pos (by omega)]at g
  have a3:(6:Int)<(m.ex.length:Nat):=by omega
  clear t5
  go_enter Tryz.func113,Tryz.ntmps113
  go_wp2_with (first|(go_at_call 181;(with_reducible refine(C.out _).mono ?_);rintro e l ⟨rfl,a⟩;obtain⟨A,u⟩:=aJ a;have q:w.heap.size<l.heap.size:=by have:=a.size;(try simp at this);omega)|(go_at_call 182;(with_reducible refine(B.out _).mono ?_);rintro e D ⟨rfl,rfl⟩)|(go_at_call 154;(with_reducible refine(H.out _ (f.out.trans (a.mono (by omega)))).mono ?_);rintro e k ⟨rfl,b⟩;obtain⟨z,t⟩:=aJ b;have p:w.heap.size<k.heap.size:=by have:=b.size;(try simp at this);omega)|(go_at_call 183;(with_reducible refine(G.out _ ((f.out.trans (a.mono (by omega))).trans (b.mono (by omega)))).mono ?_);rintro e j ⟨rfl,c⟩;obtain⟨y,s⟩:=aJ c;have o:w.heap.size<j.heap.size:=by have:=c.size;(try simp at this);omega)|(go_at_call 184;(with_reducible refine(F.out _ (((f.out.trans (a.mono (by omega))).trans (b.mono (by omega))).trans (c.mono (by omega)))).mono ?_);rintro e i ⟨rfl,d⟩;obtain⟨x,r⟩:=aJ d;have n:w.heap.size<i.heap.size:=by have:=d.size;(try simp at this);omega))
  go_ret
  exact⟨aC g.symm,(f.trans (a.mono (by omega)))⟩
 have a3:decide ((6:Int)<(m.ex.length:Nat))=false:=by simp;omega
 by_cases t6:6<m.im.length
 case pos=>
  rw[if_pos (by omega)]at g
  have a2:(6:Int)<(m.im.length:Nat):=by omega
  clear t6
  go_enter Tryz.func113,Tryz.ntmps113
  go_wp2_with (first|(go_at_call 181;(with_reducible refine(C.out _).mono ?_);rintro e l ⟨rfl,a⟩;obtain⟨A,u⟩:=aJ a;have q:w.heap.size<l.heap.size:=by have:=a.size;(try simp at this);omega)|(go_at_call 182;(with_reducible refine(B.out _).mono ?_);rintro e D ⟨rfl,rfl⟩)|(go_at_call 154;(with_reducible refine(H.out _ (f.out.trans (a.mono (by omega)))).mono ?_);rintro e k ⟨rfl,b⟩;obtain⟨z,t⟩:=aJ b;have p:w.heap.size<k.heap.size:=by have:=b.size;(try simp at this);omega)|(go_at_call 183;(with_reducible refine(G.out _ ((f.out.trans (a.mono (by omega))).trans (b.mono (by omega)))).mono ?_);rintro e j ⟨rfl,c⟩;obtain⟨y,s⟩:=aJ c;have o:w.heap.size<j.heap.size:=by have:=c.size;(try simp at this);omega)|(go_at_call 184;(with_reducible refine(F.out _ (((f.out.trans (a.mono (by omega))).trans (b.mono (by omega))).trans (c.mono (by omega)))).mono ?_);rintro e i ⟨rfl,d⟩;obtain⟨x,r⟩:=aJ d;have n:w.heap.size<i.heap.size:=by have:=d.size;(try simp at this);omega))
  go_ret
  exact⟨aC g.symm,(f.trans (a.mono (by omega)))⟩
 have a2:decide ((6:Int)<(m.im.length:Nat))=false:=by simp;omega
 by_cases t7:12<m.pa.length
 case pos=>
  rw[if_pos (by omega)]at g
  have a1:(12:Int)<(m.pa.length:Nat):=by omega
  clear t7
  go_enter Tryz.func113,Tryz.ntmps113
  go_wp2_with (first|(go_at_call 181;(with_reducible refine(C.out _).mono ?_);rintro e l ⟨rfl,a⟩;obtain⟨A,u⟩:=aJ a;have q:w.heap.size<l.heap.size:=by have:=a.size;(try simp at this);omega)|(go_at_call 182;(with_reducible refine(B.out _).mono ?_);rintro e D ⟨rfl,rfl⟩)|(go_at_call 154;(with_reducible refine(H.out _ (f.out.trans (a.mono (by omega)))).mono ?_);rintro e k ⟨rfl,b⟩;obtain⟨z,t⟩:=aJ b;have p:w.heap.size<k.heap.size:=by have:=b.size;(try simp at this);omega)|(go_at_call 183;(with_reducible refine(G.out _ ((f.out.trans (a.mono (by omega))).trans (b.mono (by omega)))).mono ?_);rintro e j ⟨rfl,c⟩;obtain⟨y,s⟩:=aJ c;have o:w.heap.size<j.heap.size:=by have:=c.size;(try simp at this);omega)|(go_at_call 184;(with_reducible refine(F.out _ (((f.out.trans (a.mono (by omega))).trans (b.mono (by omega))).trans (c.mono (by omega)))).mono ?_);rintro e i ⟨rfl,d⟩;obtain⟨x,r⟩:=aJ d;have n:w.heap.size<i.heap.size:=by have:=d.size;(try simp at this);omega))
  go_ret
  exact⟨aC g.symm,(f.trans (a.mono (by omega)))⟩
 have a1:decide ((12:Int)<(m.pa.length:Nat))=false:=by simp;omega
 rw[if_neg (by omega)]at g
 clear t4 t5 t6 t7
 have te:(m.text.toList==[])=decide (m.text.size=0):=by
  rw[Lib.toList_data,Bool.eq_iff_iff]
  simp[<-ByteArray.size_data]
 have tm:Int.tmod (m.text.size:Int) 4=((m.text.size % 4:Nat):Int):=by rw[Int.tmod_eq_emod_of_nonneg (by omega)];omega
 by_cases Q:m.text.size=0
 case pos=>
  rw[if_pos (.inl Q)]at g
  rw[show decide (m.text.size=0)=true by simp[Q]]at te
  clear Q tm
  go_enter Tryz.func113,Tryz.ntmps113
  go_wp2_with (first|(go_at_call 181;(with_reducible refine(C.out _).mono ?_);rintro e l ⟨rfl,a⟩;obtain⟨A,u⟩:=aJ a;have q:w.heap.size<l.heap.size:=by have:=a.size;(try simp at this);omega)|(go_at_call 182;(with_reducible refine(B.out _).mono ?_);rintro e D ⟨rfl,rfl⟩)|(go_at_call 154;(with_reducible refine(H.out _ (f.out.trans (a.mono (by omega)))).mono ?_);rintro e k ⟨rfl,b⟩;obtain⟨z,t⟩:=aJ b;have p:w.heap.size<k.heap.size:=by have:=b.size;(try simp at this);omega)|(go_at_call 183;(with_reducible refine(G.out _ ((f.out.trans (a.mono (by omega))).trans (b.mono (by omega)))).mono ?_);rintro e j ⟨rfl,c⟩;obtain⟨y,s⟩:=aJ c;have o:w.heap.size<j.heap.size:=by have:=c.size;(try simp at this);omega)|(go_at_call 184;(with_reducible refine(F.out _ (((f.out.trans (a.mono (by omega))).trans (b.mono (by omega))).trans (c.mono (by omega)))).mono ?_);rintro e i ⟨rfl,d⟩;obtain⟨x,r⟩:=aJ d;have n:w.heap.size<i.heap.size:=by have:=d.size;(try simp at this);omega))
  go_ret
  exact⟨aC g.symm,(f.trans (a.mono (by omega)))⟩
 rw[show decide (m.text.size=0)=false by simp[Q]]at te
 by_cases t9:m.text.size % 4=0
 case neg=>
  rw[if_pos (.inr t9)]at g
  have a0:(((m.text.size % 4:Nat):Int) != 0)=true:=by simp;omega
  clear Q t9
  go_enter Tryz.func113,Tryz.ntmps113
  go_wp2_with (first|(go_at_call 181;(with_reducible refine(C.out _).mono ?_);rintro e l ⟨rfl,a⟩;obtain⟨A,u⟩:=aJ a;have q:w.heap.size<l.heap.size:=by have:=a.size;(try simp at this);omega)|(go_at_call 182;(with_reducible refine(B.out _).mono ?_);rintro e D ⟨rfl,rfl⟩)|(go_at_call 154;(with_reducible refine(H.out _ (f.out.trans (a.mono (by omega)))).mono ?_);rintro e k ⟨rfl,b⟩;obtain⟨z,t⟩:=aJ b;have p:w.heap.size<k.heap.size:=by have:=b.size;(try simp at this);omega)|(go_at_call 183;(with_reducible refine(G.out _ ((f.out.trans (a.mono (by omega))).trans (b.mono (by omega)))).mono ?_);rintro e j ⟨rfl,c⟩;obtain⟨y,s⟩:=aJ c;have o:w.heap.size<j.heap.size:=by have:=c.size;(try simp at this);omega)|(go_at_call 184;(with_reducible refine(F.out _ (((f.out.trans (a.mono (by omega))).trans (b.mono (by omega))).trans (c.mono (by omega)))).mono ?_);rintro e i ⟨rfl,d⟩;obtain⟨x,r⟩:=aJ d;have n:w.heap.size<i.heap.size:=by have:=d.size;(try simp at this);omega))
  go_ret
  exact⟨aC g.symm,(f.trans (a.mono (by omega)))⟩
 rw[if_neg (by omega)]at g
 have a0:(((m.text.size % 4:Nat):Int) != 0)=false:=by simp;omega
 clear Q t9
 generalize eF [] m.text.size m.ex=ee at*
 generalize eP [] m.im=ie at*
 generalize Rp m.text.size m.im.length 0 m.pa=pe at*
 by_cases u1:ee=0
 case neg=>
  rw[if_pos u1]at g
  have b1:(ee==0)=false:=by simp[u1]
  clear u1
  go_enter Tryz.func113,Tryz.ntmps113
  go_wp2_with (first|(go_at_call 181;(with_reducible refine(C.out _).mono ?_);rintro e l ⟨rfl,a⟩;obtain⟨A,u⟩:=aJ a;have q:w.heap.size<l.heap.size:=by have:=a.size;(try simp at this);omega)|(go_at_call 182;(with_reducible refine(B.out _).mono ?_);rintro e D ⟨rfl,rfl⟩)|(go_at_call 154;(with_reducible refine(H.out _ (f.out.trans (a.mono (by omega)))).mono ?_);rintro e k ⟨rfl,b⟩;obtain⟨z,t⟩:=aJ b;have p:w.heap.size<k.heap.size:=by have:=b.size;(try simp at this);omega)|(go_at_call 183;(with_reducible refine(G.out _ ((f.out.trans (a.mono (by omega))).trans (b.mono (by omega)))).mono ?_);rintro e j ⟨rfl,c⟩;obtain⟨y,s⟩:=aJ c;have o:w.heap.size<j.heap.size:=by have:=c.size;(try simp at this);omega)|(go_at_call 184;(with_reducible refine(F.out _ (((f.out.trans (a.mono (by omega))).trans (b.mono (by omega))).trans (c.mono (by omega)))).mono ?_);rintro e i ⟨rfl,d⟩;obtain⟨x,r⟩:=aJ d;have n:w.heap.size<i.heap.size:=by have:=d.size;(try simp at this);omega))
  go_ret
  exact⟨aC g.symm,((f.trans (a.mono (by omega))).trans (b.mono (by omega)))⟩
 subst u1
 rw[if_neg (by omega)]at g
 by_cases u2:ie=0
 case neg=>
  rw[if_pos u2]at g
  have b0:(ie==0)=false:=by simp[u2]
  clear u2
  go_enter Tryz.func113,Tryz.ntmps113
  go_wp2_with (first|(go_at_call 181;(with_reducible refine(C.out _).mono ?_);rintro e l ⟨rfl,a⟩;obtain⟨A,u⟩:=aJ a;have q:w.heap.size<l.heap.size:=by have:=a.size;(try simp at this);omega)|(go_at_call 182;(with_reducible refine(B.out _).mono ?_);rintro e D ⟨rfl,rfl⟩)|(go_at_call 154;(with_reducible refine(H.out _ (f.out.trans (a.mono (by omega)))).mono ?_);rintro e k ⟨rfl,b⟩;obtain⟨z,t⟩:=aJ b;have p:w.heap.size<k.heap.size:=by have:=b.size;(try simp at this);omega)|(go_at_call 183;(with_reducible refine(G.out _ ((f.out.trans (a.mono (by omega))).trans (b.mono (by omega)))).mono ?_);rintro e j ⟨rfl,c⟩;obtain⟨y,s⟩:=aJ c;have o:w.heap.size<j.heap.size:=by have:=c.size;(try simp at this);omega)|(go_at_call 184;(with_reducible refine(F.out _ (((f.out.trans (a.mono (by omega))).trans (b.mono (by omega))).trans (c.mono (by omega)))).mono ?_);rintro e i ⟨rfl,d⟩;obtain⟨x,r⟩:=aJ d;have n:w.heap.size<i.heap.size:=by have:=d.size;(try simp at this);omega))
  go_ret
  exact⟨aC g.symm,(((f.trans (a.mono (by omega))).trans (b.mono (by omega))).trans (c.mono (by omega)))⟩
 subst u2
 rw[if_neg (by omega)]at g
 go_enter Tryz.func113,Tryz.ntmps113
 go_wp2_with (first|(go_at_call 181;(with_reducible refine(C.out _).mono ?_);rintro e l ⟨rfl,a⟩;obtain⟨A,u⟩:=aJ a;have q:w.heap.size<l.heap.size:=by have:=a.size;(try simp at this);omega)|(go_at_call 182;(with_reducible refine(B.out _).mono ?_);rintro e D ⟨rfl,rfl⟩)|(go_at_call 154;(with_reducible refine(H.out _ (f.out.trans (a.mono (by omega)))).mono ?_);rintro e k ⟨rfl,b⟩;obtain⟨z,t⟩:=aJ b;have p:w.heap.size<k.heap.size:=by have:=b.size;(try simp at this);omega)|(go_at_call 183;(with_reducible refine(G.out _ ((f.out.trans (a.mono (by omega))).trans (b.mono (by omega)))).mono ?_);rintro e j ⟨rfl,c⟩;obtain⟨y,s⟩:=aJ c;have o:w.heap.size<j.heap.size:=by have:=c.size;(try simp at this);omega)|(go_at_call 184;(with_reducible refine(F.out _ (((f.out.trans (a.mono (by omega))).trans (b.mono (by omega))).trans (c.mono (by omega)))).mono ?_);rintro e i ⟨rfl,d⟩;obtain⟨x,r⟩:=aJ d;have n:w.heap.size<i.heap.size:=by have:=d.size;(try simp at this);omega))
 go_ret
 exact⟨aC g.symm,((((f.trans (a.mono (by omega))).trans (b.mono (by omega))).trans (c.mono (by omega))).trans (d.mono (by omega)))⟩
end
section
open Go.RowKit
theorem UO (A:Option Addr)(c:Nat)(l:List Plc)(g:Nat)(s:Array Value)(q:Plc->Bool)(w:World)(U:∀b w,(callFunc g b).run Tryz.prog w=.ok (.enter g b) w)(h:Row Plc.cells 8 w A l)(G:l.length<=big)
  (B:∀x∈l,∀W,Below w.heap.size w W->Calls Tryz.prog g (#[x.v]++s) W fun e m=>e=.returned (.bool (q x))/\Below W.heap.size W m):
  Calls Tryz.prog 191 #[.slice A l.length c,.func (.func g) #[] s] w fun e m=>e=.returned (.int .i64 (idxOf q l))/\Below w.heap.size w m:=by
 unfold big at G
 have K:=Hp h
 have J:=Hp B
 clear h B
 go_enter Tryz.func191,Tryz.ntmps191
 go_wp2_with fail
 go_loopw [8] (fun i wr=>∃j:Nat,j<=l.length/\i=.int .i64 j/\(∀k(o:k<l.length),k<j->q l[k]=false)/\Below w.heap.size w wr) (fun i _=>l.length -(intOf i).toNat)
 case atStart=>exact⟨0,by omega,rfl,by omega,GZ4 _ _⟩
 case round=>
  obtain⟨j,L,rfl,D,p⟩:=hrel
  have z:=Hp D
  have r:=Hp p
  clear D
  by_cases a:j<l.length
  ·have C:(j:Int)<l.length:=by omega
   obtain⟨V,rfl,H,T,S,R,Q,P,O,N,M⟩:=RS K.out p j a
   have F:=p.size
   have y:=Hp (show Calls Tryz.prog g (#[(l[j]'a).v]++s) wr fun e m=>e=.returned (.bool (q (l[j]'a)))/\Below wr.heap.size wr m from J.out (l[j]'a) (GZ9 _) wr r.out)
   obtain⟨I,d⟩:=Nm (q (l[j]'a))
   rw[<-d]at y
   have n:=Hp d
   clear d p
   cases I
   ·go_wp2_with (go_at_fn g;refine(y.out).mono ?_;rintro e E ⟨rfl,f⟩)
    go_roundw
    case rel=>exact⟨j+1,by omega,by go_num,fun k o t=>by rcases Nat.lt_succ_iff_lt_or_eq.1 t with h|rfl;exact z.out k o h;exact n.symm,r.trans (f.mono (by omega))⟩
    case measure=>(simp[intOf];try omega)
   ·have u:=Hp (fJ a z.out n.symm)
    go_wp2_with (go_at_fn g;refine(y.out).mono ?_;rintro e E ⟨rfl,f⟩)
    go_ret
    exact⟨aC u.symm,r.trans (f.mono (by omega))⟩
  ·have u:=Hp (gT (q:=q) (l:=l) (fun k o=>z.out k o (by omega)))
   go_wp2_with fail
   go_ret
   exact⟨aC u.symm,r.out⟩
theorem JD (A:Option Addr)(c:Nat)(l:List Exp)(g:Nat)(s:Array Value)(q:Exp->Bool)(w:World)(O:∀b w,(callFunc g b).run Tryz.prog w=.ok (.enter g b) w)(h:Row Exp.cells 2 w A l)(G:l.length<=big)
  (B:∀x∈l,∀W,Below w.heap.size w W->Calls Tryz.prog g (#[x.v]++s) W fun e m=>e=.returned (.bool (q x))/\Below W.heap.size W m):
  Calls Tryz.prog 261 #[.slice A l.length c,.func (.func g) #[] s] w fun e m=>e=.returned (.int .i64 (idxOf q l))/\Below w.heap.size w m:=by
 unfold big at G
 have K:=Hp h
 have J:=Hp B
 clear h B
 go_enter Tryz.func261,Tryz.ntmps261
 go_wp2_with fail
 go_loopw [8] (fun i wr=>∃j:Nat,j<=l.length/\i=.int .i64 j/\(∀k(o:k<l.length),k<j->q l[k]=false)/\Below w.heap.size w wr) (fun i _=>l.length -(intOf i).toNat)
 case atStart=>exact⟨0,by omega,rfl,by omega,GZ4 _ _⟩
 case round=>
  obtain⟨j,L,rfl,D,p⟩:=hrel
  have z:=Hp D
  have r:=Hp p
  clear D
  by_cases a:j<l.length
  ·have C:(j:Int)<l.length:=by omega
   obtain⟨P,rfl,H,N,M⟩:=mF K.out p j a
   have F:=p.size
   have y:=Hp (show Calls Tryz.prog g (#[(l[j]'a).v]++s) wr fun e m=>e=.returned (.bool (q (l[j]'a)))/\Below wr.heap.size wr m from J.out (l[j]'a) (GZ9 _) wr r.out)
   obtain⟨I,d⟩:=Nm (q (l[j]'a))
   rw[<-d]at y
   have n:=Hp d
   clear d p
   cases I
   ·go_wp2_with (go_at_fn g;refine(y.out).mono ?_;rintro e E ⟨rfl,f⟩)
    go_roundw
    case rel=>exact⟨j+1,by omega,by go_num,fun k o t=>by rcases Nat.lt_succ_iff_lt_or_eq.1 t with h|rfl;exact z.out k o h;exact n.symm,r.trans (f.mono (by omega))⟩
    case measure=>(simp[intOf];try omega)
   ·have u:=Hp (fJ a z.out n.symm)
    go_wp2_with (go_at_fn g;refine(y.out).mono ?_;rintro e E ⟨rfl,f⟩)
    go_ret
    exact⟨aC u.symm,r.trans (f.mono (by omega))⟩
  ·have u:=Hp (gT (q:=q) (l:=l) (fun k o=>z.out k o (by omega)))
   go_wp2_with fail
   go_ret
   exact⟨aC u.symm,r.out⟩
theorem Kz (x:Plc)(a:ByteArray)(B:Nat)(w:World)(d:B<w.heap.size)(h:w.cell? ⟨B,0,none⟩=some (.string a)):
  Calls Tryz.prog 192 (#[x.v]++ #[.pointer (some ⟨B,0,none⟩)]) w fun e b=>e=.returned (.bool (named a x))/\Below w.heap.size w b:=by
 have c:named a x=(x.m.name.toList==a.toList):=by
  unfold named
  by_cases e:x.m.name=a
  ·rw[str_eq e];simp[e]
  ·rw[mY e];simp[e]
 rw[c]
 go_enter Tryz.func192,Tryz.ntmps192
 go_wp2_with fail
 go_ret
 exact⟨rfl,ZB⟩
theorem JZ (x:Exp)(a:ByteArray)(B:Nat)(w:World)(d:B<w.heap.size)(h:w.cell? ⟨B,0,none⟩=some (.string a)):
  Calls Tryz.prog 262 (#[x.v]++ #[.pointer (some ⟨B,0,none⟩)]) w fun e b=>e=.returned (.bool (called a x))/\Below w.heap.size w b:=by
 have c:called a x=(x.name.toList==a.toList):=by
  unfold called
  by_cases e:x.name=a
  ·rw[str_eq e];simp[e]
  ·rw[mY e];simp[e]
 rw[c]
 go_enter Tryz.func262,Tryz.ntmps262
 go_wp2_with fail
 go_ret
 exact⟨rfl,ZB⟩
theorem SY (A:Option Addr)(c:Nat)(l:List Plc)(d:ByteArray)(w:World)(h:Row Plc.cells 8 w A l)(o:l.length<=big):
  Calls Tryz.prog 124 #[.slice A l.length c,.string d] w fun e m=>e=.returned (.int .i64 (idxOf (named d) l))/\Below w.heap.size w m:=by
 obtain⟨f,a⟩:=Nm (w.alloc (.cells #[.string d] 9))
 have g:f.cell? ⟨w.heap.size,0,none⟩=some (.string d):=by rw[a,World.cell?_alloc_new];rfl
 have n:f.heap.size=w.heap.size+1:=by rw[a];simp
 have b:Below w.heap.size w f:=a▸ZB
 have p:=Hp (UO A c l 192 #[.pointer (some ⟨w.heap.size,0,none⟩)] (named d) f (enters_of Tryz.func192 (by kernel_rfl) rfl) (h.below b) o
  (fun x _ W k=>Kz x d w.heap.size W (by have:=k.size;omega) ((k.cell (by simp;omega)).trans g)))
 have q:=Hp b
 have j:=a.symm
 clear a b
 go_enter Tryz.func124,Tryz.ntmps124
 go_wp2_with (first|(go_at_call 191;(with_reducible refine(p.out).mono ?_);rintro e r ⟨rfl,i⟩))
 go_ret
 exact⟨rfl,q.trans (i.mono (by omega))⟩
def VP (l:List Exp)(nm:ByteArray):Bool:=decide ((iR l nm).2=0)
theorem tZ {l:List Exp}{a:ByteArray}{j:Nat}(h:j<l.length)(e:l.find? (called a)=some l[j]):iR l a=(l[j].at_,0):=by unfold iR;rw[e]
theorem uV {l:List Exp}{a:ByteArray}(e:l.find? (called a)=none):iR l a=(0,5):=by unfold iR;rw[e]
theorem nJ (l:List Exp)(nm:ByteArray):(iR l nm).2=0\/((iR l nm).1=0/\(iR l nm).2=5):=by
 unfold iR;split<;>simp
theorem BI (A:Option Addr)(c:Nat)(l:List Exp)(nm:ByteArray)(w:World)(h:Sj w A l):
  Calls Tryz.prog 236 #[.slice A l.length c,.string nm] w fun e z=>e=.returned (.tuple #[.int .i64 (iR l nm).1,.bool (VP l nm)])/\Below w.heap.size w z:=by
 obtain⟨h,t,_⟩:=h
 obtain⟨i,a⟩:=Nm (w.alloc (.cells #[.string nm] 9))
 have n:i.cell? ⟨w.heap.size,0,none⟩=some (.string nm):=by rw[a,World.cell?_alloc_new];rfl
 have B:i.heap.size=w.heap.size+1:=by rw[a];simp
 have d:Below w.heap.size w i:=a▸ZB
 have k:=Hp (JD A c l 262 #[.pointer (some ⟨w.heap.size,0,none⟩)] (called nm) i (enters_of Tryz.func262 (by kernel_rfl) rfl) (h.below d) t
  (fun x _ W u=>JZ x nm w.heap.size W (by have:=u.size;omega) ((u.cell (by simp;omega)).trans n)))
 have r:=Hp d
 have v:=Hp h
 have s:=a.symm
 unfold big at t
 clear a d h
 rcases gW (called nm) l with⟨g,f⟩|⟨j,m,g,f⟩
 ·have p:=Hp (uV f)
  rw[g]at k
  clear g f
  go_enter Tryz.func236,Tryz.ntmps236
  go_wp2_with (first|(go_at_call 261;(with_reducible refine(k.out).mono ?_);rintro e y ⟨rfl,b⟩))
  go_ret2
  exact⟨by unfold VP;rw[p.out];rfl,r.trans (b.mono (by omega))⟩
 ·have p:=Hp (tZ m f)
  rw[g]at k
  have C:(j:Int)<l.length:=by omega
  have D:=Hp (fun W(o:Below w.heap.size w W)=>mF v.out o j m)
  obtain⟨G,rfl,_⟩:=mF v.out (GZ4 _ _) j m
  clear g f
  go_enter Tryz.func236,Tryz.ntmps236
  go_wp2_with (go_at_call 261;refine(k.out).mono ?_;rintro e y ⟨rfl,b⟩;obtain⟨_,q,_,F,E⟩:=D.out _ (r.trans (b.mono (by omega)));obtain rfl:=GY3 q)
  go_ret2
  exact⟨by unfold VP;rw[p.out];rfl,r.trans (b.mono (by omega))⟩
end
end Go.Proofs.YtjiedaialianmaaGreat
