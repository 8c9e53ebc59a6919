import Derived.Test.YtjiedaialianmaaGreatA01
set_option maxHeartbeats 1000000
namespace Go.Proofs.YtjiedaialianmaaGreat
section
open Go
def fU (q:Plc->Bool):List Plc->Int
 | []=>0
 |x::l=>if aL x.m≠0 then aL x.m else if q x=false then 3 else fU q l
def bY (q:Plc->Bool)(l:List Plc):Int:=if 8<l.length then 2 else fU q l
def SF (q:Plc->Bool)(l:List Plc)(j:Nat):Int:=fU q (l.drop j)
section
variable {q:Plc->Bool} {l:List Plc} {j:Nat}
theorem vG (h:¬j<l.length):SF q l j=0:=by
 unfold SF;rw[List.drop_eq_nil_of_le (by omega)];rfl
theorem vW (h:j<l.length)(a:aL l[j].m≠0):SF q l j=aL l[j].m:=by
 unfold SF;rw[GY4 h];unfold fU;rw[if_pos a]
theorem yH (h:j<l.length)(b:aL l[j].m=0)(a:q l[j]=false):SF q l j=3:=by
 unfold SF;rw[GY4 h];unfold fU;rw[if_neg (by omega),if_pos a]
theorem UL (h:j<l.length)(b:aL l[j].m=0)(a:q l[j]=true):SF q l (j+1)=SF q l j:=by
 conv=>rhs;unfold SF;rw[GY4 h];unfold fU;rw[if_neg (by omega),if_neg (by simp[a])]
 rfl
end
theorem zY {q:Plc->Bool}:∀{l:List Plc},fU q l=0->∀x∈l,aL x.m=0/\q x=true
 |y::l,h,x,a=>by
  unfold fU at h
  split at h
  ·contradiction
  ·split at h
   ·cases h
   ·rcases List.mem_cons.1 a with rfl|a
    ·exact⟨by omega,by simpa using ‹¬q x=false›⟩
    ·exact zY h x a
theorem TB {q:Plc->Bool}{l:List Plc}(h:bY q l=0):l.length<=8/\∀x∈l,aL x.m=0/\q x=true:=by
 unfold bY at h
 split at h
 ·cases h
 ·exact⟨by omega,zY h⟩
theorem aY {m:Mod}(h:aL m=0):isName m.name=true/\m.name≠RG/\m.text.size<=256/\1<=m.text.size/\m.text.size % 4=0/\m.ex.length<=6/\m.im.length<=6/\m.pa.length<=12/\eF [] m.text.size m.ex=0/\eP [] m.im=0/\
  (0<=m.major/\m.major<=255/\0<=m.minor/\m.minor<=255):=by
 unfold aL at h
 by_cases a:isName m.name=false\/m.name=RG
 ·rw[if_pos a]at h;omega
 rw[if_neg a]at h
 by_cases f:m.major<0\/255<m.major\/m.minor<0\/255<m.minor
 ·rw[if_pos f]at h;omega
 rw[if_neg f]at h
 by_cases e:256<m.text.size\/6<m.ex.length\/6<m.im.length\/12<m.pa.length
 ·rw[if_pos e]at h;omega
 rw[if_neg e]at h
 by_cases d:m.text.size=0\/m.text.size % 4≠0
 ·rw[if_pos d]at h;omega
 rw[if_neg d]at h
 by_cases c:eF [] m.text.size m.ex=0
 ·rw[if_neg (by omega)]at h
  by_cases b:eP [] m.im=0
  ·simp only[not_or]at a
   exact⟨by simpa using a.1,a.2,by omega,by omega,by omega,by omega,by omega,by omega,c,b,by omega⟩
  ·rw[if_pos b]at h;omega
 ·rw[if_pos c]at h;omega
theorem lJ {a:Int}:∀{l:List Exp}{b:List ByteArray},eF b a l=0->∀x∈l,isName x.name=true/\0<=x.at_/\x.at_<a
 |y::l,b,h,x,c=>by
  unfold eF at h
  by_cases d:isName y.name=false
  ·rw[if_pos d]at h;omega
  rw[if_neg d]at h
  split at h
  ·omega
  ·by_cases e:y.at_<0\/a<=y.at_
   ·rw[if_pos e]at h;omega
   rw[if_neg e]at h
   rcases List.mem_cons.1 c with rfl|c
   ·exact⟨by simpa using d,by omega,by omega⟩
   ·exact lJ h x c
def bJ (k:Krn):Int:=
 if k.major<0\/255<k.major\/k.minor<0\/255<k.minor then 3 else if 8<k.ex.length then 2 else eF [] 4096 k.ex
def P9 (x:Plc):Bool:=decide (0<=x.first)&&decide (x.first<=15)
def kE (x:Plc):Bool:=decide (0<=x.first)&&decide (x.first<=16 -aH x.m)
def Po (first whole:Bool)(x:Plc):Bool:=!first || (decide (0<=x.first)&&decide (x.first<=16 -(if whole then aH x.m else 1)))
def iB (k:Krn)(l:List Plc):Int:=if bJ k≠0 then bJ k else bY P9 l
theorem Nc :Po true true=kE:=by funext x;simp[Po,kE]
theorem Uo {k:Krn}{l:List Plc}(h:iB k l=0):bJ k=0/\bY P9 l=0:=by
 unfold iB at h
 by_cases a:bJ k=0
 ·rw[if_neg (by omega)]at h;exact⟨a,h⟩
 ·rw[if_pos a]at h;omega
theorem Ee {k:Krn}(h:bJ k=0):∀x∈k.ex,isName x.name=true/\0<=x.at_/\x.at_<4096:=by
 unfold bJ at h
 split at h
 ·omega
 split at h
 ·omega
 ·exact lJ h
def idxOf {α:Type}(q:α->Bool):List α->Int
 | []=> -1
 |x::l=>if q x=true then 0 else if idxOf q l<0 then-1 else idxOf q l+1
theorem gT {α:Type}{q:α->Bool}:∀{l:List α},(∀j(h:j<l.length),q l[j]=false)->idxOf q l= -1
 | [],_=>rfl
 |x::l,h=>by
  unfold idxOf
  have b:q x=false:=h 0 (by simp)
  rw[if_neg (by simp[b])]
  rw[gT (l:=l) (fun j a=>h (j+1) (by simpa using a))];rfl
theorem fJ {α:Type}{q:α->Bool}:∀{l:List α}{j:Nat}(b:j<l.length),(∀k(h:k<l.length),k<j->q l[k]=false)->q l[j]=true->idxOf q l=j
 |x::l,0,_,_,h=>by
  have a:q x=true:=h
  unfold idxOf;rw[if_pos a];rfl
 |x::l,j+1,b,hn,h=>by
  unfold idxOf
  have a:q x=false:=hn 0 (by simp) (by omega)
  rw[if_neg (by simp[a])]
  have:=fJ (q:=q) (l:=l) (j:=j) (by simpa using b) (fun k d c=>hn (k+1) (by simpa using d) (by omega)) h
  rw[this,if_neg (by omega)];omega
theorem Sb {α:Type}(q:α->Bool)(l:List α):(idxOf q l= -1/\∀x∈l,q x=false)\/∃j,∃h:j<l.length,idxOf q l=j/\q l[j]=true/\∀k(b:k<l.length),k<j->q l[k]=false:=by
 by_cases h:∀x∈l,q x=false
 ·exact .inl ⟨gT (fun j c=>h _ (GZ9 _)),h⟩
 ·refine .inr ?_
  have:∃j,∃h:j<l.length,q l[j]=true:=by
   obtain⟨x,g⟩:=Classical.not_forall.1 h
   obtain⟨g,f⟩:=Classical.not_imp.1 g
   obtain⟨j,c,rfl⟩:=List.getElem_of_mem g
   exact⟨j,c,by simpa using f⟩
  have e:∃j,(∃h:j<l.length,q l[j]=true)/\∀k,k<j->¬ ∃h:k<l.length,q l[k]=true:=by
   obtain⟨j,c⟩:=this
   induction j using Nat.strongRecOn with
   |_ j ih=>
    by_cases b:∃k,k<j/\∃h:k<l.length,q l[k]=true
    ·obtain⟨k,a,b⟩:=b;exact ih k a b
    ·exact⟨j,c,fun k a m=>b ⟨k,a,m⟩⟩
  obtain⟨j,⟨c,f⟩,n⟩:=e
  have d:∀k(b:k<l.length),k<j->q l[k]=false:=fun k b a=>by
   cases i:q l[k]
   ·rfl
   ·exact absurd ⟨b,i⟩ (n k a)
  exact⟨j,c,fJ c d f,f,d⟩
def named (a:ByteArray)(x:Plc):Bool:=decide (x.m.name=a)
def called (a:ByteArray)(x:Exp):Bool:=decide (x.name=a)
def iR (l:List Exp)(a:ByteArray):Int×Int:=match l.find? (called a)with
 |some x=>(x.at_,0)
 |none=>(0,5)
def addrOf (k:Krn)(l:List Plc)(i:Imp):Int×Int:=
 if i.mod=RG then(if k.major≠i.major\/k.minor<i.minor then(0,4)else iR k.ex i.name)
 else match l.find? (named i.mod)with
  |none=>(0,5)
  |some x=>if x.m.major≠i.major\/x.m.minor<i.minor then(0,4)else
   if(iR x.m.ex i.name).2≠0 then(0,5)else(4096+64*x.first+(iR x.m.ex i.name).1,0)
theorem gW {α:Type}(q:α->Bool)(l:List α):(idxOf q l= -1/\l.find? q=none)\/∃j,∃h:j<l.length,idxOf q l=j/\l.find? q=some l[j]:=by
 rcases Sb q l with⟨b,a⟩|⟨j,c,b,a,f⟩
 ·exact .inl ⟨b,List.find?_eq_none.2 (fun x d=>by simp[a x d])⟩
 ·refine .inr ⟨j,c,b,?_⟩
  rw[List.find?_eq_some_iff_getElem]
  exact⟨a,j,c,rfl,fun k e=>by simp[f k (by omega) e]⟩
def aN (k:Krn)(l:List Plc):List Imp->List Int×Int
 | []=>([],0)
 |i::r=>if(addrOf k l i).2≠0 then([],(addrOf k l i).2)else if(aN k l r).2≠0 then([],(aN k l r).2)else((addrOf k l i).1::(aN k l r).1,0)
theorem Gp {k:Krn}{l:List Plc}:∀{r:List Imp},(aN k l r).2≠0->(aN k l r).1=[]
 | [],h=>absurd rfl h
 |i::r,h=>by
  unfold aN at h ⊢
  split
  ·rfl
  ·split
   ·rfl
   ·rename_i b a
    rw[if_neg b,if_neg a]at h
    exact absurd rfl h
def glue (a:List Int)(r:List Int×Int):List Int×Int:=if r.2≠0 then([],r.2)else(a++r.1,0)
theorem Gb {k:Krn}{l:List Plc}{r:List Imp}:glue [] (aN k l r)=aN k l r:=by
 unfold glue
 by_cases h:(aN k l r).2=0
 ·rw[if_neg (by omega)];simp[<-h]
 ·rw[if_pos h,<-Gp h]
theorem Hf {k:Krn}{l:List Plc}{r:List Imp}{pre:List Int}{j:Nat}(h:¬j<r.length):glue pre (aN k l (r.drop j))=(pre,0):=by
 rw[List.drop_eq_nil_of_le (by omega)];simp[aN,glue]
theorem Fw {k:Krn}{l:List Plc}{r:List Imp}{pre:List Int}{j:Nat}(h:j<r.length)(a:(addrOf k l r[j]).2≠0):glue pre (aN k l (r.drop j))=([],(addrOf k l r[j]).2):=by
 rw[GY4 h];unfold aN;rw[if_pos a];unfold glue;rw[if_pos a]
theorem I8 {k:Krn}{l:List Plc}{i:Imp}{r:List Imp}(a:(addrOf k l i).2=0):aN k l (i::r)=if(aN k l r).2≠0 then([],(aN k l r).2)else((addrOf k l i).1::(aN k l r).1,0):=by
 rw[aN,if_neg (by simp[a])]
theorem Jw {k:Krn}{l:List Plc}{r:List Imp}{pre:List Int}{j:Nat}(h:j<r.length)(b:(addrOf k l r[j]).2=0):glue (pre++[(addrOf k l r[j]).1]) (aN k l (r.drop (j+1)))=glue pre (aN k l (r.drop j)):=by
 rw[GY4 h,I8 b]
 by_cases a:(aN k l (r.drop (j+1))).2=0
 ·rw[if_neg (by simp[a])];unfold glue;rw[if_neg (by simp[a]),if_neg (by simp)];simp
 ·rw[if_pos a];unfold glue;rw[if_pos a,if_pos a]
end
section
open Go
structure Run where
 first:Int
 many:Int
def aR (x:Plc):Int:=x.first+aH x.m
def Rb (a b:Int):List Run:=if a<b then[⟨a,b -a⟩]else[]
def dC :Int->List Plc->List Run
 |a,[]=>Rb a 16
 |a,x::l=>Rb a x.first++dC (aR x) l
def RI (l:List Plc):List Run:=dC 0 l
def iI :List Plc->Int
 |x::y::l=>if y.first<aR x then 4 else iI (y::l)
 |_=>0
def jV (l:List Plc)(j:Nat):Int:=iI (l.drop (j -1))
section
variable {l:List Plc} {j:Nat}
theorem yR (h:¬j<l.length):jV l j=0:=by
 unfold jV
 by_cases a:j -1<l.length
 ·rw[GY4 a,List.drop_eq_nil_of_le (by omega)];rfl
 ·rw[List.drop_eq_nil_of_le (by omega)];rfl
theorem IG (h:j<l.length)(a:1<=j):l.drop (j -1)=l[j -1]::l[j]::l.drop (j+1):=by
 rw[GY4 (show j -1<l.length by omega),show j -1+1=j by omega,GY4 h]
theorem yS (h:j<l.length)(b:1<=j)(a:l[j].first<aR l[j -1]):jV l j=4:=by
 unfold jV
 rw[IG h b]
 unfold iI
 rw[if_pos a]
theorem vS (h:j<l.length)(b:1<=j)(a:¬l[j].first<aR l[j -1]):jV l (j+1)=jV l j:=by
 have e:jV l j=iI (l[j]::l.drop (j+1)):=by
  unfold jV
  rw[IG h b,iI,if_neg a]
 rw[e]
 unfold jV
 rw[show j+1 -1=j by omega,GY4 h]
theorem Uu :jV l 1=iI l:=rfl
end
def RY (l:List Plc):Int:=if bY kE l≠0 then bY kE l else iI l
theorem Gy {l:List Plc}(h:RY l=0):bY kE l=0/\iI l=0:=by
 unfold RY at h
 by_cases a:bY kE l=0
 ·rw[if_neg (by omega)]at h;exact⟨a,h⟩
 ·rw[if_pos a]at h;exact absurd h a
def bW :Int->List Plc->Prop
 |a,[]=>a<=16
 |a,x::l=>a<=x.first/\1<=aH x.m/\aH x.m<=4/\bW (aR x) l
theorem bW.le :∀{l:List Plc}{a:Int},bW a l->a<=16
 | [],_,h=>h
 |x::l,a,⟨h1,h2,_,h4⟩=>by have:=h4.le;unfold aR at this;omega
theorem gK {m:Mod}(h:aL m=0):1<=aH m/\aH m<=4:=by
 obtain⟨_,_,b,a,_⟩:=aY h
 unfold aH
 omega
theorem Hd :∀{l:List Plc}{a:Int},a<=16->(∀x∈l,aL x.m=0/\kE x=true)->iI l=0->(∀x∈l.head?,a<=x.first)->bW a l
 | [],a,ha,_,_,_=>ha
 |x::l,a,ha,h,h2,h3=>by
  obtain⟨d,c⟩:=h x (by simp)
  simp only[kE,Bool.and_eq_true,decide_eq_true_eq]at c
  obtain⟨f,e⟩:=gK d
  refine⟨h3 x (by simp),f,e,?_⟩
  cases l with
  |nil=>unfold bW aR;omega
  |cons y l=>
   unfold iI at h2
   split at h2
   ·cases h2
   ·refine Hd (by unfold aR;omega) (fun z b=>h z (List.mem_cons_of_mem _ b)) h2 (fun z b=>?_)
    simp only[List.head?_cons,Option.mem_def,Option.some.injEq]at b
    subst b;omega
theorem cZ {l:List Plc}(h:RY l=0):l.length<=8/\(∀x∈l,aL x.m=0/\kE x=true)/\bW 0 l:=by
 obtain⟨f,e⟩:=Gy h
 obtain⟨d,b⟩:=TB f
 refine⟨d,b,Hd (by omega) b e (fun x a=>?_)⟩
 have c:x∈l:=by
  cases l with
  |nil=>simp at a
  |cons y l=>simp only[List.head?_cons,Option.mem_def,Option.some.injEq]at a;subst a;simp
 have:=(b x c).2
 simp only[kE,Bool.and_eq_true,decide_eq_true_eq]at this
 omega
theorem bW.adj :∀{l:List Plc}{a:Int},bW a l->iI l=0
 | [],_,_=>rfl
 | [_],_,_=>rfl
 |x::y::l,a,⟨_,_,_,h⟩=>by
  unfold iI
  rw[if_neg (by have:=h.1;omega)]
  exact bW.adj h
theorem TV {q:Plc->Bool}:∀{l:List Plc},(∀x∈l,aL x.m=0/\q x=true)->fU q l=0
 | [],_=>rfl
 |x::l,h=>by
  obtain⟨c,b⟩:=h x (by simp)
  unfold fU
  rw[if_neg (by omega),if_neg (by simp[b])]
  exact TV fun y a=>h y (List.mem_cons_of_mem _ a)
theorem OJ {l:List Plc}(c:l.length<=8)(b:∀x∈l,aL x.m=0/\kE x=true)(a:bW 0 l):RY l=0:=by
 have e:bY kE l=0:=by
  unfold bY
  rw[if_neg (by omega),TV b]
 unfold RY
 rw[if_neg (by omega)]
 exact a.adj
theorem bW.lower {l:List Plc}{a b:Int}(h:bW a l)(c:b<=a):bW b l:=by
 cases l with
 |nil=>exact Int.le_trans c h
 |cons x l=>exact⟨by have:=h.1;omega,h.2⟩
theorem bW.erase :∀{l:List Plc}{a:Int}(j:Nat),bW a l->bW a (l.eraseIdx j)
 | [],_,_,h=>by simpa using h
 |x::l,a,0,⟨h1,h2,_,h4⟩=>by
  simp only[List.eraseIdx_cons_zero]
  exact h4.lower (by unfold aR;omega)
 |x::l,a,j+1,⟨h1,h2,h3,h4⟩=>by
  simp only[List.eraseIdx_cons_succ]
  exact⟨h1,h2,h3,h4.erase j⟩
theorem vV {l:List Plc}(h:RY l=0)(j:Nat):RY (l.eraseIdx j)=0:=by
 obtain⟨d,c,b⟩:=cZ h
 refine OJ (by have:=List.length_eraseIdx_le l j;omega) (fun x a=>c x (List.mem_of_mem_eraseIdx a)) (b.erase j)
def jA (l:List Plc)(i:Nat):Bool:=l.any fun x=>decide (x.first<=i)&&decide ((i:Int)<aR x)
theorem wQ :∀{l:List Plc}{a:Int}{i:Nat},bW a l->(i:Int)<a->jA l i=false
 | [],_,_,_,_=>rfl
 |x::l,a,i,⟨h1,h2,h3,h4⟩,hi=>by
  have:=wQ (i:=i) h4 (by unfold aR;omega)
  unfold jA at this ⊢
  rw[List.any_cons,this]
  simp;omega
def bump (a:List Run):List Run:=match a.getLast? with
 |none=>a
 |some r=>a.dropLast++[⟨r.first,r.many+1⟩]
theorem yC (a:List Run)(r:Run):bump (a++[r])=a++[⟨r.first,r.many+1⟩]:=by
 unfold bump
 simp
def bF (u:Nat->Bool):Nat->List Run
 |0=>[]
 |i+1=>if u i=true then bF u i else if 0<i/\u (i -1)=false then bump (bF u i)else bF u i++[⟨i,1⟩]
theorem UM {u:Nat->Bool}:∀{i:Nat},0<i->u (i -1)=false->∃(a:List Run)(r:Run),bF u i=a++[r]/\0<=r.many/\r.many<=(i:Int)
 |i+1,_,h=>by
  simp only[Nat.add_sub_cancel]at h
  by_cases b:0<i/\u (i -1)=false
  ·obtain⟨a,r,e,c⟩:=UM b.1 b.2
   refine⟨a,⟨r.first,r.many+1⟩,?_,by simp;omega⟩
   rw[bF,if_neg (by simp[h]),if_pos b,e,yC]
  ·exact⟨bF u i,⟨i,1⟩,by rw[bF,if_neg (by simp[h]),if_neg b],by simp;omega⟩
theorem sK {u:Nat->Bool}{i:Nat}(h:u i=true):bF u (i+1)=bF u i:=by rw[bF,if_pos h]
theorem TZ {u:Nat->Bool}{i:Nat}(h:u i=false)(a:¬(0<i/\u (i -1)=false)):bF u (i+1)=bF u i++[⟨i,1⟩]:=by rw[bF,if_neg (by simp[h]),if_neg a]
theorem tT {u:Nat->Bool}{i:Nat}(h:u i=false)(a:0<i/\u (i -1)=false):bF u (i+1)=bump (bF u i):=by rw[bF,if_neg (by simp[h]),if_pos a]
theorem pO {u:Nat->Bool}{a:Nat}(c:a=0\/u (a -1)=true):∀(n:Nat),(∀i,a<=i->i<a+n->u i=false)->bF u (a+n)=bF u a++Rb a ((a:Int)+n)
 |0,_=>by simp[Rb]
 |n+1,h=>by
  have f:=pO c n (fun i b d=>h i b (by omega))
  have e:u (a+n)=false:=h _ (by omega) (by omega)
  rw[show a+(n+1)=a+n+1 by omega]
  by_cases g:n=0
  ·subst g
   have b:¬(0<a+0/\u (a+0 -1)=false):=by
    rintro⟨b,d⟩
    rcases c with c|c
    ·omega
    ·simp only[Nat.add_zero]at d;rw[c]at d;cases d
   rw[TZ e b]
   simp[Rb]
   rw[if_pos (by omega),show(a:Int)+1 -a=1 by omega]
  ·have b:0<a+n/\u (a+n -1)=false:=⟨by omega,h _ (by omega) (by omega)⟩
   rw[tT e b,f]
   unfold Rb
   rw[if_pos (by omega),if_pos (by omega),yC]
   simp;omega
theorem sN {u:Nat->Bool}{a:Nat}:∀(n:Nat),(∀i,a<=i->i<a+n->u i=true)->bF u (a+n)=bF u a
 |0,_=>rfl
 |n+1,h=>by
  rw[show a+(n+1)=a+n+1 by omega,sK (h _ (by omega) (by omega))]
  exact sN n fun i b c=>h i b (by omega)
theorem tX (u:Nat->Bool):∀(l:List Plc)(a:Nat),(∀i,a<=i->u i=jA l i)->(a=0\/u (a -1)=true)->bW a l->bF u 16=bF u a++dC a l
 | [],a,h,h0,hr=>by
  have y:(a:Int)<=16:=hr
  have:=pO h0 (16 -a) (fun i p w=>(h i p).trans rfl)
  rw[show a+(16 -a)=16 by omega]at this
  rw[this,dC]
  congr 2
  omega
 |x::l,a,h,h0,hr=>by
  have t:=hr.2.2.2.le
  obtain⟨p,w,z,o⟩:=hr
  obtain⟨b,n⟩:∃b:Nat,x.first=b:=⟨x.first.toNat,by omega⟩
  obtain⟨c,g⟩:∃c:Nat,aR x=c:=⟨(aR x).toNat,by unfold aR;omega⟩
  have v:b+aH x.m=c:=by rw[<-g,<-n];rfl
  have f:∀i:Nat,a<=i->u i=(decide (b<=i)&&decide (i<c) || jA l i):=fun i k=>by
   rw[h i k];unfold jA;rw[List.any_cons,n,g];simp
  have d:∀i:Nat,i<c->jA l i=false:=fun i k=>wQ o (by omega)
  have r:=pO h0 (b -a) (fun i e j=>by rw[f i e,d i (by omega)];simp;omega)
  rw[show a+(b -a)=b by omega]at r
  have q:=sN (u:=u) (a:=b) (c -b) (fun i e j=>by rw[f i (by omega)];simp;omega)
  rw[show b+(c -b)=c by omega]at q
  have s:=tX u l c (fun i k=>by rw[f i (by omega)];simp;omega) (.inr (by rw[f (c -1) (by omega)];simp;omega)) (by rw[<-g];exact o)
  rw[s,q,r,dC,g,n,List.append_assoc]
  congr 3
  omega
theorem zF {l:List Plc}(h:bW 0 l):bF (jA l) 16=RI l:=by
 have:=tX (jA l) l 0 (fun _ _=>rfl) (.inl rfl) h
 simpa[bF,RI]using this
def FE :Int->List Run->Prop
 |a,[]=>a<=17
 |a,r::l=>a<=r.first/\1<=r.many/\FE (r.first+r.many+1) l
theorem FE.lower {l:List Run}{a b:Int}(h:FE a l)(c:b<=a):FE b l:=by
 cases l with
 |nil=>exact Int.le_trans c h
 |cons x l=>exact⟨by have:=h.1;omega,h.2⟩
theorem FE.each :∀{l:List Run}{a:Int},FE a l->0<=a->∀j(h:j<l.length),1<=l[j].many/\a<=l[j].first/\l[j].first+l[j].many<=16/\(∀i,(b:i+1=j)->l[i].first+l[i].many<l[j].first)
 |r::l,a,⟨h1,h2,h3⟩,h0,0,_=>by
  refine⟨h2,h1,?_,fun i b=>by omega⟩
  simp only[List.getElem_cons_zero]
  cases l with
  |nil=>unfold FE at h3;omega
  |cons y l=>
   have:=FE.each h3 (by omega) 0 (by simp)
   simp only[List.getElem_cons_zero]at this
   omega
 |r::l,a,⟨h1,h2,h3⟩,h0,j+1,h=>by
  have:=FE.each h3 (by omega) j (by simpa using h)
  simp only[List.getElem_cons_succ]
  refine⟨this.1,by omega,this.2.2.1,fun i b=>?_⟩
  cases i with
  |zero=>obtain rfl:j=0:=by omega
         simp only[List.getElem_cons_zero];omega
  |succ i=>simp only[List.getElem_cons_succ];exact this.2.2.2 i (by omega)
def fM (many:Int)(l:List Run):Int:=match l.find? fun r=>decide (many<=r.many)with
 |none=> -1
 |some r=>r.first
end
section
set_option maxRecDepth 100000
open Go.RowKit Go.Shelf
attribute [local go_sem] Oper.semAt_some
theorem NW (n k:Int)(w:World):
  Calls Tryz.prog 264 #[.int .i64 k,.int .i64 n] w fun e a=>e=.returned (.func (.func 287) #[] #[.pointer (some ⟨w.heap.size,0,none⟩),.pointer (some ⟨w.heap.size+1,0,none⟩)])/\(w.alloc (.cells #[.int .i64 k] 3)).alloc (.cells #[.int .i64 n] 3)=a:=by
 go_enter Tryz.func264,Tryz.ntmps264
 go_wp2_with fail
 go_ret
 exact⟨rfl,rfl⟩
theorem Nw (m l f d:Nat)(n:Int)(k:Nat)(R:k<=4)(J:List UInt8->World->Prop)
  (p:∀a W v,J a W->J a (W.setCell ⟨d,0,none⟩ v)) (w:f≠d)
  (O:∀a x W,J a W->a.length<k->YieldAt Fence.wide (m -1) Tryz.prog l #[tN x] W fun e s=>
   e=.returned (.bool true)/\J (a++[x]) s/\s.heap[f]? =W.heap[f]?/\s.heap[d]? =W.heap[d]?)
  (W:World) (E:Boxed W f 3 (.int .i64 k)) (z:Boxed W d 3 (.int .i64 n)) (K:J [] W):
  CallsIn Fence.wide m Tryz.prog 287 #[.func (.yield l) #[] #[],.pointer (some ⟨f,0,none⟩),.pointer (some ⟨d,0,none⟩)] W fun e s=>(∃v,e=.returned v)/\J (digits n k) s:=by
 refine callsIn_of_wp Tryz.func287 rfl trivial ?_ rfl
 simp only[Tryz.ntmps287,List.size_toArray,GY8,List.length_nil,Nat.reduceAdd,Nat.reduceSub,Array.replicate_succ,Array.replicate_zero,List.push_toArray,List.append_toArray,List.nil_append,List.cons_append]
 have C:=E.cell
 have c:=z.cell
 gi_wp2
 gi_loopw [5] (fun i wr=>∃j:Nat,j<=k/\i=.int .i64 j/\Boxed wr f 3 (.int .i64 k)/\Boxed wr d 3 (.int .i64 (n / dV j))/\J (digits n j) wr) (fun i _=>k -(intOf i).toNat)
 case atStart=>exact⟨0,by omega,rfl,E,by simpa[dV]using z,K⟩
 case round=>
  obtain⟨j,S,rfl,B,g,I⟩:=hrel
  clear E z K C c
  by_cases A:j<k
  ·have c:=g.cell
   have q:=g.frozen
   obtain⟨x,t⟩:∃x:UInt8,x=UInt8.ofNat (n / dV j % 256).toNat:=⟨_,rfl⟩
   have o:tN x=.int .u8 (n / dV j % 256):=by
    rw[t,tN,ofNat_mod]
   have Q:=Hp (DU n j)
   have M:=Hp (Uv n j)
   rw[<-t]at M
   have U:=Hp t
   obtain⟨T,H,u,L,N,P⟩:=O (digits n j) x wr I (by rw[digits_length];exact A)
   rw[o]at N
   clear t o
   gi_wp2
   refine⟨fun h=>by simp[Fence.wide]at h,P.mono ?_⟩
   rintro e G ⟨rfl,F,D,y⟩
   have r:Boxed G f 3 (.int .i64 k):=D.trans B
   have b:Boxed G d 3 (.int .i64 (n / dV j)):=y.trans g
   clear c q
   have c:=b.cell
   have q:=b.frozen
   gi_wp2
   go_roundw
   case rel=>
    refine⟨j+1,by omega,by go_num,?_,?_,?_⟩
    ·exact(Below.heap_setCell G ⟨d,0,none⟩ _ f w).trans r
    ·have:=b.set (.int .i64 (n / dV (j+1)))
     rw[<-Q.out]at this ⊢
     exact this
    ·rw[M.out];exact p _ _ _ F
   case measure=>simp[intOf]<;>omega
  ·obtain rfl:j=k:=by omega
   gi_wp2
   go_end0
   exact⟨⟨_,rfl⟩,I⟩
theorem xL {α:Type}{P:Program}{n:Nat}{g:Operand}{O:Array Tmp}{assign body:Code}{Q:Exit->Act->World->Prop}{a:Act}{w:World}
  (h1:1<=n) {gf:Nat} {lb:Array Value} (hg:a.eval g=.func (.func gf) #[] lb) (eg:∀args w,(callFunc gf args).run P w=.ok (.enter gf args) w)
  (f:α->Array Value) (N:Nat) (xs:List α) (M u:Nat) (a8:M<w.heap.size) (a7:u<w.heap.size) (S:∀x,(f x).size=O.size)
  (A:∀(l:Nat)(J:List α->World->Prop)(W:World),Below w.heap.size w W->(∀b W v,J b W->J b (W.setCell ⟨u,0,none⟩ v))->
   (∀b x W,J b W->b.length<N->YieldAt Fence.wide (n -1 -1) P l (f x) W fun e r=>e=.returned (.bool true)/\J (b++[x]) r/\r.heap[M]? =W.heap[M]?/\r.heap[u]? =W.heap[u]?)->
   J [] W->CallsIn Fence.wide (n -1) P gf (#[.func (.yield l) #[] #[]]++lb) W fun e r=>(∃v,e=.returned v)/\J xs r)
  (I:List α->World->Prop) (E:∀b W v,I b W->I b (W.setCell ⟨u,0,none⟩ v)) (j:∀b W l o,I b W->w.heap.size<=l->(∃R,W.heap[l]? =some R/\R.isCells=false)->I b (W.putObj l o))
  (a4:∀o R,I [] ((w.alloc o).alloc R)) (a₁:α->Act)
  (m:∀(l:Nat)(x:α)(W:World)(K:Act->World->Prop),K (a₁ x) W->
   assign.wpIn (Fence.wide.inRound l) (n -1 -1) P (Exit.then K (fun _ _ _=>False)) {tmps:=(O.zip (f x)).foldl (fun t(p,v)=>t.setIfInBounds p v) a.tmps,defers:=[]} W)
  (C:∀(l:Nat)(b:List α)(x:α)(W:World),I b W->b.length<N->body.wpIn (Fence.wide.inRound l) (n -1 -1) P
   (fun e _ r=>e=.normal/\I (b++[x]) r/\KeepsOthers W r/\r.heap[M]? =W.heap[M]?/\r.heap[u]? =W.heap[u]?) (a₁ x) W)
  (B:∀(D:Nat)(W:World),w.heap.size<=D->I xs W->W.heap[D]? =some (.deferred (some []))->Q .normal {a with defers:={target:=.collected D,args:=#[]}::a.defers} W):
  (Code.rangeFunc g O assign body).wpIn Fence.wide n P Q a w:=by
 refine wpIn_rangeFunc ?_
 intro fn a0
 obtain⟨d,c⟩:∃d:LoopState->Loop,d=fun st=>{state:=st,pending:=none,fn,tmps:=a.tmps,params:=O,assign,body,defers:=w.heap.size}:=⟨_,rfl⟩
 obtain⟨s,q⟩:∃s,(w.alloc (.deferred (some []))).alloc (.loop (d .ready))=s:=⟨_,rfl⟩
 have a5:s.heap[w.heap.size+1]? =some (.loop (d .ready)):=by
  rw[<-q];have:=World.alloc_heap_new (w.alloc (.deferred (some []))) (.loop (d .ready));rwa [World.size_alloc]at this
 have a6:s.heap[w.heap.size]? =some (.deferred (some [])):=by
  rw[<-q];exact(Below.heap_alloc _ _ _ (by simp)).trans (World.alloc_heap_new w _)
 have a2:Below w.heap.size w s:=by rw[<-q];exact((GZ4 _ w).alloc (GZ3 _) _).alloc (by simp) _
 refine⟨w.heap.size+1,[{target:=.collected w.heap.size,args:=#[]}],s,{target:=.fn (.func gf) lb,args:=#[.func (.yield (w.heap.size+1)) #[] #[]]},s,gf,
  #[.func (.yield (w.heap.size+1)) #[] #[]]++lb,s,?_,?_,fun _ _=>trivial,?_,fun _=>h1,?_⟩
 ·rw[<-q,c];exact run_enterLoop_outer _ _ _ _ _
 ·simp only[resolve,hg]
  simp[go_sem]
 ·simp[invoke,go_sem,eg]
 ·have i:∀(W:World)(k:Nat)(o:Obj)(v:Value),W.heap[k]? =some o->o.isCells=false->(W.setCell ⟨u,0,none⟩ v).heap[k]? =some o:=
   fun W k o v L ho=>(KeepsOthers.setCell W ⟨u,0,none⟩ v).same k o L ho
  refine(A (w.heap.size+1) (fun b W=>I b W/\W.heap[w.heap.size+1]? =some (.loop (d .ready))/\W.heap[w.heap.size]? =some (.deferred (some []))) s a2
   (fun b W v h=>⟨E b W v h.1,i _ _ _ _ h.2.1 rfl,i _ _ _ _ h.2.2 rfl⟩) ?_ ⟨by rw[<-q];exact a4 _ _,a5,a6⟩).mono ?_
  ·rintro b x W ⟨hi,z,L⟩ G
   have U:w.heap.size+1<W.heap.size:=(ZL z)
   have hy:=run_yield (P:=P) (args:=f x) z (by rw[c];exact S x)
   rw[c]at hy
   refine⟨fn,_,assign,body,hy,roundIn_of_wpIn a0 (m _ x W _ ⟨_,run_beginRound z (by rw[c]),?_⟩)⟩
   have V:(W.putObj (w.heap.size+1) (.loop {d .ready with state:=.busy})).heap[w.heap.size+1]? =some (.loop {d .ready with state:=.busy}):=World.putObj_heap_same U
   have Y:(W.putObj (w.heap.size+1) (.loop {d .ready with state:=.busy})).heap[w.heap.size]? =some (.deferred (some [])):=(World.putObj_heap_other (by omega)).trans L
   refine wpIn_mono (C _ b x _ (j _ _ _ _ hi (by omega) ⟨_,z,rfl⟩) G) ?_
   rintro e a3 W3 ⟨rfl,Z,H,a1,T⟩
   have y:=H.same _ _ V rfl
   have X:=H.same _ _ Y rfl
   have F:w.heap.size+1<W3.heap.size:=(ZL y)
   refine⟨_,_,run_endRound (P:=P) none y,rfl,⟨j _ _ _ _ Z (by omega) ⟨_,y,rfl⟩,?_,(World.putObj_heap_other (by omega)).trans X⟩,?_,?_⟩
   ·rw[World.putObj_heap_same F];rw[c];rfl
   ·rw[World.putObj_heap_other (by omega),a1,World.putObj_heap_other (by omega)]
   ·rw[World.putObj_heap_other (by omega),T,World.putObj_heap_other (by omega)]
  ·rintro e W2 ⟨⟨v,rfl⟩,hi,z,L⟩
   exact⟨none,_,by have:=run_endLoop (P:=P) z (by rw[c];simp);rw[c]at this;exact this,B _ _ (GZ3 _) (j _ _ _ _ hi (by omega) ⟨_,z,rfl⟩) ((World.putObj_heap_other (by omega)).trans L)⟩
theorem Tryz.QT :(Tryz.prog.info? 5).map (fun i=>(i.zero,i.size,i.bytes))=some (some (.int .u8 0),1,1):=by kernel_rfl
theorem Dt (n:Int)(k:Nat)(w:World)(V:k<=4):
  Calls Tryz.prog 240 #[.int .i64 n,.int .i64 k] w fun e S=>e=.returned (.string ⟨(digits n k).toArray⟩)/\Below w.heap.size w S:=by
 refine(callsIn_wide (n:=3)).1 ?_
 obtain⟨Z,hi,G,F,E⟩:=info_parts Tryz.QT
 refine callsIn_of_wp_marks Tryz.func240 rfl trivial ?_ rfl
 simp only[Tryz.ntmps240,List.size_toArray,GY8,List.length_nil,Nat.reduceAdd,Nat.reduceSub,Array.replicate_succ,Array.replicate_zero,List.push_toArray,List.append_toArray,List.nil_append,List.cons_append]
 gi_wp2
 refine⟨trivial,(callsIn_wide.2 (NW _ _ _)).mono ?_⟩
 rintro e S ⟨rfl,rfl⟩
 gi_wp2
 have bO:=((Boxed.new w 135 (.slice none 0 0)).alloc (.cells #[.int .i64 k] 3)).alloc (.cells #[.int .i64 n] 3)
 have Q:=(Boxed.new (w.alloc (.cells #[.slice none 0 0] 135)) 3 (.int .i64 k)).alloc (.cells #[.int .i64 n] 3)
 have P:=Boxed.new ((w.alloc (.cells #[.slice none 0 0] 135)).alloc (.cells #[.int .i64 k] 3)) 3 (.int .i64 n)
 simp only[World.size_alloc]at Q P
 have O:Below w.heap.size w (((w.alloc (.cells #[.slice none 0 0] 135)).alloc (.cells #[.int .i64 k] 3)).alloc (.cells #[.int .i64 n] 3)):=(((GZ4 _ w).alloc (GZ3 _) _).alloc (by simp) _).alloc (by simp;omega) _
 refine xL (α:=UInt8) (by omega) (gf:=287) (lb:=#[.pointer (some ⟨w.heap.size+1,0,none⟩),.pointer (some ⟨w.heap.size+1+1,0,none⟩)]) rfl (enters_of Tryz.func287 (by kernel_rfl) rfl)
  (fun x=>#[tN x]) k (digits n k) (w.heap.size+1) (w.heap.size+1+1) (by simp) (by simp) (fun _=>rfl)
  (fun l J W X hJ hY h0=>Nw _ l _ _ n k V J hJ (by omega) hY W ((X.block _ (by simp)).trans Q) ((X.block _ (by simp)).trans P) h0)
  (fun f W=>(∃v,Boxed W w.heap.size 135 v/\W.ownsRow w.heap.size 5 1 v f.length (f.map tN))/\(∃u,Boxed W (w.heap.size+1) 3 u)/\(∃u,Boxed W (w.heap.size+1+1) 3 u)/\Below w.heap.size w W) ?hset ?hput ?hal
  (fun x=>{tmps:=#[.int .i64 n,.int .i64 k,undef,undef,.string ⟨#[]⟩,.pointer (some ⟨w.heap.size,0,none⟩),tN x,.int .i64 k,.int .i64 n,.func (.func 287) #[] #[.pointer (some ⟨w.heap.size+1,0,none⟩),.pointer (some ⟨w.heap.size+1+1,0,none⟩)],tN x,undef,undef,undef,undef,undef,undef],defers:=[]}) ?hassign ?hbody ?hdone
 case hset=>
  rintro f W v ⟨⟨u,z,A⟩,⟨s,d⟩,⟨C,c⟩,N⟩
  exact⟨⟨u,z.kept (grownBy_setCell' W _ v) (by simp;omega),A.kept (grownBy_setCell' W _ v) (.inr (c.not_row (by decide) A).symm)⟩,⟨s,d.kept (grownBy_setCell' W _ v) (by simp)⟩,⟨v,c.set v⟩,N.setCell (by simp;omega) _⟩
 case hput=>
  rintro f W l o ⟨⟨u,z,A⟩,⟨s,d⟩,⟨C,c⟩,N⟩ hl ⟨m,j,q⟩
  have ne:∀{b t v},Boxed W b t v->some b≠some l:=by
   intro b t v L e
   cases e
   rw[show W.heap[l]? =_ from L]at j;cases j;cases q
  exact⟨⟨u,z.kept (grownBy_putObj' W l o) (ne z),ownsRow_putObj A _ j q⟩,⟨s,d.kept (grownBy_putObj' W l o) (ne d)⟩,⟨C,c.kept (grownBy_putObj' W l o) (ne c)⟩,
   N.trans ⟨rfl,rfl,rfl,by simp,fun k V=>World.putObj_heap_other (by simp at hl;omega)⟩⟩
 case hal=>
  intro o m
  exact⟨⟨_,(bO.alloc o).alloc m,World.ownsRow_nil _ _ _ _⟩,⟨_,(Q.alloc o).alloc m⟩,⟨_,(P.alloc o).alloc m⟩,(O.alloc (by simp;omega) o).alloc (by simp;omega) m⟩
 case hassign=>
  intro l x W K B
  gi_wp2
  exact B
 case hbody=>
  rintro l f x W ⟨⟨v,y,a⟩,⟨s,d⟩,⟨C,c⟩,r⟩ a0
  have hc:=y.cell
  gi_wp2_with (gi_at_builtin;refine wpListIn_append_own _ rfl _ _ 135 rfl w.heap.size 5 Z (.int .u8 0) 1 1 Tryz.underlying135 hi G F E rfl (by decide) _ _ _ rfl (a.alloc _) ⟨W.heap.size,0,none⟩ 1 1 [tN x] rfl rfl (cell_one_new _ _ _) (by simp[Value.oneCell']) (by simp only[maxLen];omega) (by omega) (by have:=r.size;simp;omega) ?_;intro v' R h g _;obtain⟨Y,i,rfl⟩:=ownsRow_succ h;obtain⟨p,H,I,a1,M⟩:=y.appended (by decide) a r.size (GZ3 _) h g;have a4:=p.cell;have a2:=p.frozen)
  have U:=((d.alloc _).kept g (d.not_row (by decide) a)).kept (grownBy_setCell' R w.heap.size (.slice (some ⟨Y,0,none⟩) (f.length+1) i)) (by simp)
  have T:=((c.alloc _).kept g (c.not_row (by decide) a)).kept (grownBy_setCell' R w.heap.size (.slice (some ⟨Y,0,none⟩) (f.length+1) i)) (by simp;omega)
  exact⟨⟨⟨_,H,by simpa using I⟩,⟨_,U⟩,⟨_,T⟩,r.trans M⟩,U.trans d.symm,T.trans c.symm⟩
 case hdone=>
  rintro D W hD ⟨⟨v,y,a⟩,_,_,r⟩ B
  have hc:=y.cell
  have a3:=BN Tryz.underlying135 Tryz.underlying5 Tryz.underlying9 a
  gi_wp2
  refine⟨by simp,.inl ⟨_,_,rfl,run_takeDeferred B,?_⟩⟩
  exact⟨_,results_tmp rfl _ _ _,rfl,r.trans (belowK_b (w:=w) (GZ3 _) W D _ _ (by simp at hD;omega) B rfl rfl)⟩
end
section
open Go.RowKit
def putStr (s:ByteArray)(a k:Nat)(n:Int):ByteArray:=⟨(s.data.toList.take a++digits n k++s.data.toList.drop (a+k)).toArray⟩
theorem QI (s:ByteArray)(a k:Nat)(n:Int)(w:World)(l:s.size<=140737488351232)(g:eQ s.size a k=0):
  Calls Tryz.prog 255 #[.string s,.int .i64 a,.int .i64 k,.int .i64 n] w fun e b=>e=.returned (.tuple #[.string (putStr s a k n),.int .i64 0])/\Below w.heap.size w b:=by
 obtain⟨y,x,v,u,t⟩:=mG g
 go_enter Tryz.func255,Tryz.ntmps255
 go_wp2_with (first|(go_at_call 241;refine(xN _ _ _ _ l).mono ?_;rintro e b ⟨rfl,rfl⟩))
 have j:IntKind.i64.wrap ((a:Int)+k)=(a:Int)+k:=IntWalk.i64_in _ (by omega)
 have i:(0:Int)<=(a:Int)+k:=by omega
 have h:((a:Int)+k).toNat=a+k:=by omega
 have r:(a:Int)+k<=s.size:=by omega
 have f:(s.extract 0 a).size<=s.size:=by rw[ByteArray.size_extract];omega
 have d:(s.extract (a+k) s.size).size<=s.size:=by rw[ByteArray.size_extract];omega
 have c:(ByteArray.mk (digits n k).toArray).size=k:=by simp[ByteArray.size,digits_length]
 have p:∀W,(Op.stringOp .add (s.extract 0 a) ⟨(digits n k).toArray⟩).run Tryz.prog W=.ok (.string (s.extract 0 a++⟨(digits n k).toArray⟩)) W:=fun W=>run_string_add_sum _ _ _ (by omega)
 have o:∀W,(Op.stringOp .add (s.extract 0 a++⟨(digits n k).toArray⟩) (s.extract (a+k) s.size)).run Tryz.prog W=.ok (.string (s.extract 0 a++⟨(digits n k).toArray⟩++s.extract (a+k) s.size)) W:=fun W=>run_string_add_sum _ _ _ (by rw[ByteArray.size_append];omega)
 clear f d c
 go_region_held3 (fun b=>Below w.heap.size w b) (first|exact GZ4 _ _|exact Below.drew (GZ4 _ _)|exact kS (by assumption) (by assumption)|exact Below.drew (by assumption)|assumption)
  (first|(go_at_call 240;refine(Dt _ _ _ (by omega)).mono ?_;rintro e q ⟨rfl,m⟩))
 clear p o j i h
 go_wp2_with fail
 go_ret2
 refine⟨M8 (ba_eq ?_) rfl,by assumption⟩
 rw[dY,dY,Lib.extract_to_end,Lib.extract_data]
 simp[putStr]
theorem iF (n:Int)(k:Nat)(w:World)(m:k<=4):
  Calls Tryz.prog 143 #[.int .i64 n,.int .i64 k] w fun e d=>e=.returned (.string ⟨(digits n k).toArray⟩)/\Below w.heap.size w d:=by
 go_enter Tryz.func143,Tryz.ntmps143
 go_wp2_with (first|(go_at_call 205;refine(OD _ _ (by omega)).mono ?_;rintro e d ⟨rfl,rfl⟩)|(go_at_call 204;refine(SH _ _ _ (nA _) (Em _ (by omega))).mono ?_;rintro e d ⟨rfl,rfl⟩))
 obtain⟨N,c⟩:=Nm (n % dV k)
 have b:0<=N:=by rw[c];exact Int.emod_nonneg _ (by have:=nA k;omega)
 have f:N<=4294967296:=by
  have y:=Int.emod_lt_of_pos n (show 0<dV k by have:=nA k;omega)
  have x:=Em k m
  omega
 have r:=Hp (show digits N k=digits n k by rw[c,I6])
 rw[<-c]
 clear c
 go_loopw [5,0,6] (fun s v i wr=>∃j:Nat,j<=k/\i=.int .i64 j/\s=.string ⟨(digits N j).toArray⟩/\v=.int .i64 (N / dV j)/\Below w.heap.size w wr) (fun _ _ i _=>k -(intOf i).toNat)
 case atStart=>exact⟨0,by omega,by go_num,rfl,by simp[dV],GZ4 _ _⟩
 case round=>
  obtain⟨j,u,rfl,rfl,rfl,a⟩:=hrel
  by_cases l:j<k
  ·have h:0<=N / dV j:=Int.ediv_nonneg b (by have:=nA j;omega)
   have g:N / dV j<=4294967296:=Int.le_trans (Int.ediv_le_self _ b) f
   have q:=Hp (DU N j)
   have t:=Hp (Uv N j)
   have o:=IB (P:=Tryz.prog) Tryz.underlying135 Tryz.underlying5 Tryz.underlying9
   have p:∀W,(Op.stringOp .add ⟨(digits N j).toArray⟩ ⟨#[UInt8.ofNat (N / dV j % 256).toNat]⟩).run Tryz.prog W=.ok (.string ⟨(digits N j++[UInt8.ofNat (N / dV j % 256).toNat]).toArray⟩) W:=fun W=>by
    rw[run_string_add_sum _ _ _ (by simp[ByteArray.size,digits_length];omega)]
    congr 2;try exact ba_eq (by simp[dY])
   go_wp2_with fail
   go_roundw
   case rel=>
    refine⟨j+1,by omega,by go_num,by rw[t.out],by rw[<-q.out],a.alloc a.size _⟩
   case measure=>(simp[intOf];try omega)
  ·obtain rfl:j=k:=by omega
   go_wp2_with fail
   go_ret
   exact⟨by simp[r.out],a⟩
theorem Fy (s:ByteArray)(a k:Nat)(n:Int)(h:a+k<=s.size):(putStr s a k n).size=s.size:=by
 have e:(putStr s a k n).size=(s.data.toList.take a++digits n k++s.data.toList.drop (a+k)).length:=by unfold putStr;rfl
 have b:s.data.toList.length=s.size:=rfl
 rw[e,GZ8,GZ8,digits_length,GY6,List.length_drop];omega
end
section
open Go.RowKit
def bS (s:ByteArray)(a at_ d c b:Int):ByteArray:=
 if RO s.size a at_ d c b=0 then putStr s at_.toNat (aK a).toNat (bD a c d (b+at_))else⟨#[]⟩
theorem Oq (s:ByteArray)(a k n:Int)(w:World)(g:s.size<=140737488351232)(b:eQ s.size a k=0):
  Calls Tryz.prog 255 #[.string s,.int .i64 a,.int .i64 k,.int .i64 n] w fun e f=>e=.returned (.tuple #[.string (putStr s a.toNat k.toNat n),.int .i64 0])/\Below w.heap.size w f:=by
 obtain⟨m,l,j,i,h⟩:=mG b
 have d:((a.toNat:Nat):Int)=a:=by omega
 have c:((k.toNat:Nat):Int)=k:=by omega
 have:=QI s a.toNat k.toNat n w g (by rw[d,c];exact b)
 rwa [d,c]at this
theorem xO (k:Int)(h:aK k≠0):2<=aK k/\aK k<=4:=by rcases Rf k with⟨_,h⟩|⟨_,h⟩|⟨_,h⟩|⟨_,h⟩|⟨_,h⟩|⟨_,h⟩<;>omega
theorem LZ (s:ByteArray)(a at_ y c d b:Int)(w:World)(G:s.size<=140737488351232):
  Calls Tryz.prog 223 #[.string s,.agg #[.int .i64 a,.int .i64 at_,.int .i64 y,.int .i64 c],.int .i64 d,.int .i64 b] w fun e D=>
   e=.returned (.tuple #[.string (bS s a at_ c d b),.int .i64 (RO s.size a at_ c d b)])/\Below w.heap.size w D:=by
 by_cases r:aK a=0
 ·have i:RO s.size a at_ c d b=7:=by unfold RO;rw[if_pos r]
  have j:bS s a at_ c d b=⟨#[]⟩:=by unfold bS;rw[i,if_neg (by omega)]
  rw[i,j]
  clear i j
  go_enter Tryz.func223,Tryz.ntmps223
  go_wp2_with (first|(go_at_call 235;(with_reducible refine(gP _ _).mono ?_);rintro e k ⟨rfl,f⟩;obtain⟨o,n⟩:=aJ f;have l:w.heap.size<k.heap.size:=by have:=f.size;(try simp at this);omega))
  all_goals(go_ret2;exact⟨by simp,((ZB).trans (f.mono (by simp)))⟩)
 ·obtain⟨S,R⟩:=xO a r
  have J:(aK a==0)=false:=by simp[r]
  by_cases t:c<0\/65535<c\/at_<0\/(s.size:Int) -aK a<at_\/b<0\/65279<b
  ·have i:RO s.size a at_ c d b=3:=by unfold RO;rw[if_neg r,if_pos t]
   have j:bS s a at_ c d b=⟨#[]⟩:=by unfold bS;rw[i,if_neg (by omega)]
   rw[i,j]
   clear i j
   go_enter Tryz.func223,Tryz.ntmps223
   go_wp2_with (first|(go_at_call 235;(with_reducible refine(gP _ _).mono ?_);rintro e k ⟨rfl,f⟩;obtain⟨o,n⟩:=aJ f;have l:w.heap.size<k.heap.size:=by have:=f.size;(try simp at this);omega))
   all_goals(go_ret2;exact⟨by simp,((ZB).trans (f.mono (by simp)))⟩)
  ·have x:0<=c/\c<=65535/\0<=at_/\at_<=(s.size:Int) -aK a/\0<=b/\b<=65279:=by omega
   obtain⟨Q,P,O,N,M,L⟩:=x
   have i:RO s.size a at_ c d b=RN a d c (b+at_):=by unfold RO;rw[if_neg r,if_neg t]
   by_cases m:RN a d c (b+at_)=0
   ·have j:bS s a at_ c d b=putStr s at_.toNat (aK a).toNat (bD a d c (b+at_)):=by unfold bS;rw[i,if_pos m]
    rw[i,j,m]
    have q:eQ s.size at_ (aK a)=0:=pU (by omega) (by omega) (by omega) (by omega)
    have B:=Hp (fun W=>(Cr a d c (b+at_) W).mono (fun _ _ h=>(⟨h.1.trans (Tu rfl m),h.2⟩:_=Ending.returned (.tuple #[.int .i64 (bD a d c (b+at_)),.int .i64 0])/\_)))
    have K:=Hp (fun W=>Oq s at_ (aK a) (bD a d c (b+at_)) W G q)
    clear i j t m q
    go_enter Tryz.func223,Tryz.ntmps223
    go_wp2_with (first|(go_at_call 235;(with_reducible refine(gP _ _).mono ?_);rintro e k ⟨rfl,f⟩;obtain⟨o,n⟩:=aJ f;have l:w.heap.size<k.heap.size:=by have:=f.size;(try simp at this);omega)|(go_at_call 254;(with_reducible refine(B.out _).mono ?_);rintro e u ⟨rfl,g⟩;obtain⟨A,z⟩:=aJ g;have v:w.heap.size<u.heap.size:=by have:=g.size;(try simp at this);omega)|(go_at_call 255;(with_reducible refine(K.out _).mono ?_);rintro e C ⟨rfl,p⟩;obtain⟨I,H⟩:=aJ p;have E:w.heap.size<C.heap.size:=by have:=p.size;(try simp at this);omega))
    all_goals(go_ret2;exact⟨by simp,((ZB).trans ((kS f (kS g p)).mono (by simp)))⟩)
   ·have j:bS s a at_ c d b=⟨#[]⟩:=by unfold bS;rw[i,if_neg m]
    rw[i,j]
    have F:(RN a d c (b+at_) != 0)=true:=by simp[m]
    have B:=Hp (fun W=>Cr a d c (b+at_) W)
    clear i j t m
    go_enter Tryz.func223,Tryz.ntmps223
    go_wp2_with (first|(go_at_call 235;(with_reducible refine(gP _ _).mono ?_);rintro e k ⟨rfl,f⟩;obtain⟨o,n⟩:=aJ f;have l:w.heap.size<k.heap.size:=by have:=f.size;(try simp at this);omega)|(go_at_call 254;(with_reducible refine(B.out _).mono ?_);rintro e u ⟨rfl,g⟩;obtain⟨A,z⟩:=aJ g;have v:w.heap.size<u.heap.size:=by have:=g.size;(try simp at this);omega))
    all_goals(go_ret2;exact⟨by simp,((ZB).trans ((kS f g).mono (by simp)))⟩)
theorem IQ (s:ByteArray)(b at_ y d f c:Int)(w:World)(L:s.size<=140737488351232):
  Calls Tryz.prog 231 #[.string s,.agg #[.int .i64 b,.int .i64 at_,.int .i64 y,.int .i64 d],.int .i64 f,.int .i64 c] w fun e g=>
   e=.returned (.tuple #[.string (bS s b at_ d f c),.int .i64 (RO s.size b at_ d f c)])/\Below w.heap.size w g:=by
 have x:Below w.heap.size w (w.alloc (.cells #[.int .i64 b,.int .i64 at_,.int .i64 y,.int .i64 d] 180)):=ZB
 have A:=Hp x
 clear x
 by_cases z:aK b=0
 ·have j:RO s.size b at_ d f c=7:=by unfold RO;rw[if_pos z]
  have l:bS s b at_ d f c=⟨#[]⟩:=by unfold bS;rw[j,if_neg (by omega)]
  rw[j,l]
  clear j l
  go_enter Tryz.func231,Tryz.ntmps231
  go_wp2_with (first|(go_at_call 179;(with_reducible refine(gL _ _).mono ?_);rintro e g ⟨rfl,rfl⟩))
  all_goals(go_ret2;exact⟨by simp,A.out⟩)
 ·obtain⟨g1,g2⟩:=xO b z
  have Q:(aK b==0)=false:=by simp[z]
  by_cases t:d<0\/65535<d\/at_<0\/(s.size:Int) -aK b<at_\/c<0\/65279<c
  ·have j:RO s.size b at_ d f c=3:=by unfold RO;rw[if_neg z,if_pos t]
   have l:bS s b at_ d f c=⟨#[]⟩:=by unfold bS;rw[j,if_neg (by omega)]
   rw[j,l]
   have q:(d<0\/65535<d)\/(0<=d/\d<=65535/\(at_<0\/(s.size:Int) -aK b<at_))\/(0<=d/\d<=65535/\0<=at_/\at_<=(s.size:Int) -aK b/\(c<0\/65279<c)):=by omega
   clear j l t
   rcases q with(q|q)|⟨J,I,q|q⟩|⟨J,I,k3,k4,q|q⟩
   all_goals
    go_enter Tryz.func231,Tryz.ntmps231
    go_wp2_with (first|(go_at_call 179;(with_reducible refine(gL _ _).mono ?_);rintro e g ⟨rfl,rfl⟩)|(go_at_call 75;(with_reducible refine(bK _ _ _ _ ?_ ?_).mono ?_);(focus (first|omega|assumption));(focus (first|omega|assumption));rintro e g ⟨rfl,rfl⟩)|(go_at_call 75;(with_reducible refine(RQ _ _ _ _ ?_).mono ?_);(focus (first|omega|assumption));rintro e g ⟨rfl,rfl⟩)|(go_at_call 75;(with_reducible refine(bE _ _ _ _).mono ?_);rintro e g ⟨rfl,rfl⟩))
    go_ret2
    exact⟨by simp,A.out⟩
  ·have C:0<=d/\d<=65535/\0<=at_/\at_<=(s.size:Int) -aK b/\0<=c/\c<=65279:=by omega
   obtain⟨Z,Y,H,G,X,V⟩:=C
   have j:RO s.size b at_ d f c=RN b f d (c+at_):=by unfold RO;rw[if_neg z,if_neg t]
   by_cases p:RN b f d (c+at_)=0
   ·have l:bS s b at_ d f c=putStr s at_.toNat (aK b).toNat (bD b f d (c+at_)):=by unfold bS;rw[j,if_pos p]
    rw[j,l,p]
    obtain⟨v,o⟩:=Nm (bD b f d (c+at_))
    rw[<-o]
    have E:=Hp (fun W=>(yY b f d (c+at_) W).mono (fun _ _ h=>(⟨h.1.trans (Tu o.symm p),h.2⟩:_=Ending.returned (.tuple #[.int .i64 v,.int .i64 0])/\_)))
    clear j l t p o
    go_enter Tryz.func231,Tryz.ntmps231
    go_wp2_with (first|(go_at_call 179;(with_reducible refine(gL _ _).mono ?_);rintro e g ⟨rfl,rfl⟩)|(go_at_call 75;(with_reducible refine(bK _ _ _ _ ?_ ?_).mono ?_);(focus (first|omega|assumption));(focus (first|omega|assumption));rintro e g ⟨rfl,rfl⟩)|(go_at_call 75;(with_reducible refine(RQ _ _ _ _ ?_).mono ?_);(focus (first|omega|assumption));rintro e g ⟨rfl,rfl⟩)|(go_at_call 75;(with_reducible refine(bE _ _ _ _).mono ?_);rintro e g ⟨rfl,rfl⟩)|(go_at_call 259;(with_reducible refine(E.out _).mono ?_);rintro e n ⟨rfl,i⟩;obtain⟨u,D⟩:=aJ i;have B:w.heap.size<n.heap.size:=by have:=i.size;(try simp at this);omega))
    obtain⟨a,O⟩:=Int.eq_ofNat_of_zero_le H
    obtain⟨k,F⟩:=Int.eq_ofNat_of_zero_le (show 0<=aK b by omega)
    subst O
    have M:k<=4:=by omega
    have R:=Hp (show(aK b).toNat=k by omega)
    have U:(a:Int)<=s.size:=by omega
    rw[F]at G ⊢
    clear F
    obtain⟨f1,f2,f3,f4,f5,f6⟩:=Ec (P:=Tryz.prog) s ⟨(digits v k).toArray⟩ a k L (by simp[ByteArray.size,digits_length];omega) (by omega)
    have S:=Hp ((Ls s a k (digits v k)).trans (rfl:_=putStr s a k v))
    have m:n.cell? ⟨w.heap.size,1,none⟩=some (.int .i64 a):=by rw[u _ _ (by simp)];exact(cell_of_row _ _ _ _ _ _ (heap_alloc_new w _)).trans rfl
    have r:w.heap.size<n.heap.size:=by omega
    go_region_held3 (fun g=>Below n.heap.size n g/\g.cell? ⟨w.heap.size,1,none⟩=some (.int .i64 a)) (first|exact⟨GZ4 _ _,m⟩|exact Cz ⟨GZ4 _ _,m⟩|exact Lm r (by assumption) (by assumption)|exact Cz (by assumption)|assumption)
     (first|(go_at_call 143;refine(iF _ _ _ (by omega)).mono ?_;rintro e T ⟨rfl,N⟩))
    rw[S.out]
    go_wp2_with fail
    go_ret2
    exact⟨by simp[R.out],(A.trans ((kS i (And.left (by assumption))).mono (by simp)))⟩
   ·have l:bS s b at_ d f c=⟨#[]⟩:=by unfold bS;rw[j,if_neg p]
    rw[j,l]
    have K:(RN b f d (c+at_) != 0)=true:=by simp[p]
    have E:=Hp (fun W=>yY b f d (c+at_) W)
    clear j l t p
    go_enter Tryz.func231,Tryz.ntmps231
    go_wp2_with (first|(go_at_call 179;(with_reducible refine(gL _ _).mono ?_);rintro e g ⟨rfl,rfl⟩)|(go_at_call 75;(with_reducible refine(bK _ _ _ _ ?_ ?_).mono ?_);(focus (first|omega|assumption));(focus (first|omega|assumption));rintro e g ⟨rfl,rfl⟩)|(go_at_call 75;(with_reducible refine(RQ _ _ _ _ ?_).mono ?_);(focus (first|omega|assumption));rintro e g ⟨rfl,rfl⟩)|(go_at_call 75;(with_reducible refine(bE _ _ _ _).mono ?_);rintro e g ⟨rfl,rfl⟩)|(go_at_call 259;(with_reducible refine(E.out _).mono ?_);rintro e n ⟨rfl,i⟩;obtain⟨u,D⟩:=aJ i;have B:w.heap.size<n.heap.size:=by have:=i.size;(try simp at this);omega))
    all_goals(go_ret2;exact⟨by simp,A.trans (i.mono (by simp))⟩)
end
end Go.Proofs.YtjiedaialianmaaGreat
