import Derived.Test.YtjiedaialianmaaGreatRows
import Derived.WalkSpells
import Derived.WalkLawsBesides
import Derived.Handy
import Derived.Lib.Hide
import Derived.BigQuiet
import Derived.Deep.RegionHeld3
import Derived.Lib.IndexBytes
import Derived.Lib.SmallJoins
import Derived.Test.YtjiedaialianmaaGreatKTiny
namespace Go.Proofs.YtjiedaialianmaaGreat
section
open Go.ChangeShapes Go.WideShapes Go.ChangeAt Go.RowKit
theorem Tryz.own :ownKnob Tryz.prog.godebug=none:=by kernel_rfl
theorem Tryz.laidOut :laidOutB Tryz.prog=true:=by kernel_rfl
section
variable {H:Type} {enc:TypeId×Value->H} {P:Program}
theorem sU (j:laidOutB P=true){W l:World}(k:Below W.heap.size W l):∀{f:List TypeId}{e:List Value}{g:List (DataW H)}{a:List MemPlace},
  (∀t∈f,P.readableRec t=true/\t<P.types.size)->DataW.TrodAll enc P W 0 (fun _=>true) true f e g a->(∀x∈a,x.block<W.heap.size)->
  DataW.TrodAll enc P l 0 (fun b=>decide (b<W.heap.size)) true f e g a
 | [],e,g,a,_,h,_=>by
  obtain⟨rfl,rfl,rfl⟩:=trodAll_nil h
  exact trodAll_mk0
 |t::f,e,g,a,hr,h,hlt=>by
  obtain⟨v,m,d,s,p,q,rfl,rfl,rfl,r,n⟩:=trodAll_cons h
  have c:=hr t (by simp)
  exact trodAll_cons_mk (Below.trod j c.1 c.2 r k (fun x i=>hlt x (by simp[i]))) (sU j k (fun t o=>hr t (by simp[o])) n (fun x i=>hlt x (by simp[i])))
theorem nZ {f:Func}{s:ChangeSpec}{W n:World}{c:Array Value}{d e:List (DataW H)}{a:List MemPlace}{k:TypeId}
  (w:laidOutB P=true) (j:DataW.Whole enc P f.params.toList s.vars false W c.toList d e a) (l:s.vars=[]) (r:∀t∈f.params.toList,P.readableRec t=true/\t<P.types.size)
  (z:f.resultTypes=#[k]) (A:P.underlying k=some .bool) (E:(s.fn H (d++e)).results=[.lit (.bool true)]) (D:(s.fn H (d++e)).args=d) (C:(s.fn H (d++e)).vars=[])
  (b:Below W.heap.size W n):s.post enc P f false true false false W c (.bool true) n:=by
 have g:∀p∈a,p.block<W.heap.size:=fun p u=>j.lt p u
 have i:=j
 obtain⟨p,q,B,m,rfl,y,v⟩:=j
 rw[l]at m
 obtain⟨rfl,rfl⟩:=trodVars_none m
 refine⟨d,[],_,[],p,[],i,?_,?_,?_,b.frame _,fun h=>by cases h⟩
 ·rw[E,z];exact trodAll_cons_mk (shut_bool A true) trodAll_mk0
 ·rw[D];exact sU w b r B (fun x o=>g x (by simp[o]))
 ·rw[C,l];rfl
end
set_option maxRecDepth 100000
end
section
open Go
theorem KT (p i:Nat)(b:p<256)(a:i<8):(255 -p).testBit i=!p.testBit i:=by
 have:=Nat.testBit_two_pow_sub_succ (n:=8) (x:=p) (by omega) i
 rw[show(2:Nat)^8 -(p+1)=255 -p by omega]at this
 rw[this];simp[a]
theorem Ma {a b:Nat}(f:a<256)(e:b<256)(h:∀i,i<8->a.testBit i=b.testBit i):a=b:=by
 apply Nat.eq_of_testBit_eq
 intro i
 rcases Nat.lt_or_ge i 8 with c|c
 ·exact h i c
 ·have d:256<=2^i:=Nat.pow_le_pow_right (n:=2) (by omega) c
  rw[Nat.testBit_lt_two_pow (GY0 f d),Nat.testBit_lt_two_pow (GY0 e d)]
def AU (a v p:Nat):Nat:=a&&& (255 -((a&&& (255 -v))&&& p))
theorem uT {a b:Nat}(c:a<256):a&&& b<256:=Nat.lt_of_le_of_lt Nat.and_le_left c
theorem Me {a v p:Nat}(b:a<256):AU a v p<256:=uT b
theorem MP (a v p i:Nat)(d:a<256)(c:v<256)(b:i<8):(AU a v p).testBit i=(a.testBit i&&(v.testBit i || !p.testBit i)):=by
 unfold AU
 rw[Nat.testBit_and,KT _ i (uT (uT d)) b,Nat.testBit_and,Nat.testBit_and,KT v i c b]
 cases a.testBit i<;>cases v.testBit i<;>cases p.testBit i<;>rfl
theorem VA (a v:Nat)(b:a<256)(d:v<256):AU a v 255=a&&& v:=by
 refine Ma (Me b) (uT b) fun i c=>?_
 rw[MP a v 255 i b d c,Nat.testBit_and]
 have:(255:Nat).testBit i=true:=by
  rw[show(255:Nat)=2^8 -1 from rfl,Nat.testBit_two_pow_sub_one];simp[c]
 rw[this];simp
structure Ded where
 kind:Int
 at_:Int
 value:Int
def bP (l:List ByteArray):Int:=if 1<=l.length/\l.length<=32 then(if∀s∈l,s.size=128 then 0 else 1)else 3
def eB (n:Nat)(d:Ded):Int:=
 if d.kind=1 then(if 0<=d.at_/\d.at_<n*128/\0<=d.value/\d.value<=255 then 0 else 3)
 else if d.kind=2 then(if 0<=d.at_/\d.at_<n/\d.value=0 then 0 else 3)
 else 7
def bytesOf (s:ByteArray):List UInt8:=s.data.toList
def ofBytes (l:List UInt8):ByteArray:=⟨l.toArray⟩
theorem iZ (l:List UInt8):bytesOf (ofBytes l)=l:=by simp[bytesOf,ofBytes]
theorem wR (s:ByteArray):ofBytes (bytesOf s)=s:=by cases s;simp[bytesOf,ofBytes]
theorem RB (s:ByteArray):(bytesOf s).length=s.size:=Array.length_toList
theorem gJ (l:List UInt8):(ofBytes l).size=l.length:=by simp[ofBytes,ByteArray.size]
def IC (l:List UInt8)(i v p:Nat):List UInt8:=l.set i (UInt8.ofNat (AU (l.getD i 0).toNat v p))
def Ta (l:List UInt8)(p:Nat->Nat):List UInt8:=l.mapIdx fun i x=>UInt8.ofNat (x.toNat |||p i)
def fB (f:List ByteArray)(d:Ded)(p:Nat->Nat):List ByteArray:=
 if d.kind=1 then f.set (d.at_ / 128).toNat (ofBytes (IC (bytesOf (f.getD (d.at_ / 128).toNat ⟨#[]⟩)) (d.at_ % 128).toNat d.value.toNat (p 0)))
 else f.set d.at_.toNat (ofBytes (Ta (bytesOf (f.getD d.at_.toNat ⟨#[]⟩)) p))
def yI (f:List ByteArray)(d:Ded):List ByteArray:=fB f d (fun _=>255)
def bT (f:List ByteArray)(l:List Ded):List ByteArray:=l.foldl yI f
def flat (f:List ByteArray):List UInt8:=f.flatMap bytesOf
theorem jT (f:List ByteArray)(d:Ded)(p:Nat->Nat):(fB f d p).length=f.length:=by
 unfold fB;split<;>simp
theorem ER (l:List UInt8)(i v p:Nat):(IC l i v p).length=l.length:=by simp[IC]
theorem sS (l:List UInt8)(p:Nat->Nat):(Ta l p).length=l.length:=by simp[Ta]
theorem mem_set {α:Type}{l:List α}{i:Nat}{x y:α}(h:y∈l.set i x):y=x\/y∈l:=by
 rcases List.mem_or_eq_of_mem_set h with h|h
 ·exact .inr h
 ·exact .inl h
theorem TP {f:List ByteArray}{i:Nat}(h:i<f.length):f.getD i ⟨#[]⟩∈f:=by
 rw[List.getD_eq_getElem?_getD,GY5 h];simp
theorem xY {n:Nat}{d:Ded}(h:eB n d=0):(d.kind=1/\(d.at_ / 128).toNat<n/\(d.at_ % 128).toNat<128/\0<=d.at_/\0<=d.value/\d.value<=255)\/(d.kind=2/\d.at_.toNat<n/\0<=d.at_/\d.value=0):=by
 unfold eB at h
 split at h
 ·next a=>
  split at h
  ·next b=>exact .inl ⟨a,by omega,by omega,by omega,by omega,by omega⟩
  ·cases h
 ·split at h
  ·next a=>
   split at h
   ·next b=>exact .inr ⟨a,by omega,by omega,by omega⟩
   ·cases h
  ·cases h
theorem fP {f:List ByteArray}:bP f=0↔(1<=f.length/\f.length<=32)/\∀s∈f,s.size=128:=by
 unfold bP
 constructor
 ·intro h
  split at h
  ·next b=>
   split at h
   ·next a=>exact⟨b,a⟩
   ·cases h
  ·cases h
 ·rintro⟨b,a⟩
  rw[if_pos b,if_pos a]
theorem rR {f:List ByteArray}{d:Ded}(p:Nat->Nat)(g:bP f=0)(i:eB f.length d=0):bP (fB f d p)=0:=by
 obtain⟨j,b⟩:=fP.1 g
 refine fP.2 ⟨by rw[jT];exact j,fun s a=>?_⟩
 unfold fB at a
 rcases xY i with⟨e,c,_⟩|⟨e,c,_⟩
 ·rw[if_pos e]at a
  rcases mem_set a with rfl|h
  ·rw[gJ,ER,RB];exact b _ (TP c)
  ·exact b _ h
 ·rw[if_neg (by omega)]at a
  rcases mem_set a with rfl|h
  ·rw[gJ,sS,RB];exact b _ (TP c)
  ·exact b _ h
theorem qQ :∀{l:List Ded}{f:List ByteArray},bP f=0->(∀d∈l,eB f.length d=0)->bP (bT f l)=0/\(bT f l).length=f.length
 | [],f,h,_=>⟨h,rfl⟩
 |d::l,f,h,hd=>by
  have e:(yI f d).length=f.length:=jT ..
  have:=qQ (l:=l) (rR (fun _=>255) h (hd d (List.mem_cons_self ..))) fun x a=>by
   show eB (yI f d).length x=0
   rw[e];exact hd x (List.mem_cons_of_mem _ a)
  exact⟨this.1,this.2.trans e⟩
theorem mM (f:List ByteArray)(a b:List Ded):bT f (a++b)=bT (bT f a) b:=List.foldl_append ..
theorem kJ (x:UInt8):x.toNat<256:=x.toNat_lt
theorem wY {n:Nat}(h:n<256):(UInt8.ofNat n).toNat=n:=by simp;omega
theorem getD_lt {l:List UInt8}{i:Nat}(h:i<l.length):l.getD i 0=l[i]:=by rw[List.getD_eq_getElem?_getD,GY5 h];rfl
theorem getD_set_ne {l:List UInt8}{i j:Nat}(h:i≠j)(x:UInt8):(l.set i x).getD j 0=l.getD j 0:=by
 rw[List.getD_eq_getElem?_getD,List.getElem?_set_ne h,List.getD_eq_getElem?_getD]
theorem Gn {l:List UInt8}{j:Nat}(g:Nat->UInt8->UInt8)(h:j<l.length):(l.mapIdx g).getD j 0=g j (l.getD j 0):=by
 rw[getD_lt (by simpa using h),getD_lt h];simp
theorem sZ {f:List ByteArray}{i:Nat}(h:i<f.length)(x y:ByteArray):(f.set i x).getD i y=x:=by
 rw[List.getD_eq_getElem?_getD,List.getElem?_set_self h];rfl
theorem mP :∀{f:List ByteArray},(∀s∈f,s.size=128)->(flat f).length=128*f.length
 | [],_=>rfl
 |s::f,h=>by
  have c:=h s (List.mem_cons_self ..)
  have a:=mP (f:=f) fun x b=>h x (List.mem_cons_of_mem _ b)
  unfold flat at a ⊢
  rw[List.flatMap_cons,GZ8,RB,c,a,GY8];omega
theorem DR :∀{f:List ByteArray},(∀s∈f,s.size=128)->∀n,n<f.length->((flat f).drop (128*n)).take 128=bytesOf (f.getD n ⟨#[]⟩)
 | [],_,n,h=>by simp at h
 |s::f,h,n,hn=>by
  have b:=h s (List.mem_cons_self ..)
  have c:(bytesOf s).length=128:=by rw[RB];exact b
  have e:flat (s::f)=bytesOf s++flat f:=by unfold flat;rw[List.flatMap_cons]
  rw[e]
  cases n with
  |zero=>rw[Nat.mul_zero,List.drop_zero,List.take_append_of_le_length (by omega),List.take_of_length_le (by omega)];rfl
  |succ n=>
   rw[show 128*(n+1)=(bytesOf s).length+128*n by omega,List.drop_append,List.drop_eq_nil_of_le (by omega),List.nil_append,show(bytesOf s).length+128*n -(bytesOf s).length=128*n by omega,DR (fun x a=>h x (List.mem_cons_of_mem _ a)) n (by simpa using hn)]
   rfl
theorem xW {f:List ByteArray}(h:∀s∈f,s.size=128)(j:Nat)(b:j<128*f.length):(flat f).getD j 0=(bytesOf (f.getD (j / 128) ⟨#[]⟩)).getD (j % 128) 0:=by
 have a:j / 128<f.length:=by omega
 rw[<-DR h (j / 128) a]
 rw[List.getD_eq_getElem?_getD,List.getD_eq_getElem?_getD,List.getElem?_take_of_lt (by omega),List.getElem?_drop,show 128*(j / 128)+j % 128=j by omega]
theorem qP {f:List ByteArray}{d:Ded}(p:Nat->Nat)(o:bP f=0)(q:eB f.length d=0)(j:Nat)(m:j<128*f.length):
  (flat (fB f d p)).getD j 0=if d.kind=1/\(j:Int)=d.at_ then UInt8.ofNat (AU ((flat f).getD j 0).toNat d.value.toNat (p 0))else if d.kind=2/\((j / 128:Nat):Int)=d.at_ then UInt8.ofNat (((flat f).getD j 0).toNat |||p (j % 128))else(flat f).getD j 0:=by
 have h:=rR p o q
 obtain⟨_,k⟩:=fP.1 o
 obtain⟨_,v⟩:=fP.1 h
 rw[xW v j (by rw[jT];exact m),xW k j m]
 unfold fB
 have l:j / 128<f.length:=by omega
 have r:∀(x:ByteArray)(i:Nat),i≠j / 128->(f.set i x).getD (j / 128) ⟨#[]⟩=f.getD (j / 128) ⟨#[]⟩:=fun x i n=>by
  rw[List.getD_eq_getElem?_getD,List.getElem?_set_ne n,List.getD_eq_getElem?_getD]
 rcases xY q with⟨e,a,n,u,s,z⟩|⟨e,a,u,_⟩
 ·rw[if_pos e]
  have w:¬(d.kind=2/\((j / 128:Nat):Int)=d.at_):=by omega
  rw[if_neg w]
  have g:(bytesOf (f.getD (d.at_ / 128).toNat ⟨#[]⟩)).length=128:=by rw[RB];exact k _ (TP a)
  by_cases c:(d.at_ / 128).toNat=j / 128
  ·rw[c]at g ⊢
   rw[sZ l,iZ]
   unfold IC
   by_cases b:(d.at_ % 128).toNat=j % 128
   ·rw[if_pos ⟨e,by omega⟩,b,List.getD_eq_getElem?_getD,List.getElem?_set_self (by omega)];rfl
   ·rw[if_neg (by omega),getD_set_ne b]
  ·rw[if_neg (by omega),r _ _ c]
 ·have y:¬(d.kind=1/\(j:Int)=d.at_):=by omega
  rw[if_neg (by omega),if_neg y]
  have g:(bytesOf (f.getD d.at_.toNat ⟨#[]⟩)).length=128:=by rw[RB];exact k _ (TP a)
  by_cases c:d.at_.toNat=j / 128
  ·rw[if_pos ⟨e,by omega⟩]
   rw[c]at g ⊢
   rw[sZ l,iZ]
   unfold Ta
   have t:j % 128<(bytesOf (f.getD (j / 128) ⟨#[]⟩)).length:=by omega
   rw[Gn _ t]
  ·rw[if_neg (by omega),r _ _ c]
end
section
open Go
def mD (l:List UInt8):Nat->Nat
 |0=>0
 |n+1=>if l.getD n 0=255 then mD l n else n+1
def iG (l:List UInt8):Nat:=mD l l.length
theorem qO (l:List UInt8):∀n j,mD l n<=j->j<n->l.getD j 0=255
 |0,j,_,h=>by omega
 |n+1,j,h,hj=>by
  unfold mD at h
  split at h
  ·next e=>
   rcases Nat.lt_or_ge j n with a|b
   ·exact qO l n j h a
   ·rw[show j=n by omega];exact e
  ·omega
theorem pI (l:List UInt8)(m:Nat):∀n,(∀j,m<=j->j<n->l.getD j 0=255)->mD l n<=m
 |0,_=>Nat.zero_le _
 |n+1,h=>by
  unfold mD
  split
  ·exact pI l m n fun j c d=>h j c (by omega)
  ·next e=>
   rcases Nat.lt_or_ge n m with b|a
   ·omega
   ·exact absurd (h n a (by omega)) e
theorem pR {l:List UInt8}:iG l=0↔∀j,j<l.length->l.getD j 0=255:=
 ⟨fun h j a=>qO l l.length j (by have:mD l l.length=0:=h;omega) a,fun h=>Nat.le_zero.1 (pI l 0 _ fun j _ a=>h j a)⟩
def RV (S:List UInt8)(i:Nat):List UInt8:=(S.drop (S.length -5*(i+1))).take 5
def two (a b:UInt8):Nat:=a.toNat+256*b.toNat
def oV (E:List UInt8):Nat:=two (E.getD 0 0) (E.getD 1 0)
def iN (E:List UInt8):Nat:=two (E.getD 2 0) (E.getD 3 0)
def sO (S:List UInt8)(a n:Nat):ByteArray:=ofBytes ((S.drop a).take n)
def lV (S:List UInt8)(i:Nat):Prop:=5*(i+1)<=S.length/\iG (RV S i)≠0
instance (S :List UInt8)(i:Nat):Decidable (lV S i):=by unfold lV;infer_instance
def eU (S E:List UInt8)(r:List ByteArray)(e:Nat):Option (List ByteArray×Nat):=
 if E.getD 4 0≠0 then some (r,e)
 else if S.length<oV E+iN E\/iN E=0\/800<iN E then none
 else some (r++[sO S (oV E) (iN E)],max e (oV E+iN E))
def fV (S:List UInt8):Nat->Nat->List ByteArray->Nat->Option (Nat×List ByteArray×Nat)
 |0,i,r,e=>some (i,r,e)
 |k+1,i,r,e=>if lV S i then(match eU S (RV S i) r e with|none=>none|some p=>fV S k (i+1) p.1 p.2)else some (i,r,e)
def Re (S:List UInt8):Option (Nat×List ByteArray×Nat):=
 match fV S (S.length+1) 0 [] 0 with
 |none=>none
 |some p=>some (p.1,p.2.1,max p.2.2 (iG (S.take (S.length -5*p.1))))
theorem fQ (S:List UInt8)(k i:Nat)(r:List ByteArray)(e:Nat):fV S (k+1) i r e=if lV S i then(match eU S (RV S i) r e with|none=>none|some p=>fV S k (i+1) p.1 p.2)else some (i,r,e):=rfl
def Ap (S T:List UInt8)(a b:Nat):Prop:=T.length=S.length/\∀j,j<S.length->(j<a\/b<=j)->T.getD j 0=S.getD j 0
theorem UK {S:List UInt8}{a n j:Nat}(b:j<n):((S.drop a).take n).getD j 0=S.getD (a+j) 0:=by
 rw[List.getD_eq_getElem?_getD,List.getElem?_take_of_lt b,List.getElem?_drop,List.getD_eq_getElem?_getD]
theorem Ml {S T:List UInt8}{a n:Nat}(d:T.length=S.length)(h:∀j,j<S.length->a<=j->j<a+n->T.getD j 0=S.getD j 0):(T.drop a).take n=(S.drop a).take n:=by
 apply List.ext_getElem?
 intro j
 rcases Nat.lt_or_ge j n with c|c
 ·rw[List.getElem?_take_of_lt c,List.getElem?_take_of_lt c,List.getElem?_drop,List.getElem?_drop]
  rcases Nat.lt_or_ge (a+j) S.length with b|b
  ·have:=h (a+j) b (by omega) (by omega)
   rw[List.getD_eq_getElem?_getD,List.getD_eq_getElem?_getD,GY5 b,GY5 (by omega)]at this
   rw[GY5 b,GY5 (by omega)]
   simpa using this
  ·rw[List.getElem?_eq_none (by omega),List.getElem?_eq_none b]
 ·rw[List.getElem?_eq_none (by simp;omega),List.getElem?_eq_none (by simp;omega)]
theorem Uz {S T:List UInt8}{a b i:Nat}(h:Ap S T a b)(d:b<=S.length -5*(i+1)):RV T i=RV S i:=by
 unfold RV
 rw[h.1]
 exact Ml h.1 fun j c e _=>h.2 j c (.inr (by omega))
theorem F9 {S T:List UInt8}{a b i:Nat}(h:Ap S T a b)(c:b<=S.length -5*(i+1)):lV T i↔lV S i:=by
 unfold lV
 rw[Uz h c,h.1]
theorem Nr {S E:List UInt8}{r:List ByteArray}{e:Nat}{p:List ByteArray×Nat}(h:eU S E r e=some p):e<=p.2/\(p=(r,e)\/oV E+iN E<=p.2):=by
 unfold eU at h
 split at h
 ·injection h with h;subst h;exact⟨GZ3 _,.inl rfl⟩
 ·split at h
  ·cases h
  ·injection h with h;subst h
   exact⟨Nat.le_max_left _ _,.inr (Nat.le_max_right _ _)⟩
theorem JA {S T E:List UInt8}{a b:Nat}{r:List ByteArray}{e:Nat}{p:List ByteArray×Nat}(h:Ap S T a b)(c:eU S E r e=some p)(i:p.2<=a):eU T E r e=some p:=by
 unfold eU at c ⊢
 rw[h.1]
 split at c
 ·next d=>rw[if_pos d];exact c
 ·next d=>
  rw[if_neg d]
  split at c
  ·cases c
  ·next g=>
   rw[if_neg g]
   injection c with c
   subst c
   have:sO T (oV E) (iN E)=sO S (oV E) (iN E):=by
    unfold sO
    rw[Ml h.1 fun j f l k=>h.2 j f (.inl (by
     have:=Nat.le_max_right e (oV E+iN E)
     simp only at i;omega))]
   rw[this]
theorem xX {S:List UInt8}:∀{n i:Nat}{r:List ByteArray}{e k:Nat}{d:List ByteArray}{c:Nat},fV S n i r e=some (k,d,c)->i<=k/\k<=i+n/\e<=c/\(5*i<=S.length->5*k<=S.length)/\(S.length<5*(i+n+1)->¬lV S k)
 |0,i,r,e,k,d,c,h=>by
  simp only[fV,Option.some.injEq,Prod.mk.injEq]at h
  obtain⟨rfl,rfl,rfl⟩:=h
  exact⟨GZ3 _,GZ3 _,GZ3 _,fun h=>h,fun h a=>by have:=a.1;omega⟩
 |n+1,i,r,e,k,d,c,h=>by
  rw[fQ]at h
  split at h
  ·next a=>
   cases f:eU S (RV S i) r e with
   |none=>rw[f]at h;cases h
   |some p=>
    rw[f]at h
    obtain⟨j,b,g,m,l⟩:=xX (n:=n) h
    have:=(Nr f).1
    exact⟨by omega,by omega,by omega,fun _=>m a.1,fun h=>l (by omega)⟩
  ·next a=>
   injection h with h
   injection h with j b
   injection b with b g
   subst j b g
   exact⟨GZ3 _,by omega,GZ3 _,fun h=>h,fun _=>a⟩
theorem Bc {S T:List UInt8}{a b:Nat}(h:Ap S T a b):∀{n i:Nat}{r:List ByteArray}{e k:Nat}{f:List ByteArray}{d:Nat}(m:Nat),fV S n i r e=some (k,f,d)->d<=a->b<=S.length -5*k->k -i<=m->fV T m i r e=fV T (m -(k -i)) k f d
 |0,i,r,e,k,f,d,m,hs,_,_,_=>by
  simp only[fV,Option.some.injEq,Prod.mk.injEq]at hs
  obtain⟨rfl,rfl,rfl⟩:=hs
  rw[Nat.sub_self,Nat.sub_zero]
 |n+1,i,r,e,k,f,d,m,hs,ha,hb,hm=>by
  rw[fQ]at hs
  split at hs
  ·next q=>
   cases j:eU S (RV S i) r e with
   |none=>rw[j]at hs;cases hs
   |some p=>
    rw[j]at hs
    obtain⟨o,g,l,t,s⟩:=xX hs
    have c:b<=S.length -5*(i+1):=by omega
    cases m with
    |zero=>omega
    |succ m=>
     rw[fQ,if_pos ((F9 h c).2 q),Uz h c,JA h j (by omega)]
     have:=Bc h (n:=n) m hs ha hb (by omega)
     show fV T m (i+1) p.1 p.2=_
     rw[this]
     congr 1;omega
  ·injection hs with hs
   injection hs with o g
   injection g with g l
   subst o g l
   rw[Nat.sub_self,Nat.sub_zero]
structure Tj (S:List UInt8)(k:Nat)(r:List ByteArray)(e0 e:Nat):Prop where
 scan:fV S (S.length+1) 0 [] 0=some (k,r,e0)
 end_:e=max e0 (iG (S.take (S.length -5*k)))
theorem xM {S:List UInt8}{k:Nat}{r:List ByteArray}{e:Nat}(h:Re S=some (k,r,e)):∃e0,Tj S k r e0 e:=by
 unfold Re at h
 cases a:fV S (S.length+1) 0 [] 0 with
 |none=>rw[a]at h;cases h
 |some p=>
  rw[a]at h
  simp only[Option.some.injEq,Prod.mk.injEq]at h
  obtain⟨rfl,rfl,rfl⟩:=h
  exact⟨p.2.2,a,rfl⟩
theorem Tj.load {S:List UInt8}{k:Nat}{r:List ByteArray}{e0 e:Nat}(h:Tj S k r e0 e):Re S=some (k,r,e):=by
 unfold Re
 rw[h.scan,h.end_]
theorem Tj.many {S:List UInt8}{k:Nat}{r:List ByteArray}{e0 e:Nat}(h:Tj S k r e0 e):5*k<=S.length:=(xX h.scan).2.2.2.1 (by omega)
theorem Fv {S:List UInt8}{n j:Nat}(h:j<n):(S.take n).getD j 0=S.getD j 0:=by
 rw[List.getD_eq_getElem?_getD,List.getElem?_take_of_lt h,List.getD_eq_getElem?_getD]
theorem Tj.free {S:List UInt8}{k:Nat}{r:List ByteArray}{e0 e:Nat}(h:Tj S k r e0 e)(j:Nat)(d:e<=j)(b:j<S.length -5*k):S.getD j 0=255:=by
 have a:iG (S.take (S.length -5*k))<=j:=GY1 (h.end_▸Nat.le_max_right _ _) d
 have c:(S.take (S.length -5*k)).length=S.length -5*k:=by rw[GY6];omega
 unfold iG at a
 rw[c]at a
 rw[<-Fv b]
 exact qO _ _ j a b
theorem pK {T:List UInt8}{n m:Nat}(h:∀j,m<=j->j<n->T.getD j 0=255):iG (T.take n)<=m:=by
 unfold iG
 refine pI _ m _ fun j b a=>?_
 have:j<n:=by rw[GY6]at a;omega
 rw[Fv this];exact h j b this
structure Next (S T:List UInt8)(k e n:Nat):Prop where
 len:T.length=S.length
 room:e+n+5+5*(k+1)<=S.length
 same:∀j,j<S.length->(j<e\/(e+n<=j/\j<S.length -5*(k+1))\/S.length -5*k<=j)->T.getD j 0=S.getD j 0
section
variable {S T:List UInt8} {k:Nat} {r:List ByteArray} {e0 e n:Nat}
theorem Next.alike (h:Next S T k e n):Ap S T e (S.length -5*k):=⟨h.len,fun j a b=>h.same j a (by omega)⟩
theorem Next.scan (h:Next S T k e n)(a:Tj S k r e0 e):fV T (T.length+1) 0 [] 0=fV T (S.length+1 -k) k r e0:=by
 have:=Bc h.alike (T.length+1) a.scan (a.end_▸Nat.le_max_left _ _) (GZ3 _) (by have:=a.many;rw[h.len];omega)
 rw[this,h.len];rfl
theorem UC (S:List UInt8)(i j:Nat)(a:j<5):(RV S i).getD j 0=S.getD (S.length -5*(i+1)+j) 0:=UK a
theorem TS {S:List UInt8}{i:Nat}(h:5*(i+1)<=S.length):(RV S i).length=5:=by unfold RV;rw[GY6,List.length_drop];omega
theorem Next.stop (h:Next S T k e n)(b:Tj S k r e0 e):¬lV T (k+1):=by
 rintro⟨d,c⟩
 apply c
 have f:=h.room
 have g:=h.len
 refine pR.2 fun j a=>?_
 rw[TS d]at a
 rw[UC _ _ _ a,h.same _ (by omega) (by omega)]
 exact b.free _ (by omega) (by omega)
theorem Next.used (h:Next S T k e n)(a:Tj S k r e0 e):iG (T.take (T.length -5*(k+1)))<=e+n:=by
 have b:=h.room
 have c:=h.len
 refine pK fun j f d=>?_
 rw[h.same j (by omega) (by omega)]
 exact a.free j (by omega) (by omega)
theorem Next.none (h:Next S T k e n)(b:Tj S k r e0 e)(s:(RV T k).getD 4 0≠0):∃c l,Re T=some (c,r,l)/\k<=c/\c<=k+1/\l<=e+n:=by
 have u:=h.room
 have v:=h.len
 have q:e0<=e:=b.end_▸Nat.le_max_left _ _
 have a:=h.scan b
 obtain⟨m,o⟩:∃m,S.length+1 -k=m+2:=⟨S.length -1 -k,by have:=b.many;omega⟩
 rw[o,fQ T (m+1) k]at a
 by_cases g:lV T k
 ·rw[if_pos g]at a
  have d:eU T (RV T k) r e0=some (r,e0):=by unfold eU;rw[if_pos s]
  rw[d]at a
  change _=fV T (m+1) (k+1) r e0 at a
  rw[fQ T m (k+1),if_neg (h.stop b)]at a
  refine⟨k+1,max e0 (iG (T.take (T.length -5*(k+1)))),?_,by omega,GZ3 _,?_⟩
  ·unfold Re;rw[a]
  ·have:=h.used b;omega
 ·rw[if_neg g]at a
  refine⟨k,max e0 (iG (T.take (T.length -5*k))),?_,GZ3 _,by omega,?_⟩
  ·unfold Re;rw[a]
  ·have t:iG (T.take (T.length -5*k))<=e+n:=by
    refine pK fun j x w=>?_
    rcases Nat.lt_or_ge j (T.length -5*(k+1))with p|p
    ·rw[h.same j (by omega) (by omega)]
     exact b.free j (by omega) (by omega)
    ·have f:iG (RV T k)=0:=by
      by_cases i:iG (RV T k)=0
      ·exact i
      ·exact absurd ⟨by omega,i⟩ g
     have:=pR.1 f (j -(T.length -5*(k+1))) (by rw[TS (by omega)];omega)
     rw[UC _ _ _ (by omega)]at this
     rw[<-this];congr 1;omega
   omega
theorem Next.whole (h:Next S T k e n)(b:Tj S k r e0 e)(d:(RV T k).getD 4 0=0)(o:oV (RV T k)=e)(g:iN (RV T k)=n)(t:1<=n)(s:n<=800):
  Re T=some (k+1,r++[sO T e n],e+n):=by
 have p:=h.room
 have q:=h.len
 have j:e0<=e:=b.end_▸Nat.le_max_left _ _
 have a:=h.scan b
 obtain⟨m,i⟩:∃m,S.length+1 -k=m+2:=⟨S.length -1 -k,by have:=b.many;omega⟩
 rw[i,fQ T (m+1) k]at a
 have l:lV T k:=⟨by omega,fun f=>by
  have:=pR.1 f 4 (by rw[TS (by omega)];omega)
  rw[d]at this;exact absurd this (by decide)⟩
 have c:eU T (RV T k) r e0=some (r++[sO T e n],max e0 (e+n)):=by
  unfold eU
  rw[if_neg (by rw[d];exact fun h=>h rfl),o,g,if_neg (by omega)]
 rw[if_pos l,c]at a
 change _=fV T (m+1) (k+1) (r++[sO T e n]) (max e0 (e+n))at a
 rw[fQ T m (k+1),if_neg (h.stop b)]at a
 unfold Re
 rw[a]
 have:=h.used b
 simp only
 congr 3
 omega
end
end
section
open Go
def jM :Nat->List UInt8->List Ded
 |_,[]=>[]
 |a,c::l=>if c=255 then jM (a+1) l else⟨1,a,c.toNat⟩::jM (a+1) l
def b8 (n:Nat):UInt8:=UInt8.ofNat (n % 256)
def Sw (e n:Nat):List UInt8:=[b8 e,b8 (e / 256),b8 n,b8 (n / 256)]
def CU (e p:Nat)(s:List UInt8):List Ded:=jM e s++jM p (Sw e s.length)++[⟨1,((p+4:Nat):Int),0⟩]
def Within (a n:Nat)(d:Ded):Prop:=d.kind=1/\(∃p:Nat,d.at_=p/\a<=p/\p<a+n)/\0<=d.value/\d.value<=255
theorem Within.more {a n b c:Nat}{d:Ded}(h:Within a n d)(l:b<=a)(k:a+n<=b+c):Within b c d:=by
 obtain⟨g,⟨p,f,j,i⟩,e⟩:=h
 exact⟨g,⟨p,f,by omega,by omega⟩,e⟩
theorem nS :∀(a:Nat)(l:List UInt8)(d:Ded),d∈jM a l->Within a l.length d
 |_,[],_,h=>by simp[jM]at h
 |a,c::l,d,h=>by
  unfold jM at h
  split at h
  ·exact(nS (a+1) l d h).more (by omega) (by rw[GY8];omega)
  ·rcases List.mem_cons.1 h with rfl|h
   ·have:=c.toNat_lt
    exact⟨rfl,⟨a,rfl,GZ3 _,by rw[GY8];omega⟩,by simp only;omega,by simp only;omega⟩
   ·exact(nS (a+1) l d h).more (by omega) (by rw[GY8];omega)
theorem Within.ok {a n m:Nat}{d:Ded}(h:Within a n d)(f:a+n<=128*m):eB m d=0:=by
 obtain⟨e,⟨p,j,i,g⟩,c,b⟩:=h
 unfold eB
 rw[if_pos e,if_pos ⟨by omega,by omega,c,b⟩]
theorem Ik {f:List ByteArray}{d:Ded}(p:Nat->Nat)(b:bP f=0)(c:eB f.length d=0)(g:d.kind=1){j:Nat}(a:j<128*f.length)(h:(j:Int)≠d.at_):(flat (fB f d p)).getD j 0=(flat f).getD j 0:=by
 rw[qP p b c j a,if_neg (fun e=>h e.2),if_neg (by omega)]
theorem pE :∀(l:List UInt8)(a:Nat)(f:List ByteArray),bP f=0->a+l.length<=128*f.length->(∀j,a<=j->j<a+l.length->(flat f).getD j 0=255)->∀p,p<128*f.length->
  (flat (bT f (jM a l))).getD p 0=if a<=p/\p<a+l.length then l.getD (p -a) 0 else(flat f).getD p 0
 | [],a,f,_,_,_,p,_=>by
  show(flat f).getD p 0=_
  rw[if_neg (by simp only[List.length_nil];omega)]
 |c::l,a,f,hf,hl,h,p,hp=>by
  have k:(c::l).length=l.length+1:=rfl
  rw[k]at hl h ⊢
  unfold jM
  by_cases o:c=255
  ·rw[if_pos o,pE l (a+1) f hf (by omega) (fun j i g=>h j (by omega) (by omega)) p hp]
   by_cases i:a+1<=p/\p<a+1+l.length
   ·rw[if_pos i,if_pos (by omega),show p -a=p -(a+1)+1 by omega,List.getD_cons_succ]
   ·rw[if_neg i]
    by_cases g:p=a
    ·rw[if_pos (by omega),g,Nat.sub_self,List.getD_cons_zero,o];exact h a (GZ3 _) (by omega)
    ·rw[if_neg (by omega)]
  ·rw[if_neg o]
   obtain⟨d,n⟩:∃d:Ded,d=⟨1,a,c.toNat⟩:=⟨_,rfl⟩
   rw[<-n]
   have t:=c.toNat_lt
   have m:eB f.length d=0:=by
    rw[n];unfold eB
    rw[if_pos rfl,if_pos ⟨by simp only;omega,by simp only;omega,by simp only;omega,by simp only;omega⟩]
   have e:(yI f d).length=f.length:=jT ..
   have r:∀q,q<128*f.length->(flat (yI f d)).getD q 0=if q=a then c else(flat f).getD q 0:=fun q s=>by
    unfold yI
    rw[qP _ hf m q s,n]
    by_cases b:q=a
    ·rw[if_pos ⟨rfl,by simp only;omega⟩,if_pos b,VA _ _ (kJ _) (by simp only;omega),b,h a (GZ3 _) (by omega)]
     show UInt8.ofNat (255&&& ((c.toNat:Int)).toNat)=c
     rw[Int.toNat_natCast,Nat.and_comm,show(255:Nat)=2^8 -1 from rfl,Nat.and_two_pow_sub_one_of_lt_two_pow t]
     simp
    ·rw[if_neg (by simp only;omega),if_neg (by simp only;omega),if_neg b]
   show(flat (bT (yI f d) (jM (a+1) l))).getD p 0=_
   rw[pE l (a+1) (yI f d) (rR _ hf m) (by rw[e];omega) (fun j i g=>by rw[r j (by omega),if_neg (by omega)];exact h j (by omega) (by omega)) p (by rw[e];exact hp),r p hp]
   by_cases i:a+1<=p/\p<a+1+l.length
   ·rw[if_pos i,if_pos (by omega),show p -a=p -(a+1)+1 by omega,List.getD_cons_succ]
   ·rw[if_neg i]
    by_cases g:p=a
    ·rw[if_pos g,if_pos (by omega),g,Nat.sub_self,List.getD_cons_zero]
    ·rw[if_neg g,if_neg (by omega)]
theorem Mj {n:Nat}(h:n<65536):two (b8 n) (b8 (n / 256))=n:=by
 unfold two b8
 rw[wY (by omega),wY (by omega)]
 omega
section
variable {f:List ByteArray} {k:Nat} {r:List ByteArray} {e0 e:Nat} {s:List UInt8}
structure U1 (f:List ByteArray)(k:Nat)(e:Nat)(s:List UInt8):Prop where
 ok:bP f=0
 room:e+s.length+5+5*(k+1)<=128*f.length
 one:1<=s.length
 most:s.length<=800
def headD (f:List ByteArray)(k e:Nat)(s:List UInt8):List Ded:=jM e s++jM (128*f.length -5*(k+1)) (Sw e s.length)
def qZ (f:List ByteArray)(k:Nat):Ded:=⟨1,((128*f.length -5*(k+1)+4:Nat):Int),0⟩
theorem KW (f:List ByteArray)(k e:Nat)(s:List UInt8):CU e (128*f.length -5*(k+1)) s=headD f k e s++[qZ f k]:=rfl
def Touch (f:List ByteArray)(k e n:Nat)(d:Ded):Prop:=d.kind=1/\eB f.length d=0/\∃p:Nat,d.at_=p/\((e<=p/\p<e+n)\/(128*f.length -5*(k+1)<=p/\p<128*f.length -5*(k+1)+4))
theorem zS (h:U1 f k e s):∀d∈headD f k e s,Touch f k e s.length d:=by
 intro d b
 have m:=h.room
 rcases List.mem_append.1 b with b|b
 ·have a:=nS _ _ _ b
  have c:=a
  obtain⟨l,⟨p,j,i,g⟩,_⟩:=c
  exact⟨l,a.ok (by omega),p,j,.inl ⟨i,g⟩⟩
 ·have a:=nS _ _ _ b
  have c:=a
  obtain⟨l,⟨p,j,i,g⟩,_⟩:=c
  exact⟨l,a.ok (by have:(Sw e s.length).length=4:=rfl;omega),p,j,.inr ⟨i,g⟩⟩
theorem ET (h:U1 f k e s):eB f.length (qZ f k)=0:=by
 have a:=h.room
 unfold eB qZ
 rw[if_pos rfl,if_pos ⟨by simp only;omega,by simp only;omega,by simp only;omega,by simp only;omega⟩]
theorem FM (h:U1 f k e s):∀d∈CU e (128*f.length -5*(k+1)) s,eB f.length d=0:=by
 intro d a
 rw[KW]at a
 rcases List.mem_append.1 a with a|a
 ·exact(zS h d a).2.1
 ·rw[List.mem_singleton.1 a];exact ET h
theorem Ed (h:U1 f k e s){l:List Ded}(a:∀d∈l,d∈headD f k e s):bP (bT f l)=0/\(bT f l).length=f.length:=qQ h.ok fun d b=>(zS h d (a d b)).2.1
theorem fG {f:List ByteArray}(h:bP f=0):(flat f).length=128*f.length:=mP (fP.1 h).2
theorem Pw (h:U1 f k e s){g:List ByteArray}(d:bP g=0)(a:g.length=f.length)(c:∀j,j<128*f.length->¬(e<=j/\j<e+s.length)->¬(128*f.length -5*(k+1)<=j/\j<128*f.length -5*k)->(flat g).getD j 0=(flat f).getD j 0):Next (flat f) (flat g) k e s.length:=by
 have l:=h.room
 refine⟨by rw[fG d,fG h.ok,a],by rw[fG h.ok];omega,fun j b i=>?_⟩
 rw[fG h.ok]at b i
 exact c j b (by omega) (by omega)
theorem uJ (h:U1 f k e s)(u:Tj (flat f) k r e0 e){j:Nat}(m:j<128*f.length):
  (flat (bT f (headD f k e s))).getD j 0=if e<=j/\j<e+s.length then s.getD (j -e) 0 else if 128*f.length -5*(k+1)<=j/\j<128*f.length -5*(k+1)+4 then(Sw e s.length).getD (j -(128*f.length -5*(k+1))) 0 else(flat f).getD j 0:=by
 have w:=h.room
 have a:=u.free
 rw[fG h.ok]at a
 have i:∀d∈jM e s,d∈headD f k e s:=fun d v=>List.mem_append_left _ v
 obtain⟨t,l⟩:=Ed h i
 have p:=pE s e f h.ok (by omega) (fun j o n=>a j o (by omega))
 unfold headD
 rw[mM]
 have g:(Sw e s.length).length=4:=rfl
 rw[pE (Sw e s.length) (128*f.length -5*(k+1)) (bT f (jM e s)) t (by rw[l,g];omega) (fun q o n=>by
  rw[g]at n
  rw[p q (by omega),if_neg (by omega)];exact a q (by omega) (by omega)) j (by rw[l];exact m),g,p j m]
 by_cases c:128*f.length -5*(k+1)<=j/\j<128*f.length -5*(k+1)+4
 ·rw[if_pos c,if_neg (by omega),if_pos c]
 ·rw[if_neg c]
  by_cases b:e<=j/\j<e+s.length
  ·rw[if_pos b,if_pos b]
  ·rw[if_neg b,if_neg b,if_neg c]
theorem LJ (h:U1 f k e s)(o:Tj (flat f) k r e0 e)(p:Nat->Nat)(y:(flat (fB (bT f (headD f k e s)) (qZ f k) p)).getD (128*f.length -5*(k+1)+4) 0=0):
  Re (flat (fB (bT f (headD f k e s)) (qZ f k) p))=some (k+1,r++[ofBytes s],e+s.length):=by
 have I:=h.room
 have G:=h.one
 have F:=h.most
 obtain⟨w,u⟩:=Ed h (l:=headD f k e s) fun d D=>D
 have c:eB (bT f (headD f k e s)).length (qZ f k)=0:=by rw[u];exact ET h
 obtain⟨g,t⟩:=Nm (fB (bT f (headD f k e s)) (qZ f k) p)
 have i:bP g=0:=t▸rR p w c
 have m:g.length=f.length:=by rw[t,jT,u]
 have v:∀j,j<128*f.length->j≠128*f.length -5*(k+1)+4->(flat g).getD j 0=(flat (bT f (headD f k e s))).getD j 0:=fun j a A=>by
  rw[t];exact Ik p w c rfl (by rw[u];exact a) (by unfold qZ;simp only;omega)
 rw[<-t]at y ⊢
 have B:Next (flat f) (flat g) k e s.length:=Pw h i m fun j a H J=>by
  rw[v j a (by omega),uJ h o a,if_neg H,if_neg (by omega)]
 have E:(flat g).length=128*f.length:=by rw[fG i,m]
 have n:∀q,q<5->(RV (flat g) k).getD q 0=(flat g).getD (128*f.length -5*(k+1)+q) 0:=fun q x=>by rw[UC _ _ _ x,E]
 have b:∀q,q<4->(RV (flat g) k).getD q 0=(Sw e s.length).getD q 0:=fun q x=>by
  rw[n q (by omega),v _ (by omega) (by omega),uJ h o (by omega),if_neg (by omega),if_pos (by omega),Nat.add_sub_cancel_left]
 have C:128*f.length<=4096:=by have:=(fP.1 h.ok).1.2;omega
 have z:=B.whole o (by rw[n 4 (by omega)];exact y)
  (by unfold oV;rw[b 0 (by omega),b 1 (by omega)];exact Mj (by omega))
  (by unfold iN;rw[b 2 (by omega),b 3 (by omega)];exact Mj (by omega)) G F
 rw[z]
 congr 4
 unfold sO
 refine congrArg (fun l=>[ofBytes l]) ?_
 apply List.ext_getElem?
 intro j
 rcases Nat.lt_or_ge j s.length with a|a
 ·have:((flat g).drop e |>.take s.length).getD j 0=s.getD j 0:=by
   rw[UK a,v _ (by omega) (by omega),uJ h o (by omega),if_pos (by omega),Nat.add_sub_cancel_left]
  rw[List.getD_eq_getElem?_getD,List.getD_eq_getElem?_getD,GY5 a,GY5 (by rw[GY6,List.length_drop];omega)]at this
  rw[GY5 a,GY5 (by rw[GY6,List.length_drop];omega)]
  simpa using this
 ·rw[List.getElem?_eq_none (by rw[GY6];omega),List.getElem?_eq_none a]
theorem FO (h:U1 f k e s)(g:Tj (flat f) k r e0 e):Re (flat (bT f (CU e (128*f.length -5*(k+1)) s)))=some (k+1,r++[ofBytes s],e+s.length):=by
 have j:=h.room
 obtain⟨c,b⟩:=Ed h (l:=headD f k e s) fun d i=>i
 have a:eB (bT f (headD f k e s)).length (qZ f k)=0:=by rw[b];exact ET h
 rw[KW,mM]
 show Re (flat (fB (bT f (headD f k e s)) (qZ f k) (fun _=>255)))=_
 refine LJ h g _ ?_
 rw[qP _ c a _ (by rw[b];omega),if_pos ⟨rfl,rfl⟩,VA _ (qZ f k).value.toNat (kJ _) (show(0:Int).toNat<256 by decide)]
 show UInt8.ofNat (_&&& (0:Int).toNat)=0
 simp
end
def TG (S:List UInt8)(n:Nat):Int:=match Re S with|none=>4|some p=>if S.length<p.2.2+n+5+5*(p.1+1)then 8 else 0
def dF (f:List ByteArray)(n:Nat):Int:=if bP f=0 then(if n=0 then 1 else if 800<n then 2 else TG (flat f) n)else bP f
def gZ (f:List ByteArray):Int:=if bP f=0 then(match Re (flat f)with|none=>4|some _=>0)else bP f
def bQ (f:List ByteArray):List ByteArray:=if bP f=0 then(match Re (flat f)with|none=>[]|some p=>p.2.1)else[]
def aW (f:List ByteArray)(s:List UInt8):List Ded:=match Re (flat f)with|none=>[]|some p=>CU p.2.2 (128*f.length -5*(p.1+1)) s
theorem Av {f:List ByteArray}{s:List UInt8}(h:dF f s.length=0):∃k r e0 e,Tj (flat f) k r e0 e/\U1 f k e s/\aW f s=CU e (128*f.length -5*(k+1)) s:=by
 unfold dF at h
 have b:bP f=0:=by
  by_cases g:bP f=0
  ·exact g
  ·rw[if_neg g]at h;exact h
 rw[if_pos b]at h
 have d:¬s.length=0:=fun d=>by rw[if_pos d]at h;cases h
 rw[if_neg d]at h
 have c:¬800<s.length:=fun c=>by rw[if_pos c]at h;cases h
 rw[if_neg c]at h
 unfold TG at h
 unfold aW
 cases a:Re (flat f)with
 |none=>rw[a]at h;cases h
 |some p=>
  rw[a]at h
  obtain⟨e0,j⟩:=xM a
  simp only at h
  refine⟨p.1,p.2.1,e0,p.2.2,j,⟨b,?_,by omega,by omega⟩,rfl⟩
  rw[<-fG b]
  by_cases i:(flat f).length<p.2.2+s.length+5+5*(p.1+1)
  ·rw[if_pos i]at h;cases h
  ·omega
end
section
open Go.ChangeShapes Go.WideShapes Go.ChangeAt Go.RowKit
theorem Tryz.Sa :mapsRowed Tryz.prog=true:=by kernel_rfl
theorem Tryz.Sc :(Rows.sessionLastsRow.plainKeys==Tryz.prog.plainKeys)=true:=by kernel_rfl
theorem Tryz.jD :Tryz.prog.stopsHeard=true:=by kernel_rfl
theorem Tryz.kY :Tryz.prog.mayEnter=true:=by kernel_rfl
theorem Tryz.rW :(Rows.sessionLastsRow.lifted==Tryz.prog.liftsFinal)=true:=by kernel_rfl
theorem Tryz.xI :(Tryz.prog.make==some Rows.sessionLastsRow.make)=true:=by kernel_rfl
theorem Tryz.UF :(Tryz.prog.stops==[])=true:=by kernel_rfl
theorem Tryz.SS :(Tryz.prog.stopKnobs==[])=true:=by kernel_rfl
end
end Go.Proofs.YtjiedaialianmaaGreat
