import Derived.Test.YtjiedaialianmaaGreatRows
import Derived.WalkSpells
import Derived.WalkLawsBesides
import Derived.Handy
import Derived.Lib.Hide
import Derived.BigQuiet
import Derived.Deep.RegionHeld3
import Derived.Lib.IndexBytes
import Derived.Lib.SmallJoins
import Derived.Test.YtjiedaialianmaaGreatKTiny
namespace Go.Proofs.YtjiedaialianmaaGreat
section
open Go.ChangeShapes Go.WideShapes Go.ChangeAt Go.RowKit
theorem Tryz.own :ownKnob Tryz.prog.godebug=none:=by kernel_rfl
theorem Tryz.laidOut :laidOutB Tryz.prog=true:=by kernel_rfl
section
variable {H:Type} {enc:TypeId×Value->H} {P:Program}
theorem sU (hl:laidOutB P=true){W W':World}(hb:Below W.heap.size W W'):∀{ts:List TypeId}{vs:List Value}{ds:List (DataW H)}{ps:List MemPlace},
  (∀t∈ts,P.readableRec t=true/\t<P.types.size)->DataW.TrodAll enc P W 0 (fun _=>true) true ts vs ds ps->(∀x∈ps,x.block<W.heap.size)->
  DataW.TrodAll enc P W' 0 (fun b=>decide (b<W.heap.size)) true ts vs ds ps
 | [],vs,ds,ps,_,h,_=>by
  obtain⟨rfl,rfl,rfl⟩:=trodAll_nil h
  exact trodAll_mk0
 |t::ts,vs,ds,ps,hr,h,hlt=>by
  obtain⟨v,vs',d,ds',p,q,rfl,rfl,rfl,h0,r0⟩:=trodAll_cons h
  have hrt:=hr t (by simp)
  exact trodAll_cons_mk (Below.trod hl hrt.1 hrt.2 h0 hb (fun x hx=>hlt x (by simp[hx]))) (sU hl hb (fun t ht=>hr t (by simp[ht])) r0 (fun x hx=>hlt x (by simp[hx])))
theorem nZ {f:Func}{s:ChangeSpec}{W W':World}{args:Array Value}{ds gs:List (DataW H)}{before:List MemPlace}{tb:TypeId}
  (hl:laidOutB P=true) (hW:DataW.Whole enc P f.params.toList s.vars false W args.toList ds gs before) (hv:s.vars=[]) (hr:∀t∈f.params.toList,P.readableRec t=true/\t<P.types.size)
  (hf:f.resultTypes=#[tb]) (hb:P.underlying tb=some .bool) (h1:(s.fn H (ds++gs)).results=[.lit (.bool true)]) (h2:(s.fn H (ds++gs)).args=ds) (h3:(s.fn H (ds++gs)).vars=[])
  (hbel:Below W.heap.size W W'):s.post enc P f false true false false W args (.bool true) W':=by
 have hlt:∀p∈before,p.block<W.heap.size:=fun p hp=>hW.lt p hp
 have hW':=hW
 obtain⟨p,q,hA,hV,rfl,hfz,hnd⟩:=hW
 rw[hv]at hV
 obtain⟨rfl,rfl⟩:=trodVars_none hV
 refine⟨ds,[],_,[],p,[],hW',?_,?_,?_,hbel.frame _,fun h=>by cases h⟩
 ·rw[h1,hf];exact trodAll_cons_mk (shut_bool hb true) trodAll_mk0
 ·rw[h2];exact sU hl hbel hr hA (fun x hx=>hlt x (by simp[hx]))
 ·rw[h3,hv];rfl
end
set_option maxRecDepth 100000
end
section
open Go
theorem KT (p i:Nat)(hp:p<256)(hi:i<8):(255 -p).testBit i=!p.testBit i:=by
 have:=Nat.testBit_two_pow_sub_succ (n:=8) (x:=p) (by omega) i
 rw[show(2:Nat)^8 -(p+1)=255 -p by omega]at this
 rw[this];simp[hi]
theorem Ma {a b:Nat}(ha:a<256)(hb:b<256)(h:∀i,i<8->a.testBit i=b.testBit i):a=b:=by
 apply Nat.eq_of_testBit_eq
 intro i
 rcases Nat.lt_or_ge i 8 with hi|hi
 ·exact h i hi
 ·have hp:256<=2^i:=Nat.pow_le_pow_right (n:=2) (by omega) hi
  rw[Nat.testBit_lt_two_pow (GY0 ha hp),Nat.testBit_lt_two_pow (GY0 hb hp)]
def AU (a v p:Nat):Nat:=a&&& (255 -((a&&& (255 -v))&&& p))
theorem uT {a b:Nat}(ha:a<256):a&&& b<256:=Nat.lt_of_le_of_lt Nat.and_le_left ha
theorem Me {a v p:Nat}(ha:a<256):AU a v p<256:=uT ha
theorem MP (a v p i:Nat)(ha:a<256)(hv:v<256)(hi:i<8):(AU a v p).testBit i=(a.testBit i&&(v.testBit i || !p.testBit i)):=by
 unfold AU
 rw[Nat.testBit_and,KT _ i (uT (uT ha)) hi,Nat.testBit_and,Nat.testBit_and,KT v i hv hi]
 cases a.testBit i<;>cases v.testBit i<;>cases p.testBit i<;>rfl
theorem VA (a v:Nat)(ha:a<256)(hv:v<256):AU a v 255=a&&& v:=by
 refine Ma (Me ha) (uT ha) fun i hi=>?_
 rw[MP a v 255 i ha hv hi,Nat.testBit_and]
 have:(255:Nat).testBit i=true:=by
  rw[show(255:Nat)=2^8 -1 from rfl,Nat.testBit_two_pow_sub_one];simp[hi]
 rw[this];simp
structure Ded where
 kind:Int
 at_:Int
 value:Int
def bP (l:List ByteArray):Int:=if 1<=l.length/\l.length<=32 then(if∀s∈l,s.size=128 then 0 else 1)else 3
def eB (n:Nat)(d:Ded):Int:=
 if d.kind=1 then(if 0<=d.at_/\d.at_<n*128/\0<=d.value/\d.value<=255 then 0 else 3)
 else if d.kind=2 then(if 0<=d.at_/\d.at_<n/\d.value=0 then 0 else 3)
 else 7
def qM (n:Nat):List Ded->Int
 | []=>0
 |d::l=>if eB n d=0 then qM n l else eB n d
def Eg (f:List ByteArray)(l:List Ded):Int:=if bP f=0 then qM f.length l else bP f
def bytesOf (s:ByteArray):List UInt8:=s.data.toList
def ofBytes (l:List UInt8):ByteArray:=⟨l.toArray⟩
theorem iZ (l:List UInt8):bytesOf (ofBytes l)=l:=by simp[bytesOf,ofBytes]
theorem wR (s:ByteArray):ofBytes (bytesOf s)=s:=by cases s;simp[bytesOf,ofBytes]
theorem RB (s:ByteArray):(bytesOf s).length=s.size:=Array.length_toList
theorem gJ (l:List UInt8):(ofBytes l).size=l.length:=by simp[ofBytes,ByteArray.size]
def Ny :List UInt8:=List.replicate 128 255
def blank :ByteArray:=ofBytes Ny
def IC (l:List UInt8)(i v p:Nat):List UInt8:=l.set i (UInt8.ofNat (AU (l.getD i 0).toNat v p))
def Ta (l:List UInt8)(p:Nat->Nat):List UInt8:=l.mapIdx fun i x=>UInt8.ofNat (x.toNat |||p i)
def fB (f:List ByteArray)(d:Ded)(p:Nat->Nat):List ByteArray:=
 if d.kind=1 then f.set (d.at_ / 128).toNat (ofBytes (IC (bytesOf (f.getD (d.at_ / 128).toNat ⟨#[]⟩)) (d.at_ % 128).toNat d.value.toNat (p 0)))
 else f.set d.at_.toNat (ofBytes (Ta (bytesOf (f.getD d.at_.toNat ⟨#[]⟩)) p))
def yI (f:List ByteArray)(d:Ded):List ByteArray:=fB f d (fun _=>255)
def bT (f:List ByteArray)(l:List Ded):List ByteArray:=l.foldl yI f
def flat (f:List ByteArray):List UInt8:=f.flatMap bytesOf
theorem jT (f:List ByteArray)(d:Ded)(p:Nat->Nat):(fB f d p).length=f.length:=by
 unfold fB;split<;>simp
theorem ER (l:List UInt8)(i v p:Nat):(IC l i v p).length=l.length:=by simp[IC]
theorem sS (l:List UInt8)(p:Nat->Nat):(Ta l p).length=l.length:=by simp[Ta]
theorem mem_set {α:Type}{l:List α}{i:Nat}{x y:α}(h:y∈l.set i x):y=x\/y∈l:=by
 rcases List.mem_or_eq_of_mem_set h with h|h
 ·exact .inr h
 ·exact .inl h
theorem TP {f:List ByteArray}{i:Nat}(h:i<f.length):f.getD i ⟨#[]⟩∈f:=by
 rw[List.getD_eq_getElem?_getD,GY5 h];simp
theorem xY {n:Nat}{d:Ded}(h:eB n d=0):(d.kind=1/\(d.at_ / 128).toNat<n/\(d.at_ % 128).toNat<128/\0<=d.at_/\0<=d.value/\d.value<=255)\/(d.kind=2/\d.at_.toNat<n/\0<=d.at_/\d.value=0):=by
 unfold eB at h
 split at h
 ·next hk=>
  split at h
  ·next hr=>exact .inl ⟨hk,by omega,by omega,by omega,by omega,by omega⟩
  ·cases h
 ·split at h
  ·next hk=>
   split at h
   ·next hr=>exact .inr ⟨hk,by omega,by omega,by omega⟩
   ·cases h
  ·cases h
theorem fP {f:List ByteArray}:bP f=0↔(1<=f.length/\f.length<=32)/\∀s∈f,s.size=128:=by
 unfold bP
 constructor
 ·intro h
  split at h
  ·next h1=>
   split at h
   ·next h2=>exact⟨h1,h2⟩
   ·cases h
  ·cases h
 ·rintro⟨h1,h2⟩
  rw[if_pos h1,if_pos h2]
theorem rR {f:List ByteArray}{d:Ded}(p:Nat->Nat)(hf:bP f=0)(hd:eB f.length d=0):bP (fB f d p)=0:=by
 obtain⟨h1,h2⟩:=fP.1 hf
 refine fP.2 ⟨by rw[jT];exact h1,fun s hs=>?_⟩
 unfold fB at hs
 rcases xY hd with⟨hk,hn,_⟩|⟨hk,hn,_⟩
 ·rw[if_pos hk]at hs
  rcases mem_set hs with rfl|h
  ·rw[gJ,ER,RB];exact h2 _ (TP hn)
  ·exact h2 _ h
 ·rw[if_neg (by omega)]at hs
  rcases mem_set hs with rfl|h
  ·rw[gJ,sS,RB];exact h2 _ (TP hn)
  ·exact h2 _ h
theorem nH {n:Nat}:∀{l:List Ded},qM n l=0↔∀d∈l,eB n d=0
 | []=>by simp[qM]
 |d::l=>by
  unfold qM
  constructor
  ·intro h
   split at h
   ·next h1=>intro x hx;rcases List.mem_cons.1 hx with rfl|hx;(exact h1);(exact nH.1 h x hx)
   ·next h1=>exact absurd h h1
  ·intro h
   rw[if_pos (h d (List.mem_cons_self ..))]
   exact nH.2 fun x hx=>h x (List.mem_cons_of_mem _ hx)
theorem I4 {f:List ByteArray}{l:List Ded}:Eg f l=0↔bP f=0/\∀d∈l,eB f.length d=0:=by
 unfold Eg
 constructor
 ·intro h
  split at h
  ·next h1=>exact⟨h1,nH.1 h⟩
  ·next h1=>exact absurd h h1
 ·rintro⟨h1,h2⟩
  rw[if_pos h1];exact nH.2 h2
theorem qQ :∀{l:List Ded}{f:List ByteArray},bP f=0->(∀d∈l,eB f.length d=0)->bP (bT f l)=0/\(bT f l).length=f.length
 | [],f,h,_=>⟨h,rfl⟩
 |d::l,f,h,hd=>by
  have e:(yI f d).length=f.length:=jT ..
  have:=qQ (l:=l) (rR (fun _=>255) h (hd d (List.mem_cons_self ..))) fun x hx=>by
   show eB (yI f d).length x=0
   rw[e];exact hd x (List.mem_cons_of_mem _ hx)
  exact⟨this.1,this.2.trans e⟩
theorem mM (f:List ByteArray)(a b:List Ded):bT f (a++b)=bT (bT f a) b:=List.foldl_append ..
theorem kJ (x:UInt8):x.toNat<256:=x.toNat_lt
theorem wY {n:Nat}(h:n<256):(UInt8.ofNat n).toNat=n:=by simp;omega
theorem getD_lt {l:List UInt8}{i:Nat}(h:i<l.length):l.getD i 0=l[i]:=by rw[List.getD_eq_getElem?_getD,GY5 h];rfl
theorem getD_set_ne {l:List UInt8}{i j:Nat}(h:i≠j)(x:UInt8):(l.set i x).getD j 0=l.getD j 0:=by
 rw[List.getD_eq_getElem?_getD,List.getElem?_set_ne h,List.getD_eq_getElem?_getD]
theorem Gn {l:List UInt8}{j:Nat}(g:Nat->UInt8->UInt8)(h:j<l.length):(l.mapIdx g).getD j 0=g j (l.getD j 0):=by
 rw[getD_lt (by simpa using h),getD_lt h];simp
theorem sZ {f:List ByteArray}{i:Nat}(h:i<f.length)(x y:ByteArray):(f.set i x).getD i y=x:=by
 rw[List.getD_eq_getElem?_getD,List.getElem?_set_self h];rfl
theorem mP :∀{f:List ByteArray},(∀s∈f,s.size=128)->(flat f).length=128*f.length
 | [],_=>rfl
 |s::f,h=>by
  have h1:=h s (List.mem_cons_self ..)
  have h2:=mP (f:=f) fun x hx=>h x (List.mem_cons_of_mem _ hx)
  unfold flat at h2 ⊢
  rw[List.flatMap_cons,GZ8,RB,h1,h2,GY8];omega
theorem DR :∀{f:List ByteArray},(∀s∈f,s.size=128)->∀n,n<f.length->((flat f).drop (128*n)).take 128=bytesOf (f.getD n ⟨#[]⟩)
 | [],_,n,h=>by simp at h
 |s::f,h,n,hn=>by
  have h1:=h s (List.mem_cons_self ..)
  have hs:(bytesOf s).length=128:=by rw[RB];exact h1
  have e:flat (s::f)=bytesOf s++flat f:=by unfold flat;rw[List.flatMap_cons]
  rw[e]
  cases n with
  |zero=>rw[Nat.mul_zero,List.drop_zero,List.take_append_of_le_length (by omega),List.take_of_length_le (by omega)];rfl
  |succ n=>
   rw[show 128*(n+1)=(bytesOf s).length+128*n by omega,List.drop_append,List.drop_eq_nil_of_le (by omega),List.nil_append,show(bytesOf s).length+128*n -(bytesOf s).length=128*n by omega,DR (fun x hx=>h x (List.mem_cons_of_mem _ hx)) n (by simpa using hn)]
   rfl
theorem xW {f:List ByteArray}(h:∀s∈f,s.size=128)(j:Nat)(hj:j<128*f.length):(flat f).getD j 0=(bytesOf (f.getD (j / 128) ⟨#[]⟩)).getD (j % 128) 0:=by
 have hn:j / 128<f.length:=by omega
 rw[<-DR h (j / 128) hn]
 rw[List.getD_eq_getElem?_getD,List.getD_eq_getElem?_getD,List.getElem?_take_of_lt (by omega),List.getElem?_drop,show 128*(j / 128)+j % 128=j by omega]
theorem qP {f:List ByteArray}{d:Ded}(p:Nat->Nat)(hf:bP f=0)(hd:eB f.length d=0)(j:Nat)(hj:j<128*f.length):
  (flat (fB f d p)).getD j 0=if d.kind=1/\(j:Int)=d.at_ then UInt8.ofNat (AU ((flat f).getD j 0).toNat d.value.toNat (p 0))else if d.kind=2/\((j / 128:Nat):Int)=d.at_ then UInt8.ofNat (((flat f).getD j 0).toNat |||p (j % 128))else(flat f).getD j 0:=by
 have hf2:=rR p hf hd
 obtain⟨_,h2⟩:=fP.1 hf
 obtain⟨_,h3⟩:=fP.1 hf2
 rw[xW h3 j (by rw[jT];exact hj),xW h2 j hj]
 unfold fB
 have hn:j / 128<f.length:=by omega
 have gd:∀(x:ByteArray)(i:Nat),i≠j / 128->(f.set i x).getD (j / 128) ⟨#[]⟩=f.getD (j / 128) ⟨#[]⟩:=fun x i hi=>by
  rw[List.getD_eq_getElem?_getD,List.getElem?_set_ne hi,List.getD_eq_getElem?_getD]
 rcases xY hd with⟨hk,hn1,hi,ha,hv0,hv⟩|⟨hk,hn1,ha,_⟩
 ·rw[if_pos hk]
  have e2:¬(d.kind=2/\((j / 128:Nat):Int)=d.at_):=by omega
  rw[if_neg e2]
  have hl:(bytesOf (f.getD (d.at_ / 128).toNat ⟨#[]⟩)).length=128:=by rw[RB];exact h2 _ (TP hn1)
  by_cases hb:(d.at_ / 128).toNat=j / 128
  ·rw[hb]at hl ⊢
   rw[sZ hn,iZ]
   unfold IC
   by_cases hj2:(d.at_ % 128).toNat=j % 128
   ·rw[if_pos ⟨hk,by omega⟩,hj2,List.getD_eq_getElem?_getD,List.getElem?_set_self (by omega)];rfl
   ·rw[if_neg (by omega),getD_set_ne hj2]
  ·rw[if_neg (by omega),gd _ _ hb]
 ·have e1:¬(d.kind=1/\(j:Int)=d.at_):=by omega
  rw[if_neg (by omega),if_neg e1]
  have hl:(bytesOf (f.getD d.at_.toNat ⟨#[]⟩)).length=128:=by rw[RB];exact h2 _ (TP hn1)
  by_cases hb:d.at_.toNat=j / 128
  ·rw[if_pos ⟨hk,by omega⟩]
   rw[hb]at hl ⊢
   rw[sZ hn,iZ]
   unfold Ta
   have hm:j % 128<(bytesOf (f.getD (j / 128) ⟨#[]⟩)).length:=by omega
   rw[Gn _ hm]
  ·rw[if_neg (by omega),gd _ _ hb]
end
section
open Go
def mD (l:List UInt8):Nat->Nat
 |0=>0
 |n+1=>if l.getD n 0=255 then mD l n else n+1
def iG (l:List UInt8):Nat:=mD l l.length
theorem xK (l:List UInt8):∀n,mD l n<=n
 |0=>GZ3 _
 |n+1=>by
  unfold mD
  split
  ·have:=xK l n;omega
  ·exact GZ3 _
theorem qO (l:List UInt8):∀n j,mD l n<=j->j<n->l.getD j 0=255
 |0,j,_,h=>by omega
 |n+1,j,h,hj=>by
  unfold mD at h
  split at h
  ·next e=>
   rcases Nat.lt_or_ge j n with hlt|hge
   ·exact qO l n j h hlt
   ·rw[show j=n by omega];exact e
  ·omega
theorem pI (l:List UInt8)(m:Nat):∀n,(∀j,m<=j->j<n->l.getD j 0=255)->mD l n<=m
 |0,_=>Nat.zero_le _
 |n+1,h=>by
  unfold mD
  split
  ·exact pI l m n fun j h1 h2=>h j h1 (by omega)
  ·next e=>
   rcases Nat.lt_or_ge n m with hlt|hge
   ·omega
   ·exact absurd (h n hge (by omega)) e
theorem pR {l:List UInt8}:iG l=0↔∀j,j<l.length->l.getD j 0=255:=
 ⟨fun h j hj=>qO l l.length j (by have:mD l l.length=0:=h;omega) hj,fun h=>Nat.le_zero.1 (pI l 0 _ fun j _ hj=>h j hj)⟩
def RV (S:List UInt8)(i:Nat):List UInt8:=(S.drop (S.length -5*(i+1))).take 5
def two (a b:UInt8):Nat:=a.toNat+256*b.toNat
def oV (E:List UInt8):Nat:=two (E.getD 0 0) (E.getD 1 0)
def iN (E:List UInt8):Nat:=two (E.getD 2 0) (E.getD 3 0)
def sO (S:List UInt8)(a n:Nat):ByteArray:=ofBytes ((S.drop a).take n)
def lV (S:List UInt8)(i:Nat):Prop:=5*(i+1)<=S.length/\iG (RV S i)≠0
instance (S :List UInt8)(i:Nat):Decidable (lV S i):=by unfold lV;infer_instance
def eU (S E:List UInt8)(r:List ByteArray)(e:Nat):Option (List ByteArray×Nat):=
 if E.getD 4 0≠0 then some (r,e)
 else if S.length<oV E+iN E\/iN E=0\/800<iN E then none
 else some (r++[sO S (oV E) (iN E)],max e (oV E+iN E))
def fV (S:List UInt8):Nat->Nat->List ByteArray->Nat->Option (Nat×List ByteArray×Nat)
 |0,i,r,e=>some (i,r,e)
 |k+1,i,r,e=>if lV S i then(match eU S (RV S i) r e with|none=>none|some p=>fV S k (i+1) p.1 p.2)else some (i,r,e)
def Re (S:List UInt8):Option (Nat×List ByteArray×Nat):=
 match fV S (S.length+1) 0 [] 0 with
 |none=>none
 |some p=>some (p.1,p.2.1,max p.2.2 (iG (S.take (S.length -5*p.1))))
theorem fQ (S:List UInt8)(k i:Nat)(r:List ByteArray)(e:Nat):fV S (k+1) i r e=if lV S i then(match eU S (RV S i) r e with|none=>none|some p=>fV S k (i+1) p.1 p.2)else some (i,r,e):=rfl
def Ap (S T:List UInt8)(a b:Nat):Prop:=T.length=S.length/\∀j,j<S.length->(j<a\/b<=j)->T.getD j 0=S.getD j 0
theorem UK {S:List UInt8}{a n j:Nat}(hj:j<n):((S.drop a).take n).getD j 0=S.getD (a+j) 0:=by
 rw[List.getD_eq_getElem?_getD,List.getElem?_take_of_lt hj,List.getElem?_drop,List.getD_eq_getElem?_getD]
theorem Ml {S T:List UInt8}{a n:Nat}(hl:T.length=S.length)(h:∀j,j<S.length->a<=j->j<a+n->T.getD j 0=S.getD j 0):(T.drop a).take n=(S.drop a).take n:=by
 apply List.ext_getElem?
 intro j
 rcases Nat.lt_or_ge j n with hj|hj
 ·rw[List.getElem?_take_of_lt hj,List.getElem?_take_of_lt hj,List.getElem?_drop,List.getElem?_drop]
  rcases Nat.lt_or_ge (a+j) S.length with hk|hk
  ·have:=h (a+j) hk (by omega) (by omega)
   rw[List.getD_eq_getElem?_getD,List.getD_eq_getElem?_getD,GY5 hk,GY5 (by omega)]at this
   rw[GY5 hk,GY5 (by omega)]
   simpa using this
  ·rw[List.getElem?_eq_none (by omega),List.getElem?_eq_none hk]
 ·rw[List.getElem?_eq_none (by simp;omega),List.getElem?_eq_none (by simp;omega)]
theorem Uz {S T:List UInt8}{a b i:Nat}(h:Ap S T a b)(hb:b<=S.length -5*(i+1)):RV T i=RV S i:=by
 unfold RV
 rw[h.1]
 exact Ml h.1 fun j hj h1 _=>h.2 j hj (.inr (by omega))
theorem F9 {S T:List UInt8}{a b i:Nat}(h:Ap S T a b)(hb:b<=S.length -5*(i+1)):lV T i↔lV S i:=by
 unfold lV
 rw[Uz h hb,h.1]
theorem Nr {S E:List UInt8}{r:List ByteArray}{e:Nat}{p:List ByteArray×Nat}(h:eU S E r e=some p):e<=p.2/\(p=(r,e)\/oV E+iN E<=p.2):=by
 unfold eU at h
 split at h
 ·injection h with h;subst h;exact⟨GZ3 _,.inl rfl⟩
 ·split at h
  ·cases h
  ·injection h with h;subst h
   exact⟨Nat.le_max_left _ _,.inr (Nat.le_max_right _ _)⟩
theorem JA {S T E:List UInt8}{a b:Nat}{r:List ByteArray}{e:Nat}{p:List ByteArray×Nat}(h:Ap S T a b)(hr:eU S E r e=some p)(ha:p.2<=a):eU T E r e=some p:=by
 unfold eU at hr ⊢
 rw[h.1]
 split at hr
 ·next h4=>rw[if_pos h4];exact hr
 ·next h4=>
  rw[if_neg h4]
  split at hr
  ·cases hr
  ·next hb=>
   rw[if_neg hb]
   injection hr with hr
   subst hr
   have:sO T (oV E) (iN E)=sO S (oV E) (iN E):=by
    unfold sO
    rw[Ml h.1 fun j hj h1 h2=>h.2 j hj (.inl (by
     have:=Nat.le_max_right e (oV E+iN E)
     simp only at ha;omega))]
   rw[this]
theorem xX {S:List UInt8}:∀{n i:Nat}{r:List ByteArray}{e k:Nat}{r1:List ByteArray}{e1:Nat},fV S n i r e=some (k,r1,e1)->i<=k/\k<=i+n/\e<=e1/\(5*i<=S.length->5*k<=S.length)/\(S.length<5*(i+n+1)->¬lV S k)
 |0,i,r,e,k,r1,e1,h=>by
  simp only[fV,Option.some.injEq,Prod.mk.injEq]at h
  obtain⟨rfl,rfl,rfl⟩:=h
  exact⟨GZ3 _,GZ3 _,GZ3 _,fun h=>h,fun h hb=>by have:=hb.1;omega⟩
 |n+1,i,r,e,k,r1,e1,h=>by
  rw[fQ]at h
  split at h
  ·next hb=>
   cases hr:eU S (RV S i) r e with
   |none=>rw[hr]at h;cases h
   |some p=>
    rw[hr]at h
    obtain⟨h1,h2,h3,h4,h5⟩:=xX (n:=n) h
    have:=(Nr hr).1
    exact⟨by omega,by omega,by omega,fun _=>h4 hb.1,fun h=>h5 (by omega)⟩
  ·next hb=>
   injection h with h
   injection h with h1 h2
   injection h2 with h2 h3
   subst h1 h2 h3
   exact⟨GZ3 _,by omega,GZ3 _,fun h=>h,fun _=>hb⟩
theorem Bc {S T:List UInt8}{a b:Nat}(h:Ap S T a b):∀{n i:Nat}{r:List ByteArray}{e k:Nat}{r1:List ByteArray}{e1:Nat}(m:Nat),fV S n i r e=some (k,r1,e1)->e1<=a->b<=S.length -5*k->k -i<=m->fV T m i r e=fV T (m -(k -i)) k r1 e1
 |0,i,r,e,k,r1,e1,m,hs,_,_,_=>by
  simp only[fV,Option.some.injEq,Prod.mk.injEq]at hs
  obtain⟨rfl,rfl,rfl⟩:=hs
  rw[Nat.sub_self,Nat.sub_zero]
 |n+1,i,r,e,k,r1,e1,m,hs,ha,hb,hm=>by
  rw[fQ]at hs
  split at hs
  ·next hg=>
   cases hr:eU S (RV S i) r e with
   |none=>rw[hr]at hs;cases hs
   |some p=>
    rw[hr]at hs
    obtain⟨h1,h2,h3,h4,h5⟩:=xX hs
    have hbi:b<=S.length -5*(i+1):=by omega
    cases m with
    |zero=>omega
    |succ m=>
     rw[fQ,if_pos ((F9 h hbi).2 hg),Uz h hbi,JA h hr (by omega)]
     have:=Bc h (n:=n) m hs ha hb (by omega)
     show fV T m (i+1) p.1 p.2=_
     rw[this]
     congr 1;omega
  ·injection hs with hs
   injection hs with h1 h2
   injection h2 with h2 h3
   subst h1 h2 h3
   rw[Nat.sub_self,Nat.sub_zero]
structure Tj (S:List UInt8)(k:Nat)(r:List ByteArray)(e0 e:Nat):Prop where
 scan:fV S (S.length+1) 0 [] 0=some (k,r,e0)
 end_:e=max e0 (iG (S.take (S.length -5*k)))
theorem xM {S:List UInt8}{k:Nat}{r:List ByteArray}{e:Nat}(h:Re S=some (k,r,e)):∃e0,Tj S k r e0 e:=by
 unfold Re at h
 cases hs:fV S (S.length+1) 0 [] 0 with
 |none=>rw[hs]at h;cases h
 |some p=>
  rw[hs]at h
  simp only[Option.some.injEq,Prod.mk.injEq]at h
  obtain⟨rfl,rfl,rfl⟩:=h
  exact⟨p.2.2,hs,rfl⟩
theorem Tj.load {S:List UInt8}{k:Nat}{r:List ByteArray}{e0 e:Nat}(h:Tj S k r e0 e):Re S=some (k,r,e):=by
 unfold Re
 rw[h.scan,h.end_]
theorem Tj.many {S:List UInt8}{k:Nat}{r:List ByteArray}{e0 e:Nat}(h:Tj S k r e0 e):5*k<=S.length:=(xX h.scan).2.2.2.1 (by omega)
theorem Fv {S:List UInt8}{n j:Nat}(h:j<n):(S.take n).getD j 0=S.getD j 0:=by
 rw[List.getD_eq_getElem?_getD,List.getElem?_take_of_lt h,List.getD_eq_getElem?_getD]
theorem Tj.free {S:List UInt8}{k:Nat}{r:List ByteArray}{e0 e:Nat}(h:Tj S k r e0 e)(j:Nat)(h1:e<=j)(h2:j<S.length -5*k):S.getD j 0=255:=by
 have hu:iG (S.take (S.length -5*k))<=j:=GY1 (h.end_▸Nat.le_max_right _ _) h1
 have hl:(S.take (S.length -5*k)).length=S.length -5*k:=by rw[GY6];omega
 unfold iG at hu
 rw[hl]at hu
 rw[<-Fv h2]
 exact qO _ _ j hu h2
theorem pK {T:List UInt8}{n m:Nat}(h:∀j,m<=j->j<n->T.getD j 0=255):iG (T.take n)<=m:=by
 unfold iG
 refine pI _ m _ fun j h1 h2=>?_
 have:j<n:=by rw[GY6]at h2;omega
 rw[Fv this];exact h j h1 this
structure Next (S T:List UInt8)(k e n:Nat):Prop where
 len:T.length=S.length
 room:e+n+5+5*(k+1)<=S.length
 same:∀j,j<S.length->(j<e\/(e+n<=j/\j<S.length -5*(k+1))\/S.length -5*k<=j)->T.getD j 0=S.getD j 0
section
variable {S T:List UInt8} {k:Nat} {r:List ByteArray} {e0 e n:Nat}
theorem Next.alike (h:Next S T k e n):Ap S T e (S.length -5*k):=⟨h.len,fun j hj hh=>h.same j hj (by omega)⟩
theorem Next.scan (h:Next S T k e n)(ho:Tj S k r e0 e):fV T (T.length+1) 0 [] 0=fV T (S.length+1 -k) k r e0:=by
 have:=Bc h.alike (T.length+1) ho.scan (ho.end_▸Nat.le_max_left _ _) (GZ3 _) (by have:=ho.many;rw[h.len];omega)
 rw[this,h.len];rfl
theorem UC (S:List UInt8)(i j:Nat)(hj:j<5):(RV S i).getD j 0=S.getD (S.length -5*(i+1)+j) 0:=UK hj
theorem TS {S:List UInt8}{i:Nat}(h:5*(i+1)<=S.length):(RV S i).length=5:=by unfold RV;rw[GY6,List.length_drop];omega
theorem Next.stop (h:Next S T k e n)(ho:Tj S k r e0 e):¬lV T (k+1):=by
 rintro⟨h1,h2⟩
 apply h2
 have hr:=h.room
 have hl:=h.len
 refine pR.2 fun j hj=>?_
 rw[TS h1]at hj
 rw[UC _ _ _ hj,h.same _ (by omega) (by omega)]
 exact ho.free _ (by omega) (by omega)
theorem Next.used (h:Next S T k e n)(ho:Tj S k r e0 e):iG (T.take (T.length -5*(k+1)))<=e+n:=by
 have hr:=h.room
 have hl:=h.len
 refine pK fun j h1 h2=>?_
 rw[h.same j (by omega) (by omega)]
 exact ho.free j (by omega) (by omega)
theorem Next.none (h:Next S T k e n)(ho:Tj S k r e0 e)(h4:(RV T k).getD 4 0≠0):∃k' e',Re T=some (k',r,e')/\k<=k'/\k'<=k+1/\e'<=e+n:=by
 have hr:=h.room
 have hl:=h.len
 have hee:e0<=e:=ho.end_▸Nat.le_max_left _ _
 have hs:=h.scan ho
 obtain⟨m,hm⟩:∃m,S.length+1 -k=m+2:=⟨S.length -1 -k,by have:=ho.many;omega⟩
 rw[hm,fQ T (m+1) k]at hs
 by_cases hb:lV T k
 ·rw[if_pos hb]at hs
  have hre:eU T (RV T k) r e0=some (r,e0):=by unfold eU;rw[if_pos h4]
  rw[hre]at hs
  change _=fV T (m+1) (k+1) r e0 at hs
  rw[fQ T m (k+1),if_neg (h.stop ho)]at hs
  refine⟨k+1,max e0 (iG (T.take (T.length -5*(k+1)))),?_,by omega,GZ3 _,?_⟩
  ·unfold Re;rw[hs]
  ·have:=h.used ho;omega
 ·rw[if_neg hb]at hs
  refine⟨k,max e0 (iG (T.take (T.length -5*k))),?_,GZ3 _,by omega,?_⟩
  ·unfold Re;rw[hs]
  ·have hu:iG (T.take (T.length -5*k))<=e+n:=by
    refine pK fun j h1 h2=>?_
    rcases Nat.lt_or_ge j (T.length -5*(k+1))with hj|hj
    ·rw[h.same j (by omega) (by omega)]
     exact ho.free j (by omega) (by omega)
    ·have hbl:iG (RV T k)=0:=by
      by_cases hz:iG (RV T k)=0
      ·exact hz
      ·exact absurd ⟨by omega,hz⟩ hb
     have:=pR.1 hbl (j -(T.length -5*(k+1))) (by rw[TS (by omega)];omega)
     rw[UC _ _ _ (by omega)]at this
     rw[<-this];congr 1;omega
   omega
theorem Next.whole (h:Next S T k e n)(ho:Tj S k r e0 e)(h4:(RV T k).getD 4 0=0)(ha:oV (RV T k)=e)(hn:iN (RV T k)=n)(h1:1<=n)(h8:n<=800):
  Re T=some (k+1,r++[sO T e n],e+n):=by
 have hr:=h.room
 have hl:=h.len
 have hee:e0<=e:=ho.end_▸Nat.le_max_left _ _
 have hs:=h.scan ho
 obtain⟨m,hm⟩:∃m,S.length+1 -k=m+2:=⟨S.length -1 -k,by have:=ho.many;omega⟩
 rw[hm,fQ T (m+1) k]at hs
 have hb:lV T k:=⟨by omega,fun hz=>by
  have:=pR.1 hz 4 (by rw[TS (by omega)];omega)
  rw[h4]at this;exact absurd this (by decide)⟩
 have hre:eU T (RV T k) r e0=some (r++[sO T e n],max e0 (e+n)):=by
  unfold eU
  rw[if_neg (by rw[h4];exact fun h=>h rfl),ha,hn,if_neg (by omega)]
 rw[if_pos hb,hre]at hs
 change _=fV T (m+1) (k+1) (r++[sO T e n]) (max e0 (e+n))at hs
 rw[fQ T m (k+1),if_neg (h.stop ho)]at hs
 unfold Re
 rw[hs]
 have:=h.used ho
 simp only
 congr 3
 omega
end
end
section
open Go
def jM :Nat->List UInt8->List Ded
 |_,[]=>[]
 |a,c::l=>if c=255 then jM (a+1) l else⟨1,a,c.toNat⟩::jM (a+1) l
def b8 (n:Nat):UInt8:=UInt8.ofNat (n % 256)
def Sw (e n:Nat):List UInt8:=[b8 e,b8 (e / 256),b8 n,b8 (n / 256)]
def CU (e p:Nat)(s:List UInt8):List Ded:=jM e s++jM p (Sw e s.length)++[⟨1,((p+4:Nat):Int),0⟩]
theorem IP (a:Nat)(l:List UInt8)(c:UInt8):jM a (l++[c])=jM a l++(if c=255 then[]else[⟨1,((a+l.length:Nat):Int),c.toNat⟩]):=by
 induction l generalizing a with
 |nil=>simp[jM]
 |cons x l ih=>
  rw[List.cons_append]
  unfold jM
  have e:a+1+l.length=a+(x::l).length:=by rw[GY8];omega
  split
  ·rw[ih,e]
  ·rw[ih,e,List.cons_append]
def Within (a n:Nat)(d:Ded):Prop:=d.kind=1/\(∃p:Nat,d.at_=p/\a<=p/\p<a+n)/\0<=d.value/\d.value<=255
theorem Within.more {a n a' n':Nat}{d:Ded}(h:Within a n d)(h1:a'<=a)(h2:a+n<=a'+n'):Within a' n' d:=by
 obtain⟨h3,⟨p,h4,h5,h6⟩,h7⟩:=h
 exact⟨h3,⟨p,h4,by omega,by omega⟩,h7⟩
theorem nS :∀(a:Nat)(l:List UInt8)(d:Ded),d∈jM a l->Within a l.length d
 |_,[],_,h=>by simp[jM]at h
 |a,c::l,d,h=>by
  unfold jM at h
  split at h
  ·exact(nS (a+1) l d h).more (by omega) (by rw[GY8];omega)
  ·rcases List.mem_cons.1 h with rfl|h
   ·have:=c.toNat_lt
    exact⟨rfl,⟨a,rfl,GZ3 _,by rw[GY8];omega⟩,by simp only;omega,by simp only;omega⟩
   ·exact(nS (a+1) l d h).more (by omega) (by rw[GY8];omega)
theorem Within.ok {a n m:Nat}{d:Ded}(h:Within a n d)(hm:a+n<=128*m):eB m d=0:=by
 obtain⟨h1,⟨p,h2,h3,h4⟩,h5,h6⟩:=h
 unfold eB
 rw[if_pos h1,if_pos ⟨by omega,by omega,h5,h6⟩]
theorem Ik {f:List ByteArray}{d:Ded}(p:Nat->Nat)(hf:bP f=0)(hd:eB f.length d=0)(hk:d.kind=1){j:Nat}(hj:j<128*f.length)(h:(j:Int)≠d.at_):(flat (fB f d p)).getD j 0=(flat f).getD j 0:=by
 rw[qP p hf hd j hj,if_neg (fun h'=>h h'.2),if_neg (by omega)]
theorem pE :∀(l:List UInt8)(a:Nat)(f:List ByteArray),bP f=0->a+l.length<=128*f.length->(∀j,a<=j->j<a+l.length->(flat f).getD j 0=255)->∀p,p<128*f.length->
  (flat (bT f (jM a l))).getD p 0=if a<=p/\p<a+l.length then l.getD (p -a) 0 else(flat f).getD p 0
 | [],a,f,_,_,_,p,_=>by
  show(flat f).getD p 0=_
  rw[if_neg (by simp only[List.length_nil];omega)]
 |c::l,a,f,hf,hl,h,p,hp=>by
  have hlen:(c::l).length=l.length+1:=rfl
  rw[hlen]at hl h ⊢
  unfold jM
  by_cases hc:c=255
  ·rw[if_pos hc,pE l (a+1) f hf (by omega) (fun j h1 h2=>h j (by omega) (by omega)) p hp]
   by_cases h1:a+1<=p/\p<a+1+l.length
   ·rw[if_pos h1,if_pos (by omega),show p -a=p -(a+1)+1 by omega,List.getD_cons_succ]
   ·rw[if_neg h1]
    by_cases h2:p=a
    ·rw[if_pos (by omega),h2,Nat.sub_self,List.getD_cons_zero,hc];exact h a (GZ3 _) (by omega)
    ·rw[if_neg (by omega)]
  ·rw[if_neg hc]
   obtain⟨d,hd⟩:∃d:Ded,d=⟨1,a,c.toNat⟩:=⟨_,rfl⟩
   rw[<-hd]
   have c8:=c.toNat_lt
   have hdk:eB f.length d=0:=by
    rw[hd];unfold eB
    rw[if_pos rfl,if_pos ⟨by simp only;omega,by simp only;omega,by simp only;omega,by simp only;omega⟩]
   have e:(yI f d).length=f.length:=jT ..
   have hb:∀q,q<128*f.length->(flat (yI f d)).getD q 0=if q=a then c else(flat f).getD q 0:=fun q hq=>by
    unfold yI
    rw[qP _ hf hdk q hq,hd]
    by_cases hqa:q=a
    ·rw[if_pos ⟨rfl,by simp only;omega⟩,if_pos hqa,VA _ _ (kJ _) (by simp only;omega),hqa,h a (GZ3 _) (by omega)]
     show UInt8.ofNat (255&&& ((c.toNat:Int)).toNat)=c
     rw[Int.toNat_natCast,Nat.and_comm,show(255:Nat)=2^8 -1 from rfl,Nat.and_two_pow_sub_one_of_lt_two_pow c8]
     simp
    ·rw[if_neg (by simp only;omega),if_neg (by simp only;omega),if_neg hqa]
   show(flat (bT (yI f d) (jM (a+1) l))).getD p 0=_
   rw[pE l (a+1) (yI f d) (rR _ hf hdk) (by rw[e];omega) (fun j h1 h2=>by rw[hb j (by omega),if_neg (by omega)];exact h j (by omega) (by omega)) p (by rw[e];exact hp),hb p hp]
   by_cases h1:a+1<=p/\p<a+1+l.length
   ·rw[if_pos h1,if_pos (by omega),show p -a=p -(a+1)+1 by omega,List.getD_cons_succ]
   ·rw[if_neg h1]
    by_cases h2:p=a
    ·rw[if_pos h2,if_pos (by omega),h2,Nat.sub_self,List.getD_cons_zero]
    ·rw[if_neg h2,if_neg (by omega)]
theorem Mj {n:Nat}(h:n<65536):two (b8 n) (b8 (n / 256))=n:=by
 unfold two b8
 rw[wY (by omega),wY (by omega)]
 omega
section
variable {f:List ByteArray} {k:Nat} {r:List ByteArray} {e0 e:Nat} {s:List UInt8}
structure U1 (f:List ByteArray)(k:Nat)(e:Nat)(s:List UInt8):Prop where
 ok:bP f=0
 room:e+s.length+5+5*(k+1)<=128*f.length
 one:1<=s.length
 most:s.length<=800
def headD (f:List ByteArray)(k e:Nat)(s:List UInt8):List Ded:=jM e s++jM (128*f.length -5*(k+1)) (Sw e s.length)
def qZ (f:List ByteArray)(k:Nat):Ded:=⟨1,((128*f.length -5*(k+1)+4:Nat):Int),0⟩
theorem KW (f:List ByteArray)(k e:Nat)(s:List UInt8):CU e (128*f.length -5*(k+1)) s=headD f k e s++[qZ f k]:=rfl
def Touch (f:List ByteArray)(k e n:Nat)(d:Ded):Prop:=d.kind=1/\eB f.length d=0/\∃p:Nat,d.at_=p/\((e<=p/\p<e+n)\/(128*f.length -5*(k+1)<=p/\p<128*f.length -5*(k+1)+4))
theorem zS (h:U1 f k e s):∀d∈headD f k e s,Touch f k e s.length d:=by
 intro d hd
 have hr:=h.room
 rcases List.mem_append.1 hd with hd|hd
 ·have hw:=nS _ _ _ hd
  have hv:=hw
  obtain⟨h1,⟨p,h2,h3,h4⟩,_⟩:=hv
  exact⟨h1,hw.ok (by omega),p,h2,.inl ⟨h3,h4⟩⟩
 ·have hw:=nS _ _ _ hd
  have hv:=hw
  obtain⟨h1,⟨p,h2,h3,h4⟩,_⟩:=hv
  exact⟨h1,hw.ok (by have:(Sw e s.length).length=4:=rfl;omega),p,h2,.inr ⟨h3,h4⟩⟩
theorem ET (h:U1 f k e s):eB f.length (qZ f k)=0:=by
 have hr:=h.room
 unfold eB qZ
 rw[if_pos rfl,if_pos ⟨by simp only;omega,by simp only;omega,by simp only;omega,by simp only;omega⟩]
theorem FM (h:U1 f k e s):∀d∈CU e (128*f.length -5*(k+1)) s,eB f.length d=0:=by
 intro d hd
 rw[KW]at hd
 rcases List.mem_append.1 hd with hd|hd
 ·exact(zS h d hd).2.1
 ·rw[List.mem_singleton.1 hd];exact ET h
theorem Ed (h:U1 f k e s){l:List Ded}(hl:∀d∈l,d∈headD f k e s):bP (bT f l)=0/\(bT f l).length=f.length:=qQ h.ok fun d hd=>(zS h d (hl d hd)).2.1
theorem fG {f:List ByteArray}(h:bP f=0):(flat f).length=128*f.length:=mP (fP.1 h).2
theorem Pw (h:U1 f k e s){g:List ByteArray}(hg:bP g=0)(hgl:g.length=f.length)(hh:∀j,j<128*f.length->¬(e<=j/\j<e+s.length)->¬(128*f.length -5*(k+1)<=j/\j<128*f.length -5*k)->(flat g).getD j 0=(flat f).getD j 0):Next (flat f) (flat g) k e s.length:=by
 have hr:=h.room
 refine⟨by rw[fG hg,fG h.ok,hgl],by rw[fG h.ok];omega,fun j hj hc=>?_⟩
 rw[fG h.ok]at hj hc
 exact hh j hj (by omega) (by omega)
theorem uJ (h:U1 f k e s)(ho:Tj (flat f) k r e0 e){j:Nat}(hj:j<128*f.length):
  (flat (bT f (headD f k e s))).getD j 0=if e<=j/\j<e+s.length then s.getD (j -e) 0 else if 128*f.length -5*(k+1)<=j/\j<128*f.length -5*(k+1)+4 then(Sw e s.length).getD (j -(128*f.length -5*(k+1))) 0 else(flat f).getD j 0:=by
 have hr:=h.room
 have hfr:=ho.free
 rw[fG h.ok]at hfr
 have hp1:∀d∈jM e s,d∈headD f k e s:=fun d hd=>List.mem_append_left _ hd
 obtain⟨o1,o2⟩:=Ed h hp1
 have b1:=pE s e f h.ok (by omega) (fun j h1 h2=>hfr j h1 (by omega))
 unfold headD
 rw[mM]
 have hq:(Sw e s.length).length=4:=rfl
 rw[pE (Sw e s.length) (128*f.length -5*(k+1)) (bT f (jM e s)) o1 (by rw[o2,hq];omega) (fun q h1 h2=>by
  rw[hq]at h2
  rw[b1 q (by omega),if_neg (by omega)];exact hfr q (by omega) (by omega)) j (by rw[o2];exact hj),hq,b1 j hj]
 by_cases c1:128*f.length -5*(k+1)<=j/\j<128*f.length -5*(k+1)+4
 ·rw[if_pos c1,if_neg (by omega),if_pos c1]
 ·rw[if_neg c1]
  by_cases c2:e<=j/\j<e+s.length
  ·rw[if_pos c2,if_pos c2]
  ·rw[if_neg c2,if_neg c2,if_neg c1]
theorem LJ (h:U1 f k e s)(ho:Tj (flat f) k r e0 e)(p:Nat->Nat)(hp:(flat (fB (bT f (headD f k e s)) (qZ f k) p)).getD (128*f.length -5*(k+1)+4) 0=0):
  Re (flat (fB (bT f (headD f k e s)) (qZ f k) p))=some (k+1,r++[ofBytes s],e+s.length):=by
 have hr:=h.room
 have h1:=h.one
 have h8:=h.most
 obtain⟨o1,o2⟩:=Ed h (l:=headD f k e s) fun d hd=>hd
 have hlo:eB (bT f (headD f k e s)).length (qZ f k)=0:=by rw[o2];exact ET h
 obtain⟨g,hg⟩:=Nm (fB (bT f (headD f k e s)) (qZ f k) p)
 have hgo:bP g=0:=hg▸rR p o1 hlo
 have hgl:g.length=f.length:=by rw[hg,jT,o2]
 have hb:∀j,j<128*f.length->j≠128*f.length -5*(k+1)+4->(flat g).getD j 0=(flat (bT f (headD f k e s))).getD j 0:=fun j hj hne=>by
  rw[hg];exact Ik p o1 hlo rfl (by rw[o2];exact hj) (by unfold qZ;simp only;omega)
 rw[<-hg]at hp ⊢
 have hn:Next (flat f) (flat g) k e s.length:=Pw h hgo hgl fun j hj c1 c2=>by
  rw[hb j hj (by omega),uJ h ho hj,if_neg c1,if_neg (by omega)]
 have hL:(flat g).length=128*f.length:=by rw[fG hgo,hgl]
 have he5:∀q,q<5->(RV (flat g) k).getD q 0=(flat g).getD (128*f.length -5*(k+1)+q) 0:=fun q hq=>by rw[UC _ _ _ hq,hL]
 have he4:∀q,q<4->(RV (flat g) k).getD q 0=(Sw e s.length).getD q 0:=fun q hq=>by
  rw[he5 q (by omega),hb _ (by omega) (by omega),uJ h ho (by omega),if_neg (by omega),if_pos (by omega),Nat.add_sub_cancel_left]
 have heS:128*f.length<=4096:=by have:=(fP.1 h.ok).1.2;omega
 have hw:=hn.whole ho (by rw[he5 4 (by omega)];exact hp)
  (by unfold oV;rw[he4 0 (by omega),he4 1 (by omega)];exact Mj (by omega))
  (by unfold iN;rw[he4 2 (by omega),he4 3 (by omega)];exact Mj (by omega)) h1 h8
 rw[hw]
 congr 4
 unfold sO
 refine congrArg (fun l=>[ofBytes l]) ?_
 apply List.ext_getElem?
 intro j
 rcases Nat.lt_or_ge j s.length with hj|hj
 ·have:((flat g).drop e |>.take s.length).getD j 0=s.getD j 0:=by
   rw[UK hj,hb _ (by omega) (by omega),uJ h ho (by omega),if_pos (by omega),Nat.add_sub_cancel_left]
  rw[List.getD_eq_getElem?_getD,List.getD_eq_getElem?_getD,GY5 hj,GY5 (by rw[GY6,List.length_drop];omega)]at this
  rw[GY5 hj,GY5 (by rw[GY6,List.length_drop];omega)]
  simpa using this
 ·rw[List.getElem?_eq_none (by rw[GY6];omega),List.getElem?_eq_none hj]
theorem FO (h:U1 f k e s)(ho:Tj (flat f) k r e0 e):Re (flat (bT f (CU e (128*f.length -5*(k+1)) s)))=some (k+1,r++[ofBytes s],e+s.length):=by
 have hr:=h.room
 obtain⟨o1,o2⟩:=Ed h (l:=headD f k e s) fun d hd=>hd
 have hlo:eB (bT f (headD f k e s)).length (qZ f k)=0:=by rw[o2];exact ET h
 rw[KW,mM]
 show Re (flat (fB (bT f (headD f k e s)) (qZ f k) (fun _=>255)))=_
 refine LJ h ho _ ?_
 rw[qP _ o1 hlo _ (by rw[o2];omega),if_pos ⟨rfl,rfl⟩,VA _ (qZ f k).value.toNat (kJ _) (show(0:Int).toNat<256 by decide)]
 show UInt8.ofNat (_&&& (0:Int).toNat)=0
 simp
end
theorem Bh (n j:Nat)(h:j<128*n):(flat (List.replicate n blank)).getD j 0=255:=by
 rw[xW (fun s hs=>by rw[(List.mem_replicate.1 hs).2];rfl) j (by rw[List.length_replicate];exact h)]
 have hm:(List.replicate n blank).getD (j / 128) ⟨#[]⟩=blank:=by
  rw[List.getD_eq_getElem?_getD,List.getElem?_replicate,if_pos (by omega)];rfl
 rw[hm]
 unfold blank
 rw[iZ]
 unfold Ny
 rw[List.getD_eq_getElem?_getD,List.getElem?_replicate,if_pos (by omega)];rfl
theorem kR (n:Nat):Re (flat (List.replicate n blank))=some (0,[],0):=by
 have hl:(flat (List.replicate n blank)).length=128*n:=by
  rw[mP (fun s hs=>by rw[(List.mem_replicate.1 hs).2];rfl),List.length_replicate]
 have hb:¬lV (flat (List.replicate n blank)) 0:=by
  rintro⟨h1,h2⟩
  apply h2
  refine pR.2 fun j hj=>?_
  rw[TS h1]at hj
  rw[UC _ _ _ hj]
  exact Bh n _ (by omega)
 unfold Re
 rw[fQ,if_neg hb]
 have:iG ((flat (List.replicate n blank)).take ((flat (List.replicate n blank)).length -5*0))<=0:=pK fun j _ h2=>Bh n j (by omega)
 simp only
 congr 3
 omega
def TG (S:List UInt8)(n:Nat):Int:=match Re S with|none=>4|some p=>if S.length<p.2.2+n+5+5*(p.1+1)then 8 else 0
def dF (f:List ByteArray)(n:Nat):Int:=if bP f=0 then(if n=0 then 1 else if 800<n then 2 else TG (flat f) n)else bP f
def gZ (f:List ByteArray):Int:=if bP f=0 then(match Re (flat f)with|none=>4|some _=>0)else bP f
def bQ (f:List ByteArray):List ByteArray:=if bP f=0 then(match Re (flat f)with|none=>[]|some p=>p.2.1)else[]
def aW (f:List ByteArray)(s:List UInt8):List Ded:=match Re (flat f)with|none=>[]|some p=>CU p.2.2 (128*f.length -5*(p.1+1)) s
theorem Av {f:List ByteArray}{s:List UInt8}(h:dF f s.length=0):∃k r e0 e,Tj (flat f) k r e0 e/\U1 f k e s/\aW f s=CU e (128*f.length -5*(k+1)) s:=by
 unfold dF at h
 have hf:bP f=0:=by
  by_cases h0:bP f=0
  ·exact h0
  ·rw[if_neg h0]at h;exact h
 rw[if_pos hf]at h
 have h1:¬s.length=0:=fun h1=>by rw[if_pos h1]at h;cases h
 rw[if_neg h1]at h
 have h8:¬800<s.length:=fun h8=>by rw[if_pos h8]at h;cases h
 rw[if_neg h8]at h
 unfold TG at h
 unfold aW
 cases hj:Re (flat f)with
 |none=>rw[hj]at h;cases h
 |some p=>
  rw[hj]at h
  obtain⟨e0,ho⟩:=xM hj
  simp only at h
  refine⟨p.1,p.2.1,e0,p.2.2,ho,⟨hf,?_,by omega,by omega⟩,rfl⟩
  rw[<-fG hf]
  by_cases hr:(flat f).length<p.2.2+s.length+5+5*(p.1+1)
  ·rw[if_pos hr]at h;cases h
  ·omega
end
section
open Go.ChangeShapes Go.WideShapes Go.ChangeAt Go.RowKit
theorem Tryz.Sa :mapsRowed Tryz.prog=true:=by kernel_rfl
theorem Tryz.Sc :(Rows.sessionLastsRow.plainKeys==Tryz.prog.plainKeys)=true:=by kernel_rfl
theorem Tryz.jD :Tryz.prog.stopsHeard=true:=by kernel_rfl
theorem Tryz.kY :Tryz.prog.mayEnter=true:=by kernel_rfl
theorem Tryz.rW :(Rows.sessionLastsRow.lifted==Tryz.prog.liftsFinal)=true:=by kernel_rfl
theorem Tryz.xI :(Tryz.prog.make==some Rows.sessionLastsRow.make)=true:=by kernel_rfl
theorem Tryz.UF :(Tryz.prog.stops==[])=true:=by kernel_rfl
theorem Tryz.SS :(Tryz.prog.stopKnobs==[])=true:=by kernel_rfl
end
end Go.Proofs.YtjiedaialianmaaGreat
