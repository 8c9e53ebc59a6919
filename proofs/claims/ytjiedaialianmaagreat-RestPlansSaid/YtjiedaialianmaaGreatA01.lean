import Derived.Test.YtjiedaialianmaaGreatRows
import Derived.WalkSpells
import Derived.WalkLawsBesides
import Derived.Handy
import Derived.Lib.Hide
import Derived.BigQuiet
import Derived.Deep.RegionHeld3
import Derived.Lib.IndexBytes
import Derived.RangeFuncBox
import Derived.Shelf.Abstract
import Derived.OwnWalkIn
import Derived.TacticsInMore
import Derived.LoopNIn
import Derived.LoopIn
import Derived.Test.YtjiedaialianmaaGreatKTiny
set_option maxHeartbeats 1000000
namespace Go.Proofs.YtjiedaialianmaaGreat
section
def eQ (z at_ b:Int):Int:=if b<1\/4<b then 7 else if at_<0\/z<at_\/z -at_<b then 3 else 0
theorem uZ (k:Nat)(a:1<=k)(h:k<=32):(2:Int)<=2^k/\(2:Int)^k<=4294967296/\(2:Int)^k % 2=0:=by
 have:∀k:Fin 33,1<=k.val->(2:Int)<=2^k.val/\(2:Int)^k.val<=4294967296/\(2:Int)^k.val % 2=0:=by decide
 exact this ⟨k,by omega⟩ a
theorem mG {z a b:Int}(h:eQ z a b=0):1<=b/\b<=4/\0<=a/\a<=z/\b<=z -a:=by
 unfold eQ at h
 split at h
 ·omega
 ·split at h<;>omega
theorem pU {z a b:Int}(f:1<=b)(e:b<=4)(d:0<=a)(c:b<=z -a):eQ z a b=0:=by
 unfold eQ;rw[if_neg (by omega),if_neg (by omega)]
def digits (n:Int):Nat->List UInt8
 |0=>[]
 |k+1=>UInt8.ofNat (n % 256).toNat::digits (n / 256) k
def num :List UInt8->Int
 | []=>0
 |b::l=>(b.toNat:Int)+256*num l
theorem digits_length (n:Int)(k:Nat):(digits n k).length=k:=by
 induction k generalizing n with
 |zero=>rfl
 |succ k ih=>simp[digits,ih]
theorem num_nonneg (l:List UInt8):0<=num l:=by
 induction l with
 |nil=>simp[num]
 |cons b l ih=>simp only[num];omega
def dV :Nat->Int
 |0=>1
 |k+1=>256*dV k
theorem nA (k:Nat):1<=dV k:=by
 induction k with
 |zero=>simp[dV]
 |succ k ih=>simp only[dV];omega
theorem qN (k:Nat):dV k=2^(8*k):=by
 induction k with
 |zero=>rfl
 |succ k ih=>rw[dV,ih,Nat.mul_succ,Int.pow_add];omega
theorem Em (k:Nat)(h:k<=4):dV k<=4294967296:=by
 have:∀q:Fin 5,dV q.val<=4294967296:=by decide
 exact this ⟨k,by omega⟩
theorem EP (l:List UInt8):num l<dV l.length:=by
 induction l with
 |nil=>simp[num,dV]
 |cons b l ih=>
  have:=b.toNat_lt
  simp only[num,dV,GY8];omega
theorem ofNat_mod (n:Int):((UInt8.ofNat (n % 256).toNat).toNat:Int)=n % 256:=by
 simp only[UInt8.toNat_ofNat']
 have:(n % 256).toNat<256:=by omega
 omega
theorem CB (n:Int)(k:Nat):num (digits n k)=n % dV k:=by
 induction k generalizing n with
 |zero=>simp[num,digits,dV,Int.emod_one]
 |succ k ih=>
  simp only[digits,num,ih,ofNat_mod,dV]
  generalize a:dV k=P
  have e:1<=P:=a▸nA k
  have d:n=256*(n / 256)+n % 256:=by omega
  have c:n / 256=P*(n / 256 / P)+n / 256 % P:=(Int.mul_ediv_add_emod _ _).symm
  have g:=Int.emod_nonneg (n / 256) (show P≠0 by omega)
  have f:=Int.emod_lt_of_pos (n / 256) (show 0<P by omega)
  have b:n=(n % 256+256*(n / 256 % P))+(256*P)*(n / 256 / P):=by
   conv=>lhs;rw[d,c]
   rw[Int.mul_add,Int.mul_assoc];omega
  conv=>rhs;rw[b]
  rw[Int.add_mul_emod_self_left]
  refine(Int.emod_eq_of_lt (by omega) ?_).symm
  omega
theorem IX (l:List UInt8):digits (num l) l.length=l:=by
 induction l with
 |nil=>rfl
 |cons b l ih=>
  have d:=b.toNat_lt
  simp only[num,GY8,digits]
  have c:((b.toNat:Int)+256*num l) % 256=b.toNat:=by omega
  have a:((b.toNat:Int)+256*num l) / 256=num l:=by omega
  rw[c,a,ih]
  simp
theorem I6 (n:Int)(k:Nat):digits (n % dV k) k=digits n k:=by
 have h:=IX (digits n k)
 rw[CB,digits_length]at h
 exact h
theorem Uv (n:Int)(k:Nat):digits n (k+1)=digits n k++[UInt8.ofNat (n / dV k % 256).toNat]:=by
 induction k generalizing n with
 |zero=>simp[digits,dV]
 |succ k ih=>
  have e:n / 256 / dV k=n / dV (k+1):=by rw[dV,Int.ediv_ediv_of_nonneg (by omega)]
  rw[digits,ih,digits,e];rfl
theorem DU (n:Int)(k:Nat):n / dV k / 256=n / dV (k+1):=by
 have:=nA k
 rw[dV,Int.mul_comm,Int.ediv_ediv_of_nonneg (by omega)]
theorem Nk (x:Int):x.tdiv 2=if 0<=x then x / 2 else-((-x) / 2):=by
 split
 ·exact Int.tdiv_eq_ediv_of_nonneg (by assumption)
 ·rw[show x.tdiv 2= -((-x).tdiv 2) from by rw[Int.neg_tdiv,Int.neg_neg],Int.tdiv_eq_ediv_of_nonneg (by omega)]
theorem Qn (x:Int):x.tmod 2=if 0<=x then x % 2 else-((-x) % 2):=by
 split
 ·exact Int.tmod_eq_emod_of_nonneg (by assumption)
 ·rw[show x.tmod 2= -((-x).tmod 2) from by rw[Int.neg_tmod,Int.neg_neg],Int.tmod_eq_emod_of_nonneg (by omega)]
def aK (k:Int):Int:=if k=1\/k=2 then 4 else if k=3\/k=4 then 2 else if k=5 then 3 else 0
theorem Rf (k:Int):(k=1/\aK k=4)\/(k=2/\aK k=4)\/(k=3/\aK k=2)\/(k=4/\aK k=2)\/(k=5/\aK k=3)\/((k<1\/5<k)/\aK k=0):=by
 unfold aK;(repeat' split)<;>omega
def RN (b c d a:Int):Int:=
 if aK b=0 then 7 else if c<0\/65535<c\/a<0\/65535<a\/d<0\/65535<d then 3
 else if b=5/\(c+d -a) % 2=1 then 4 else 0
def wI (b c d a:Int):Int:=
 if b=2 then c+d -a else if b=3 then(c+d) / 65536 else if b=5 then(c+d -a) / 2 else c+d
def bD (b c d a:Int):Int:=
 if RN b c d a=0 then wI b c d a % dV (aK b).toNat else 0
def RO (z a at_ c d b:Int):Int:=
 if aK a=0 then 7 else if c<0\/65535<c\/at_<0\/z -aK a<at_\/b<0\/65279<b then 3 else RN a d c (b+at_)
end
section
open Go.RowKit
theorem aC {k:IntKind}{a b:Int}(h:a=b):Ending.returned (.int k a)=.returned (.int k b):=by rw[h]
theorem aV {a b:Bool}(h:a=b):Ending.returned (.bool a)=.returned (.bool b):=by rw[h]
theorem Tu {k:IntKind}{a b c d:Int}(h:a=b)(e:c=d):Ending.returned (.tuple #[.int k a,.int k c])=.returned (.tuple #[.int k b,.int k d]):=by rw[h,e]
theorem M8 {k:IntKind}{s t:ByteArray}{c d:Int}(h:s=t)(a:c=d):Ending.returned (.tuple #[.string s,.int k c])=.returned (.tuple #[.string t,.int k d]):=by rw[h,a]
theorem aJ {W a:World}(c:Below W.heap.size W a):(∀b o,b<W.heap.size->a.cell? ⟨b,o,none⟩=W.cell? ⟨b,o,none⟩)/\(∀b o,b<W.heap.size->a.frozen? ⟨b,o,none⟩=W.frozen? ⟨b,o,none⟩):=
 ⟨fun b o h=>c.cell (p:=⟨b,o,none⟩) h,fun b o h=>c.frozen (p:=⟨b,o,none⟩) h⟩
theorem below_drewN {B:Nat}{a w:World}(h:Below B a w)(n:Nat):Below B a (w.drewN n):=⟨h.os,h.tape,h.output,h.size,h.block⟩
theorem kS {W A B:World}(h:Below W.heap.size W A)(k:Below A.heap.size A B):Below W.heap.size W B:=h.trans (k.mono h.size)
theorem Lm {a W b:World}{p:Addr}{v:Value}(c:p.block<a.heap.size)(h:Below a.heap.size a W/\W.cell? p=some v)(k:Below W.heap.size W b):Below a.heap.size a b/\b.cell? p=some v:=
 ⟨kS h.1 k,(k.cell (p:=p) (GY0 c h.1.size)).trans h.2⟩
theorem Cz {a W:World}{p:Addr}{v:Value}(h:Below a.heap.size a W/\W.cell? p=some v):Below a.heap.size a W.drew/\W.drew.cell? p=some v:=
 ⟨h.1.drew,h.2⟩
theorem xG (a:Nat)(b:a<9223372036854775808):(BitVec.ofInt 64 (a:Int)).toNat=a:=by
 rw[BitVec.ofInt_natCast,BitVec.toNat_ofNat];exact Nat.mod_eq_of_lt (by omega)
theorem VS (a b:Nat)(d:a<9223372036854775808)(c:b<9223372036854775808):bits .or .i64 (a:Int) (b:Int)=((a |||b:Nat):Int):=by
 have e:a |||b<2^63:=Nat.or_lt_two_pow (by omega) (by omega)
 show IntKind.i64.wrap ((BitVec.ofInt 64 (a:Int) |||BitVec.ofInt 64 (b:Int)).toNat:Int)=_
 rw[BitVec.toNat_or,xG a d,xG b c,IntKind.wrap_i64]
 omega
theorem Bd (n:Int)(k:Nat)(d:k<=32):bits .and .i64 n (2^k -1)=n % 2^k:=by
 have b:(0:Int)<2^k:=Int.pow_pos (by decide)
 have c:((2:Int)^k -1)=((2^k -1:Nat):Int):=by
  have:1<=2^k:=Nat.one_le_two_pow
  rw[Int.natCast_sub this];simp
 have a:2^k<=2^32:=Nat.pow_le_pow_right (by decide) d
 show IntKind.i64.wrap ((BitVec.ofInt 64 n&&& BitVec.ofInt 64 (2^k -1)).toNat:Int)=_
 rw[c,BitVec.toNat_and,xG _ (by omega),Nat.and_two_pow_sub_one_eq_mod,BitVec.toNat_ofInt]
 have f:(((n % ((2^64:Nat):Int)).toNat % 2^k:Nat):Int)=n % 2^k:=by
  rw[Int.natCast_emod,Int.toNat_of_nonneg (Int.emod_nonneg _ (by decide))]
  have e:((2:Int)^k)∣((2^64:Nat):Int):=by
   refine⟨2^(64 -k),?_⟩
   rw[<-Int.pow_add,show k+(64 -k)=64 from by omega];rfl
  rw[Int.natCast_pow]
  exact Int.emod_emod_of_dvd n e
 rw[f,IntKind.wrap_i64]
 have i:=Int.emod_nonneg n (show(2:Int)^k≠0 by omega)
 have h:=Int.emod_lt_of_pos n b
 have g:(2:Int)^k<=4294967296:=by
  have:((2^k:Nat):Int)<=((2^32:Nat):Int):=by exact_mod_cast a
  simpa using this
 omega
theorem Pp (n:Int)(c:Nat)(a:0<=n)(h:n<16777216)(d:c<256):bits .or .i64 (wrap64 (n*256)) (wrap64 (c:Int))=256*n+c:=by
 obtain⟨m,rfl⟩:=Int.eq_ofNat_of_zero_le a
 rw[IntWalk.wrap64_in _ (by omega),IntWalk.wrap64_in _ (by omega)]
 have e:(m:Int)*256=((m*256:Nat):Int):=by omega
 rw[e,VS _ _ (by omega) (by omega)]
 have:m*256 |||c=m*256+c:=by
  have:=Nat.shiftLeft_add_eq_or_of_lt (b:=c) (i:=8) (by omega) m
  simp only[Nat.shiftLeft_eq,Nat.reducePow]at this
  omega
 omega
abbrev tN (c:UInt8):Value:=.int .u8 c.toNat
theorem BN {P:Program}{W:World}{j n:Nat}{e b d:TypeId}{v:Value}{l:List UInt8}(m:P.underlying b=some (.slice e))(o:P.underlying e=some (.int .u8))(p:P.underlying d=some .string)
  (h:W.ownsRow j e 1 v n (l.map tN)):(convert b d v).run P W=.ok (.string ⟨l.toArray⟩) W:=by
 have a:=h.1
 simp only[List.length_map,Nat.mul_one]at a
 rcases h.2 with⟨rfl,s⟩|⟨g,k,t,rfl,_,w,_⟩
 ·subst s
  obtain rfl:l=[]:=GY9 a
  exact run_convert_bytes_nil W b e m o 0 0 d p
 ·have r:=h.cells (g:=g) rfl
  have:=run_convert_bytes_arg (P:=P) W b e m o g 0 n k (l.map fun c=>(c.toNat:Int)) (by simp[a]) (fun i u=>by
   have q:=r i (tN (l[i]'(by omega))) (by simp[List.getElem?_map,GY5 (show i<l.length by omega)])
   have f:(⟨g,0,none⟩:Addr).add i=⟨g,0+i,none⟩:=by unfold Addr.add;split<;>simp_all
   rw[f]at q
   rw[q]
   simp[GY5 (show i<l.length by omega)]) d p
  rw[this]
  congr 2
  unfold strOfNums
  congr 2
  rw[List.map_map]
  conv=>rhs;rw[<-List.map_id l]
  refine List.map_congr_left fun c _=>?_
  simp
theorem IB {P:Program}{e a b:TypeId}(d:P.underlying a=some (.slice e))(f:P.underlying e=some (.int .u8))(g:P.underlying b=some .string)(W:World)(x:Int):
  (convert a b (.slice (some ⟨W.heap.size,0,none⟩) 1 1)).run P (W.alloc (.cells #[.int .u8 x] e))=.ok (.string ⟨#[UInt8.ofNat x.toNat]⟩) (W.alloc (.cells #[.int .u8 x] e)):=
 run_convert_bytes_arg (P:=P) (W.alloc (.cells #[.int .u8 x] e)) a e d f W.heap.size 0 1 1 [x] rfl (fun i h=>by
  obtain rfl:i=0:=by omega
  show(match(W.alloc (.cells #[.int .u8 x] e)).heap[W.heap.size]? with|some (.cells c _ _)=>if(none:Option Nat).isSome then none else c[0+0]?|_=>none)=_
  rw[heap_alloc_new];rfl) b g
theorem ba_eq {a b:ByteArray}(h:a.data.toList=b.data.toList):a=b:=by
 cases a;cases b;congr 1;exact Array.toList_inj.1 h
theorem dY (a b:ByteArray):(a++b).data.toList=a.data.toList++b.data.toList:=by simp[ByteArray.data_append]
theorem Ec {P:Program}(s t:ByteArray)(a k:Nat)(e:s.size<=140737488351232)(d:t.size<=140737488351232)(f:a+k<=s.size):
  IntKind.i64.wrap ((a:Int)+k)=(a:Int)+k/\(0:Int)<=(a:Int)+k/\((a:Int)+k).toNat=a+k/\(a:Int)+k<=s.size/\
   (∀W,(Op.stringOp .add (s.extract 0 a) t).run P W=.ok (.string (s.extract 0 a++t)) W)/\
   (∀W,(Op.stringOp .add (s.extract 0 a++t) (s.extract (a+k) s.size)).run P W=.ok (.string (s.extract 0 a++t++s.extract (a+k) s.size)) W):=by
 have c:(s.extract 0 a).size<=s.size:=by rw[ByteArray.size_extract];omega
 have b:(s.extract (a+k) s.size).size<=s.size:=by rw[ByteArray.size_extract];omega
 exact⟨IntWalk.i64_in _ (by omega),by omega,by omega,by omega,fun W=>run_string_add_sum _ _ _ (by omega),fun W=>run_string_add_sum _ _ _ (by rw[ByteArray.size_append];omega)⟩
theorem Ls (s:ByteArray)(a k:Nat)(l:List UInt8):s.extract 0 a++⟨l.toArray⟩++s.extract (a+k) s.size=⟨(s.data.toList.take a++l++s.data.toList.drop (a+k)).toArray⟩:=by
 refine ba_eq ?_
 rw[dY,dY,Lib.extract_to_end,Lib.extract_data]
 simp
theorem Ak {α:Type}(l:List α)(i k:Nat)(a:i<l.length):(l.drop i).take (k+1)=l[i]::(l.drop (i+1)).take k:=by
 rw[GY4 a];rfl
end
section
open Go
structure Exp where
 name:ByteArray
 at_:Int
structure Imp where
 mod:ByteArray
 name:ByteArray
 major:Int
 minor:Int
structure Pat where
 kind:Int
 at_:Int
 sym:Int
 add:Int
structure Mod where
 name:ByteArray
 major:Int
 minor:Int
 text:ByteArray
 ex:List Exp
 im:List Imp
 pa:List Pat
 eA:Option Addr
 eC:Nat
 iA:Option Addr
 iC:Nat
 pA:Option Addr
 pC:Nat
structure Plc where
 m:Mod
 first:Int
structure Krn where
 major:Int
 minor:Int
 ex:List Exp
 eA:Option Addr
 eC:Nat
def fC (c:UInt8):Bool:=(decide (97<=c.toNat)&&decide (c.toNat<=122)) || (decide (48<=c.toNat)&&decide (c.toNat<=57)) || decide (c.toNat=95)
def mJ (l:List UInt8):Bool:=match l with
 | []=>false
 |c::_=>decide (97<=c.toNat)&&decide (c.toNat<=122)
def isName (s:ByteArray):Bool:=decide (s.size<=10)&&mJ s.data.toList&&s.data.toList.all fC
theorem RZ {s:ByteArray}(h:isName s=true):s.size<=10:=by
 unfold isName at h;simp only[Bool.and_eq_true,decide_eq_true_eq]at h;exact h.1.1
def eF (a:List ByteArray)(most:Int):List Exp->Int
 | []=>0
 |x::l=>if isName x.name=false then 1 else if a.any (fun y=>decide (y=x.name))=true then 6 else if x.at_<0\/most<=x.at_ then 3 else eF (x.name::a) most l
def dP (x:Imp):Int:=
 if isName x.mod=false\/isName x.name=false then 1 else if x.major<0\/255<x.major\/x.minor<0\/255<x.minor then 3 else 0
def eP (a:List (ByteArray×ByteArray)):List Imp->Int
 | []=>0
 |x::l=>if dP x=1 then 1 else if a.any (fun y=>decide (y.1=x.mod)&&decide (y.2=x.name))=true then 6 else if dP x≠0 then dP x else eP ((x.mod,x.name)::a) l
def iM (z ni a:Int)(p:Pat):Int:=
 if aK p.kind=0 then 7 else if p.sym< -1\/ni<=p.sym\/p.add<0\/65535<p.add\/p.at_<0\/z -aK p.kind<p.at_ then 3
 else if p.at_<a then 4 else 0
def Rp (z ni:Int)(a:Int):List Pat->Int
 | []=>0
 |p::l=>if iM z ni a p≠0 then iM z ni a p else Rp z ni (p.at_+aK p.kind) l
def SC (l:List Exp)(most:Int)(j:Nat):Int:=eF ((l.take j).map (·.name)).reverse most (l.drop j)
theorem vY {α β:Type}(l:List α)(f:α->β)(j:Nat)(p:β->Bool)(h:j<=l.length):((l.take j).map f).reverse.any p=true↔∃k,∃g:k<l.length,k<j/\p (f l[k])=true:=by
 rw[List.any_eq_true]
 constructor
 ·rintro⟨y,c,a⟩
  rw[List.mem_reverse,List.mem_map]at c
  obtain⟨z,b,rfl⟩:=c
  rw[List.mem_take_iff_getElem]at b
  obtain⟨k,e,rfl⟩:=b
  exact⟨k,by omega,by omega,a⟩
 ·rintro⟨k,g,d,a⟩
  refine⟨f l[k],?_,a⟩
  rw[List.mem_reverse,List.mem_map]
  exact⟨l[k],by rw[List.mem_take_iff_getElem];exact⟨k,by omega,rfl⟩,rfl⟩
theorem sM {α β:Type}(l:List α)(f:α->β)(j:Nat)(h:j<l.length):((l.take (j+1)).map f).reverse=f l[j]::((l.take j).map f).reverse:=by
 rw[<-List.take_append_getElem h,List.map_append,List.reverse_append];rfl
section
variable {l:List Exp} {most:Int} {j:Nat}
theorem yO (h:¬j<l.length):SC l most j=0:=by
 unfold SC;rw[List.drop_eq_nil_of_le (by omega)];rfl
theorem wM (h:j<l.length)(a:isName l[j].name=false):SC l most j=1:=by
 unfold SC;rw[GY4 h];unfold eF;rw[if_pos a]
theorem UN (h:j<l.length)(c:isName l[j].name=true){k:Nat}(b:k<l.length)(a:k<j)(e:l[k].name=l[j].name):SC l most j=6:=by
 unfold SC;rw[GY4 h];unfold eF;rw[if_neg (by simp[c]),if_pos]
 exact(vY l _ j _ (by omega)).2 ⟨k,b,a,by simp[e]⟩
theorem VV (h:j<l.length)(c:∀k(b:k<l.length),k<j->l[k].name≠l[j].name):¬(((l.take j).map (·.name)).reverse.any (fun y=>decide (y=l[j].name))=true):=by
 rw[vY l _ j _ (by omega)]
 rintro⟨k,b,a,e⟩
 exact c k b a (by simpa using e)
theorem sI (h:j<l.length)(c:isName l[j].name=true)(b:∀k(d:k<l.length),k<j->l[k].name≠l[j].name)(a:l[j].at_<0\/most<=l[j].at_):SC l most j=3:=by
 unfold SC;rw[GY4 h];unfold eF;rw[if_neg (by simp[c]),if_neg (VV h b),if_pos a]
theorem vT (h:j<l.length)(b:isName l[j].name=true)(a:∀k(d:k<l.length),k<j->l[k].name≠l[j].name)(c:0<=l[j].at_/\l[j].at_<most):SC l most (j+1)=SC l most j:=by
 conv=>rhs;unfold SC;rw[GY4 h];unfold eF;rw[if_neg (by simp[b]),if_neg (VV h a),if_neg (by omega)]
 unfold SC;rw[sM l _ j h]
end
def gM (l:List Imp)(j:Nat):Int:=eP ((l.take j).map (fun x=>(x.mod,x.name))).reverse (l.drop j)
theorem vQ (x:Imp):dP x=0\/dP x=1\/dP x=3:=by
 unfold dP;(repeat' split)<;>simp
section
variable {l:List Imp} {j:Nat}
theorem U0 (h:¬j<l.length):gM l j=0:=by
 unfold gM;rw[List.drop_eq_nil_of_le (by omega)];rfl
theorem tY (h:j<l.length)(a:dP l[j]=1):gM l j=1:=by
 unfold gM;rw[GY4 h];unfold eP;rw[if_pos a]
theorem nC (h:j<l.length)(c:dP l[j]≠1){k:Nat}(b:k<l.length)(a:k<j)(e:l[k].mod=l[j].mod/\l[k].name=l[j].name):gM l j=6:=by
 unfold gM;rw[GY4 h];unfold eP;rw[if_neg c,if_pos]
 exact(vY l _ j _ (by omega)).2 ⟨k,b,a,by simp[e.1,e.2]⟩
theorem Ba (h:j<l.length)(c:∀k(b:k<l.length),k<j->¬(l[k].mod=l[j].mod/\l[k].name=l[j].name)):¬(((l.take j).map (fun x=>(x.mod,x.name))).reverse.any (fun y=>decide (y.1=l[j].mod)&&decide (y.2=l[j].name))=true):=by
 rw[vY l _ j _ (by omega)]
 rintro⟨k,b,a,e⟩
 exact c k b a (by simpa using e)
theorem qD (h:j<l.length)(b:dP l[j]=3)(a:∀k(c:k<l.length),k<j->¬(l[k].mod=l[j].mod/\l[k].name=l[j].name)):gM l j=3:=by
 unfold gM;rw[GY4 h];unfold eP;rw[if_neg (by omega),if_neg (Ba h a),if_pos (by omega),b]
theorem tL (h:j<l.length)(c:dP l[j]=0)(a:∀k(b:k<l.length),k<j->¬(l[k].mod=l[j].mod/\l[k].name=l[j].name)):gM l (j+1)=gM l j:=by
 conv=>rhs;unfold gM;rw[GY4 h];unfold eP;rw[if_neg (by omega),if_neg (Ba h a),if_neg (by omega)]
 unfold gM;rw[sM l _ j h]
end
def kK (z ni:Int)(l:List Pat)(j:Nat)(a:Int):Int:=Rp z ni a (l.drop j)
section
variable {l:List Pat} {z ni e:Int} {j:Nat}
theorem vN (h:¬j<l.length):kK z ni l j e=0:=by
 unfold kK;rw[List.drop_eq_nil_of_le (by omega)];rfl
theorem Ub (h:j<l.length)(a:iM z ni e l[j]≠0):kK z ni l j e=iM z ni e l[j]:=by
 unfold kK;rw[GY4 h];unfold Rp;rw[if_pos a]
theorem tO (h:j<l.length)(a:iM z ni e l[j]=0):kK z ni l (j+1) (l[j].at_+aK l[j].kind)=kK z ni l j e:=by
 conv=>rhs;unfold kK;rw[GY4 h];unfold Rp;rw[if_neg (by omega)]
 rfl
end
def RG :ByteArray:=⟨#[107,101,114,110,101,108]⟩
def aL (m:Mod):Int:=
 if isName m.name=false\/m.name=RG then 1
 else if m.major<0\/255<m.major\/m.minor<0\/255<m.minor then 3
 else if 256<m.text.size\/6<m.ex.length\/6<m.im.length\/12<m.pa.length then 2
 else if m.text.size=0\/m.text.size % 4≠0 then 1
 else if eF [] m.text.size m.ex≠0 then eF [] m.text.size m.ex
 else if eP [] m.im≠0 then eP [] m.im
 else Rp m.text.size m.im.length 0 m.pa
def aH (m:Mod):Int:=((m.text.size:Int)+63) / 64
end
section
open Go.RowKit
theorem bE (n a b:Int)(w:World):
  Calls Tryz.prog 75 #[.int .i64 n,.int .i64 a,.int .i64 b] w fun e c=>e=.returned (.bool (decide (a<=n)&&decide (n<=b)))/\w=c:=by
 go_enter Tryz.func75,Tryz.ntmps75
 go_wp2_with fail
 all_goals(go_ret;exact⟨aV (by rw[Bool.eq_iff_iff];simp;omega),rfl⟩)
theorem bK (n a b:Int)(w:World)(f:a<=n)(d:n<=b):
  Calls Tryz.prog 75 #[.int .i64 n,.int .i64 a,.int .i64 b] w fun e c=>e=.returned (.bool true)/\w=c:=
 (bE n a b w).mono fun _ _ h=>⟨h.1.trans (aV (by simp;omega)),h.2⟩
theorem RQ (n a b:Int)(w:World)(h:n<a\/b<n):
  Calls Tryz.prog 75 #[.int .i64 n,.int .i64 a,.int .i64 b] w fun e d=>e=.returned (.bool false)/\w=d:=
 (bE n a b w).mono fun _ _ c=>⟨c.1.trans (aV (by simp;omega)),c.2⟩
theorem xN (s:ByteArray)(at_ b:Int)(w:World)(c:s.size<=140737488351232):
  Calls Tryz.prog 241 #[.string s,.int .i64 at_,.int .i64 b] w fun e a=>e=.returned (.int .i64 (eQ s.size at_ b))/\w=a:=by
 go_enter Tryz.func241,Tryz.ntmps241
 go_wp2_with fail
 all_goals(go_ret;exact⟨aC (by unfold eQ;(repeat' split)<;>first|rfl|omega),rfl⟩)
theorem rV (n:Int)(w:World)(o:0<=n)(h:n<=32):
  Calls Tryz.prog 205 #[.int .i64 n] w fun e c=>e=.returned (.int .i64 (2^n.toNat))/\w=c:=by
 go_enter Tryz.func205,Tryz.ntmps205
 go_wp2_with fail
 go_loop [3,4] (fun x i=>∃k:Nat,(k:Int)<=n/\i=.int .i64 k/\x=.int .i64 (2^k)) (fun _ i=>(n -intOf i).toNat)
 case atStart=>exact⟨0,by omega,rfl,rfl⟩
 case round=>
  obtain⟨k,m,rfl,rfl⟩:=hrel
  by_cases g:(k:Int)<n
  ·have b:(2:Int)^k*2=2^(k+1):=(Int.pow_succ 2 k).symm
   have j:(2:Int)^(k+1)<=4294967296:=(uZ (k+1) (by omega) (by omega)).2.1
   have a:(2:Int)<=2^(k+1):=(uZ (k+1) (by omega) (by omega)).1
   have l:=Hp b
   have f:(1:Int)<=2^k:=by omega
   have d:(2:Int)^k<=4294967296:=by omega
   clear b j a
   go_wp2_with fail
   go_round
   case rel=>exact⟨k+1,by omega,by go_num,by have:=l.out;rw[<-this];go_num⟩
   case measure=>simp[intOf]<;>omega
  ·obtain rfl:n=k:=by omega
   go_wp2_with fail
   go_ret
   exact⟨aC (by simp),rfl⟩
theorem SH (n m:Int)(w:World)(g:1<=m)(h:m<=4294967296):
  Calls Tryz.prog 204 #[.int .i64 n,.int .i64 m] w fun e b=>e=.returned (.int .i64 (n % m))/\w=b:=by
 have a:n.tmod m=if 0<=n\/n % m=0 then n % m else n % m -m:=by
  rw[Int.tmod_eq_emod]
  have:m.natAbs=m:=by omega
  by_cases d:0<=n<;>by_cases c:n % m=0<;>simp[d,c,Int.dvd_iff_emod_eq_zero]<;>omega
 have j:=Int.emod_nonneg n (show m≠0 by omega)
 have i:=Int.emod_lt_of_pos n (show 0<m by omega)
 have f:=Hp a
 clear a
 go_enter Tryz.func204,Tryz.ntmps204
 go_wp2_with fail
 all_goals(go_ret;have a:=f.out;exact⟨aC (by(try unfold wrap64);split at a<;>omega),rfl⟩)
theorem QL (s:ByteArray)(a k:Nat)(w:World)(m:s.size<=140737488351232)(c:eQ s.size a k=0):
  Calls Tryz.prog 197 #[.string s,.int .i64 a,.int .i64 k] w fun e g=>e=.returned (.tuple #[.int .i64 (num ((s.data.toList.drop a).take k)),.int .i64 0])/\w=g:=by
 obtain⟨y,x,u,t,r⟩:=mG c
 go_enter Tryz.func197,Tryz.ntmps197
 go_wp2_with (go_at_call 241;refine(xN _ _ _ _ m).mono ?_;rintro e g ⟨rfl,rfl⟩)
 go_loop [9,10] (fun v i=>∃j:Nat,j<=k/\i=.int .i64 ((a:Int)+j -1)/\v=.int .i64 (num ((s.data.toList.drop (a+j)).take (k -j)))) (fun _ i=>(intOf i+1 -a).toNat)
 case atStart=>exact⟨k,by omega,by go_num,by simp[num]⟩
 case round=>
  obtain⟨j,p,rfl,rfl⟩:=hrel
  by_cases n:0<j
  ·have f:=num_nonneg ((s.data.toList.drop (a+j)).take (k -j))
   have l:(a:Int)+j -1<s.size:=by omega
   go_wp2_with fail
   go_round
   case rel=>
    refine⟨j -1,by omega,by go_num,?_⟩
    have b:a+(j -1)<s.data.toList.length:=by have:s.data.toList.length=s.size:=rfl;omega
    have h:=Ak s.data.toList (a+(j -1)) (k -j) b
    rw[show a+(j -1)+1=a+j from by omega,show k -j+1=k -(j -1) from by omega]at h
    have d:num ((s.data.toList.drop (a+j)).take (k -j))<16777216:=by
     refine Int.lt_of_lt_of_le (EP _) ?_
     have o:((s.data.toList.drop (a+j)).take (k -j)).length<=3:=by simp;omega
     generalize((s.data.toList.drop (a+j)).take (k -j)).length=q at o
     have:∀q:Fin 4,dV q.val<=16777216:=by decide
     exact this ⟨q,by omega⟩
    rw[h]
    simp only[num]
    rw[Pp _ _ f d (UInt8.toNat_lt _)]
    congr 1
    have:s.data.toList[a+(j -1)]=s[a+j -1]:=by simp[show a+(j -1)=a+j -1 from by omega];rfl
    rw[this];omega
   case measure=>simp[intOf]<;>omega
  ·obtain rfl:j=0:=by omega
   go_wp2_with fail
   go_ret2
   exact⟨rfl,rfl⟩
theorem Q6 (s:ByteArray)(a k:Int)(w:World)(c:s.size<=140737488351232)(d:eQ s.size a k≠0):
  Calls Tryz.prog 197 #[.string s,.int .i64 a,.int .i64 k] w fun e b=>e=.returned (.tuple #[.int .i64 0,.int .i64 (eQ s.size a k)])/\w=b:=by
 go_enter Tryz.func197,Tryz.ntmps197
 go_wp2_with (go_at_call 241;refine(xN _ _ _ _ c).mono ?_;rintro e b ⟨rfl,rfl⟩)
 all_goals(go_ret2;exact⟨rfl,rfl⟩)
theorem OD (j:Nat)(w:World)(h:j<=4):
  Calls Tryz.prog 205 #[.int .i64 (8*j)] w fun e a=>e=.returned (.int .i64 (dV j))/\w=a:=
 (rV _ w (by omega) (by omega)).mono fun _ _ ⟨c,b⟩=>⟨by rw[c,qN,show(8*(j:Int)).toNat=8*j from by omega],b⟩
end
section
open Go.RowKit
theorem gU (n a b:Int)(w:World):
  Calls Tryz.prog 217 #[.int .i64 n,.int .i64 a,.int .i64 b] w fun e c=>e=.returned (.bool (decide (a<=n)&&decide (n<=b)))/\w=c:=by
 go_enter Tryz.func217,Tryz.ntmps217
 go_wp2_with fail
 all_goals(go_ret;exact⟨aV (by rw[Bool.eq_iff_iff];simp;omega),rfl⟩)
theorem TJ (n a b:Int)(w:World)(f:a<=n)(d:n<=b):
  Calls Tryz.prog 217 #[.int .i64 n,.int .i64 a,.int .i64 b] w fun e c=>e=.returned (.bool true)/\w=c:=
 (gU n a b w).mono fun _ _ h=>⟨h.1.trans (aV (by simp;omega)),h.2⟩
theorem mV (n a b:Int)(w:World)(h:n<a\/b<n):
  Calls Tryz.prog 217 #[.int .i64 n,.int .i64 a,.int .i64 b] w fun e d=>e=.returned (.bool false)/\w=d:=
 (gU n a b w).mono fun _ _ c=>⟨c.1.trans (aV (by simp;omega)),c.2⟩
theorem gP (k:Int)(w:World):
  Calls Tryz.prog 235 #[.int .i64 k] w fun e a=>e=.returned (.int .i64 (aK k))/\Below w.heap.size w a:=by
 rcases Rf k with⟨rfl,h⟩|⟨rfl,h⟩|⟨rfl,h⟩|⟨rfl,h⟩|⟨rfl,h⟩|⟨b,h⟩
 all_goals
  have H:=Hp h
  clear h
  go_enter Tryz.func235,Tryz.ntmps235
  go_wp2_with (first|(go_at_call 217;(with_reducible refine(TJ _ _ _ _ ?_ ?_).mono ?_);(focus (first|omega|assumption));(focus (first|omega|assumption));rintro e a ⟨rfl,rfl⟩)|(go_at_call 217;(with_reducible refine(mV _ _ _ _ ?_).mono ?_);(focus (first|omega|assumption));rintro e a ⟨rfl,rfl⟩)|(go_at_call 217;(with_reducible refine(gU _ _ _ _).mono ?_);rintro e a ⟨rfl,rfl⟩))
 all_goals first|(go_ret;rw[H.out];first|exact⟨rfl,GZ4 _ _⟩|exact⟨rfl,ZB⟩)|(exfalso;simp at*;omega)
theorem gL (k:Int)(w:World):
  Calls Tryz.prog 179 #[.int .i64 k] w fun e a=>e=.returned (.int .i64 (aK k))/\w=a:=by
 go_enter Tryz.func179,Tryz.ntmps179
 go_wp2_with fail
 all_goals(go_ret;exact⟨aC (by simp at*;unfold aK;(repeat' split)<;>omega),rfl⟩)
def mI (b c a:Int):Int:=if b=2 then c -a else if b=3 then c / 65536 else if b=5 then(c -a).tdiv 2 else c
def TD (b c a:Int):Bool:=!(decide (b=5)&&decide ((c -a) % 2=1))
theorem BM (c b a:Int)(w:World)(o:0<=b)(n:b<=131070)(m:0<=a)(l:a<=65535)(d:aK c≠0):
  Calls Tryz.prog 284 #[.int .i64 c,.int .i64 b,.int .i64 a] w fun e j=>
   e=.returned (.tuple #[.int .i64 (mI c b a),.bool (TD c b a)])/\w=j:=by
 have i:=Hp (Nk (b -a))
 have g:=Hp (Qn (b -a))
 rcases Rf c with⟨rfl,h⟩|⟨rfl,h⟩|⟨rfl,h⟩|⟨rfl,h⟩|⟨rfl,h⟩|⟨_,h⟩
 ·clear h d
  go_enter Tryz.func284,Tryz.ntmps284
  go_wp2_with fail
  go_ret2
  exact⟨by simp[mI,TD],rfl⟩
 ·clear h d
  go_enter Tryz.func284,Tryz.ntmps284
  go_wp2_with fail
  go_ret2
  exact⟨by simp[mI,TD],rfl⟩
 ·clear h d
  go_enter Tryz.func284,Tryz.ntmps284
  go_wp2_with fail
  go_ret2
  exact⟨by simp[mI,TD],rfl⟩
 ·clear h d
  go_enter Tryz.func284,Tryz.ntmps284
  go_wp2_with fail
  go_ret2
  exact⟨by simp[mI,TD],rfl⟩
 ·clear h d
  go_enter Tryz.func284,Tryz.ntmps284
  go_wp2_with fail
  all_goals
   have k:=i.out
   have f:=g.out
   clear i g
   go_ret2
   refine⟨?_,rfl⟩
   have e:TD 5 b a=decide ((b -a).tmod 2=0):=by
    unfold TD;rw[Bool.eq_iff_iff];simp;split at f<;>omega
   rw[e]
   simp[mI]
   try(split at f<;>split at k<;>omega)
 ·exact absurd h d
theorem EO (n:Int)(w:World):
  Calls Tryz.prog 283 #[.int .i64 n] w fun e a=>e=.returned (.bool (decide (0<=n)&&decide (n<65536)))/\w=a:=by
 go_enter Tryz.func283,Tryz.ntmps283
 go_wp2_with fail
 all_goals(go_ret;exact⟨aV (by rw[Bool.eq_iff_iff];simp;omega),rfl⟩)
theorem QY (w:Int)(h:w=2\/w=3\/w=4)(n:Int):bits .and .i64 n (2^(8*w).toNat -1)=n % dV w.toNat:=by
 rcases h with rfl|rfl|rfl
 ·exact(Bd n 16 (by omega)).trans rfl
 ·exact(Bd n 24 (by omega)).trans rfl
 ·exact(Bd n 32 (by omega)).trans rfl
theorem Cr (a c d b:Int)(w:World):
  Calls Tryz.prog 254 #[.int .i64 a,.int .i64 c,.int .i64 d,.int .i64 b] w fun e k=>
   e=.returned (.tuple #[.int .i64 (bD a c d b),.int .i64 (RN a c d b)])/\Below w.heap.size w k:=by
 by_cases j:aK a=0
 ·have f:RN a c d b=7:=by unfold RN;rw[if_pos j]
  have g:bD a c d b=0:=by unfold bD;rw[f,if_neg (by omega)]
  rw[f,g]
  clear f g
  go_enter Tryz.func254,Tryz.ntmps254
  go_wp2_with (first|(go_at_call 235;(with_reducible refine(gP _ _).mono ?_);rintro e n ⟨rfl,i⟩)|(go_at_call 283;(with_reducible refine(EO _ _).mono ?_);rintro e k ⟨rfl,rfl⟩))
  all_goals(go_ret2;exact⟨by simp,by assumption⟩)
 ·by_cases l:c<0\/65535<c\/b<0\/65535<b\/d<0\/65535<d
  ·have f:RN a c d b=3:=by unfold RN;rw[if_neg j,if_pos l]
   have g:bD a c d b=0:=by unfold bD;rw[f,if_neg (by omega)]
   rw[f,g]
   clear f g
   have p:(aK a==0)=false:=by simp[j]
   go_enter Tryz.func254,Tryz.ntmps254
   go_wp2_with (first|(go_at_call 235;(with_reducible refine(gP _ _).mono ?_);rintro e n ⟨rfl,i⟩)|(go_at_call 283;(with_reducible refine(EO _ _).mono ?_);rintro e k ⟨rfl,rfl⟩)|(go_at_call 284;(with_reducible refine(BM _ _ _ _ (by simp at*;omega) (by simp at*;omega) (by simp at*;omega) (by simp at*;omega) j).mono ?_);rintro e k ⟨rfl,rfl⟩))
   all_goals(go_ret2;exact⟨by simp,by assumption⟩)
  ·have o:0<=c/\c<=65535/\0<=b/\b<=65535/\0<=d/\d<=65535:=by omega
   obtain⟨B,A,z,y,x,v⟩:=o
   have p:(aK a==0)=false:=by simp[j]
   by_cases m:a=5/\(c+d -b) % 2=1
   ·have f:RN a c d b=4:=by unfold RN;rw[if_neg j,if_neg l,if_pos m]
    have g:bD a c d b=0:=by unfold bD;rw[f,if_neg (by omega)]
    have t:TD a (c+d) b=false:=by simp[TD,m]
    rw[f,g]
    clear f g m l
    go_enter Tryz.func254,Tryz.ntmps254
    go_wp2_with (first|(go_at_call 235;(with_reducible refine(gP _ _).mono ?_);rintro e n ⟨rfl,i⟩)|(go_at_call 283;(with_reducible refine(EO _ _).mono ?_);rintro e k ⟨rfl,rfl⟩)|(go_at_call 284;(with_reducible refine(BM _ _ _ _ (by omega) (by omega) (by omega) (by omega) j).mono ?_);rintro e k ⟨rfl,rfl⟩))
    all_goals first|(go_ret2;exact⟨by simp,by assumption⟩)|(exfalso;omega)
   ·have f:RN a c d b=0:=by unfold RN;rw[if_neg j,if_neg l,if_neg m]
    have g:bD a c d b=mI a (c+d) b % dV (aK a).toNat:=by
     unfold bD;rw[f,if_pos rfl]
     congr 1
     have s:=Nk (c+d -b)
     unfold wI mI
     (repeat' split)<;>first|rfl|(split at s<;>omega)
    have t:TD a (c+d) b=true:=by
     unfold TD;simp;omega
    have q:aK a=2\/aK a=3\/aK a=4:=by rcases Rf a with⟨_,h⟩|⟨_,h⟩|⟨_,h⟩|⟨_,h⟩|⟨_,h⟩|⟨_,h⟩<;>omega
    have r:=QY (aK a) q (mI a (c+d) b)
    rw[f,g]
    have I:16<=8*aK a:=by omega
    have H:8*aK a<=32:=by omega
    obtain⟨D,C,_⟩:=uZ (8*aK a).toNat (by omega) (by omega)
    have E:wrap64 (2^(8*aK a).toNat)=2^(8*aK a).toNat:=IntWalk.wrap64_in _ (by omega)
    have u:=Hp r
    clear f g m l r q
    have G:2<=aK a:=by omega
    have F:aK a<=4:=by omega
    go_enter Tryz.func254,Tryz.ntmps254
    go_wp2_with (first|(go_at_call 235;(with_reducible refine(gP _ _).mono ?_);rintro e n ⟨rfl,i⟩)|(go_at_call 283;(with_reducible refine(EO _ _).mono ?_);rintro e k ⟨rfl,rfl⟩)|(go_at_call 284;(with_reducible refine(BM _ _ _ _ (by omega) (by omega) (by omega) (by omega) j).mono ?_);rintro e k ⟨rfl,rfl⟩))
    go_ret2
    exact⟨Tu u.out rfl,i⟩
theorem yY (f b c a:Int)(w:World):
  Calls Tryz.prog 259 #[.int .i64 f,.int .i64 b,.int .i64 c,.int .i64 a] w fun e d=>
   e=.returned (.tuple #[.int .i64 (bD f b c a),.int .i64 (RN f b c a)])/\Below w.heap.size w d:=by
 have z:=Rf f
 by_cases l:aK f=0
 ·have g:RN f b c a=7:=by unfold RN;rw[if_pos l]
  have i:bD f b c a=0:=by unfold bD;rw[g,if_neg (by omega)]
  rw[g,i]
  clear g i z
  go_enter Tryz.func259,Tryz.ntmps259
  go_wp2_with (first|(go_at_call 179;(with_reducible refine(gL _ _).mono ?_);rintro e d ⟨rfl,rfl⟩)|(go_at_call 75;(with_reducible refine(bK _ _ _ _ ?_ ?_).mono ?_);(focus (first|omega|assumption));(focus (first|omega|assumption));rintro e d ⟨rfl,rfl⟩)|(go_at_call 75;(with_reducible refine(RQ _ _ _ _ ?_).mono ?_);(focus (first|omega|assumption));rintro e d ⟨rfl,rfl⟩)|(go_at_call 75;(with_reducible refine(bE _ _ _ _).mono ?_);rintro e d ⟨rfl,rfl⟩))
  all_goals(go_ret2;exact⟨by simp,GZ4 _ _⟩)
 ·by_cases m:b<0\/65535<b\/a<0\/65535<a\/c<0\/65535<c
  ·have g:RN f b c a=3:=by unfold RN;rw[if_neg l,if_pos m]
   have i:bD f b c a=0:=by unfold bD;rw[g,if_neg (by omega)]
   rw[g,i]
   clear g i z
   have G:(aK f==0)=false:=by simp[l]
   have p:(b<0\/65535<b)\/(0<=b/\b<=65535/\(a<0\/65535<a))\/(0<=b/\b<=65535/\0<=a/\a<=65535/\(c<0\/65535<c)):=by omega
   clear m
   rcases p with(p|p)|⟨I,H,p|p⟩|⟨I,H,R,Q,p|p⟩
   all_goals
    go_enter Tryz.func259,Tryz.ntmps259
    go_wp2_with (first|(go_at_call 179;(with_reducible refine(gL _ _).mono ?_);rintro e d ⟨rfl,rfl⟩)|(go_at_call 75;(with_reducible refine(bK _ _ _ _ ?_ ?_).mono ?_);(focus (first|omega|assumption));(focus (first|omega|assumption));rintro e d ⟨rfl,rfl⟩)|(go_at_call 75;(with_reducible refine(RQ _ _ _ _ ?_).mono ?_);(focus (first|omega|assumption));rintro e d ⟨rfl,rfl⟩)|(go_at_call 75;(with_reducible refine(bE _ _ _ _).mono ?_);rintro e d ⟨rfl,rfl⟩))
    go_ret2
    exact⟨by simp,GZ4 _ _⟩
  ·have x:0<=b/\b<=65535/\0<=a/\a<=65535/\0<=c/\c<=65535:=by omega
   obtain⟨P,O,N,M,L,K⟩:=x
   have q:=fun W=>(rV 32 W (by omega) (by omega)).mono (fun _ _ h=>(⟨h.1.trans (aC (by decide)),h.2⟩:_=Ending.returned (.int .i64 4294967296)/\_))
   have r:=fun W=>(rV 24 W (by omega) (by omega)).mono (fun _ _ h=>(⟨h.1.trans (aC (by decide)),h.2⟩:_=Ending.returned (.int .i64 16777216)/\_))
   have s:=fun W=>(rV 16 W (by omega) (by omega)).mono (fun _ _ h=>(⟨h.1.trans (aC (by decide)),h.2⟩:_=Ending.returned (.int .i64 65536)/\_))
   have t:=Hp q
   have A:=Hp r
   have u:=Hp s
   clear q r s
   have n:∀k v,aK k=v->∀W,Calls Tryz.prog 179 #[.int .i64 k] W fun e d=>e=.returned (.int .i64 v)/\W=d:=fun k v E W=>(gL k W).mono fun _ _ h=>⟨h.1.trans (aC E),h.2⟩
   rcases z with⟨rfl,j⟩|⟨rfl,j⟩|⟨rfl,j⟩|⟨rfl,j⟩|⟨rfl,j⟩|⟨_,j⟩
   ·have g:RN 1 b c a=0:=by unfold RN;rw[if_neg l,if_neg m,if_neg (by omega)]
    have i:bD 1 b c a=(b+c) % 4294967296:=by unfold bD;rw[g,if_pos rfl];rfl
    rw[g,i]
    have o:=Hp (n _ _ j)
    clear g i m n j l
    go_enter Tryz.func259,Tryz.ntmps259
    go_wp2_with (first|(go_at_call 179;(with_reducible refine(o.out _).mono ?_);rintro e d ⟨rfl,rfl⟩)|(go_at_call 75;(with_reducible refine(bK _ _ _ _ ?_ ?_).mono ?_);(focus (first|omega|assumption));(focus (first|omega|assumption));rintro e d ⟨rfl,rfl⟩)|(go_at_call 75;(with_reducible refine(RQ _ _ _ _ ?_).mono ?_);(focus (first|omega|assumption));rintro e d ⟨rfl,rfl⟩)|(go_at_call 75;(with_reducible refine(bE _ _ _ _).mono ?_);rintro e d ⟨rfl,rfl⟩)|(go_at_call 205;(with_reducible refine(t.out _).mono ?_);rintro e d ⟨rfl,rfl⟩)|(go_at_call 204;(with_reducible refine(SH _ _ _ (by omega) (by omega)).mono ?_);rintro e d ⟨rfl,rfl⟩))
    go_ret2
    exact⟨by simp,GZ4 _ _⟩
   ·have g:RN 2 b c a=0:=by unfold RN;rw[if_neg l,if_neg m,if_neg (by omega)]
    have i:bD 2 b c a=(b+c -a) % 4294967296:=by unfold bD;rw[g,if_pos rfl];rfl
    rw[g,i]
    have o:=Hp (n _ _ j)
    clear g i m n j l
    go_enter Tryz.func259,Tryz.ntmps259
    go_wp2_with (first|(go_at_call 179;(with_reducible refine(o.out _).mono ?_);rintro e d ⟨rfl,rfl⟩)|(go_at_call 75;(with_reducible refine(bK _ _ _ _ ?_ ?_).mono ?_);(focus (first|omega|assumption));(focus (first|omega|assumption));rintro e d ⟨rfl,rfl⟩)|(go_at_call 75;(with_reducible refine(RQ _ _ _ _ ?_).mono ?_);(focus (first|omega|assumption));rintro e d ⟨rfl,rfl⟩)|(go_at_call 75;(with_reducible refine(bE _ _ _ _).mono ?_);rintro e d ⟨rfl,rfl⟩)|(go_at_call 205;(with_reducible refine(t.out _).mono ?_);rintro e d ⟨rfl,rfl⟩)|(go_at_call 204;(with_reducible refine(SH _ _ _ (by omega) (by omega)).mono ?_);rintro e d ⟨rfl,rfl⟩))
    go_ret2
    exact⟨by simp,GZ4 _ _⟩
   ·have g:RN 3 b c a=0:=by unfold RN;rw[if_neg l,if_neg m,if_neg (by omega)]
    have i:bD 3 b c a=(b+c) / 65536 % 65536:=by unfold bD;rw[g,if_pos rfl];rfl
    rw[g,i]
    have o:=Hp (n _ _ j)
    clear g i m n j l
    go_enter Tryz.func259,Tryz.ntmps259
    go_wp2_with (first|(go_at_call 179;(with_reducible refine(o.out _).mono ?_);rintro e d ⟨rfl,rfl⟩)|(go_at_call 75;(with_reducible refine(bK _ _ _ _ ?_ ?_).mono ?_);(focus (first|omega|assumption));(focus (first|omega|assumption));rintro e d ⟨rfl,rfl⟩)|(go_at_call 75;(with_reducible refine(RQ _ _ _ _ ?_).mono ?_);(focus (first|omega|assumption));rintro e d ⟨rfl,rfl⟩)|(go_at_call 75;(with_reducible refine(bE _ _ _ _).mono ?_);rintro e d ⟨rfl,rfl⟩)|(go_at_call 205;(with_reducible refine(u.out _).mono ?_);rintro e d ⟨rfl,rfl⟩)|(go_at_call 204;(with_reducible refine(SH _ _ _ (by omega) (by omega)).mono ?_);rintro e d ⟨rfl,rfl⟩))
    go_ret2
    exact⟨by simp,GZ4 _ _⟩
   ·have g:RN 4 b c a=0:=by unfold RN;rw[if_neg l,if_neg m,if_neg (by omega)]
    have i:bD 4 b c a=(b+c) % 65536:=by unfold bD;rw[g,if_pos rfl];rfl
    rw[g,i]
    have o:=Hp (n _ _ j)
    clear g i m n j l
    go_enter Tryz.func259,Tryz.ntmps259
    go_wp2_with (first|(go_at_call 179;(with_reducible refine(o.out _).mono ?_);rintro e d ⟨rfl,rfl⟩)|(go_at_call 75;(with_reducible refine(bK _ _ _ _ ?_ ?_).mono ?_);(focus (first|omega|assumption));(focus (first|omega|assumption));rintro e d ⟨rfl,rfl⟩)|(go_at_call 75;(with_reducible refine(RQ _ _ _ _ ?_).mono ?_);(focus (first|omega|assumption));rintro e d ⟨rfl,rfl⟩)|(go_at_call 75;(with_reducible refine(bE _ _ _ _).mono ?_);rintro e d ⟨rfl,rfl⟩)|(go_at_call 205;(with_reducible refine(u.out _).mono ?_);rintro e d ⟨rfl,rfl⟩)|(go_at_call 204;(with_reducible refine(SH _ _ _ (by omega) (by omega)).mono ?_);rintro e d ⟨rfl,rfl⟩))
    go_ret2
    exact⟨by simp,GZ4 _ _⟩
   ·have o:=Hp (n _ _ j)
    have B:=fun W=>SH (b+c -a) 2 W (by omega) (by omega)
    have D:=Hp B
    clear B
    have y:=Nk (b+c -a)
    by_cases C:(b+c -a) % 2=1
    ·have g:RN 5 b c a=4:=by unfold RN;rw[if_neg l,if_neg m,if_pos ⟨rfl,C⟩]
     have i:bD 5 b c a=0:=by unfold bD;rw[g,if_neg (by omega)]
     rw[g,i]
     clear g i m n j l y
     go_enter Tryz.func259,Tryz.ntmps259
     go_wp2_with (first|(go_at_call 179;(with_reducible refine(o.out _).mono ?_);rintro e d ⟨rfl,rfl⟩)|(go_at_call 75;(with_reducible refine(bK _ _ _ _ ?_ ?_).mono ?_);(focus (first|omega|assumption));(focus (first|omega|assumption));rintro e d ⟨rfl,rfl⟩)|(go_at_call 75;(with_reducible refine(RQ _ _ _ _ ?_).mono ?_);(focus (first|omega|assumption));rintro e d ⟨rfl,rfl⟩)|(go_at_call 75;(with_reducible refine(bE _ _ _ _).mono ?_);rintro e d ⟨rfl,rfl⟩)|(go_at_call 204;(with_reducible refine(D.out _).mono ?_);rintro e d ⟨rfl,rfl⟩))
     go_ret2
     exact⟨by simp,GZ4 _ _⟩
    ·have g:RN 5 b c a=0:=by unfold RN;rw[if_neg l,if_neg m,if_neg (by omega)]
     have i:bD 5 b c a=(b+c -a).tdiv 2 % 16777216:=by
      unfold bD;rw[g,if_pos rfl]
      have e:wI 5 b c a=(b+c -a) / 2:=by simp[wI]
      rw[e]
      have J:(b+c -a).tdiv 2=(b+c -a) / 2:=by split at y<;>omega
      rw[J];rfl
     rw[g,i]
     have F:(b+c -a) % 2=0:=by omega
     clear g i m n j l y C
     go_enter Tryz.func259,Tryz.ntmps259
     go_wp2_with (first|(go_at_call 179;(with_reducible refine(o.out _).mono ?_);rintro e d ⟨rfl,rfl⟩)|(go_at_call 75;(with_reducible refine(bK _ _ _ _ ?_ ?_).mono ?_);(focus (first|omega|assumption));(focus (first|omega|assumption));rintro e d ⟨rfl,rfl⟩)|(go_at_call 75;(with_reducible refine(RQ _ _ _ _ ?_).mono ?_);(focus (first|omega|assumption));rintro e d ⟨rfl,rfl⟩)|(go_at_call 75;(with_reducible refine(bE _ _ _ _).mono ?_);rintro e d ⟨rfl,rfl⟩)|(go_at_call 204;(with_reducible refine(D.out _).mono ?_);rintro e d ⟨rfl,rfl⟩)|(go_at_call 205;(with_reducible refine(A.out _).mono ?_);rintro e d ⟨rfl,rfl⟩)|(go_at_call 204;(with_reducible refine(SH _ _ _ ?_ ?_).mono ?_);(focus (first|omega|assumption));(focus (first|omega|assumption));rintro e d ⟨rfl,rfl⟩))
     go_ret2
     exact⟨by simp,GZ4 _ _⟩
   ·exact absurd j l
end
end Go.Proofs.YtjiedaialianmaaGreat
