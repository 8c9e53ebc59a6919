import Derived.Test.YtjiedaialianmaaGreatRows
import Derived.WalkSpells
import Derived.WalkLawsBesides
import Derived.Handy
import Derived.Lib.Hide
import Derived.BigQuiet
import Derived.Deep.RegionHeld3
import Derived.Lib.IndexBytes
import Derived.Deep.AppendLies
import Derived.RangeFuncBox
import Derived.Shelf.Abstract
import Derived.OwnWalkIn
import Derived.TacticsInMore
import Derived.LoopNIn
import Derived.LoopIn
import Derived.Test.YtjiedaialianmaaGreatKTiny
set_option maxHeartbeats 1000000
namespace Go.Proofs.YtjiedaialianmaaGreat
section
def eQ (z at_ b:Int):Int:=if b<1\/4<b then 7 else if at_<0\/z<at_\/z -at_<b then 3 else 0
theorem uZ (k:Nat)(h1:1<=k)(h:k<=32):(2:Int)<=2^k/\(2:Int)^k<=4294967296/\(2:Int)^k % 2=0:=by
 have:∀k:Fin 33,1<=k.val->(2:Int)<=2^k.val/\(2:Int)^k.val<=4294967296/\(2:Int)^k.val % 2=0:=by decide
 exact this ⟨k,by omega⟩ h1
theorem mG {z a b:Int}(h:eQ z a b=0):1<=b/\b<=4/\0<=a/\a<=z/\b<=z -a:=by
 unfold eQ at h
 split at h
 ·omega
 ·split at h<;>omega
theorem pU {z a b:Int}(h1:1<=b)(h2:b<=4)(h3:0<=a)(h4:b<=z -a):eQ z a b=0:=by
 unfold eQ;rw[if_neg (by omega),if_neg (by omega)]
def digits (n:Int):Nat->List UInt8
 |0=>[]
 |k+1=>UInt8.ofNat (n % 256).toNat::digits (n / 256) k
def num :List UInt8->Int
 | []=>0
 |b::l=>(b.toNat:Int)+256*num l
theorem digits_length (n:Int)(k:Nat):(digits n k).length=k:=by
 induction k generalizing n with
 |zero=>rfl
 |succ k ih=>simp[digits,ih]
theorem num_nonneg (l:List UInt8):0<=num l:=by
 induction l with
 |nil=>simp[num]
 |cons b l ih=>simp only[num];omega
def dV :Nat->Int
 |0=>1
 |k+1=>256*dV k
theorem nA (k:Nat):1<=dV k:=by
 induction k with
 |zero=>simp[dV]
 |succ k ih=>simp only[dV];omega
theorem qN (k:Nat):dV k=2^(8*k):=by
 induction k with
 |zero=>rfl
 |succ k ih=>rw[dV,ih,Nat.mul_succ,Int.pow_add];omega
theorem EP (l:List UInt8):num l<dV l.length:=by
 induction l with
 |nil=>simp[num,dV]
 |cons b l ih=>
  have:=b.toNat_lt
  simp only[num,dV,GY8];omega
theorem ofNat_mod (n:Int):((UInt8.ofNat (n % 256).toNat).toNat:Int)=n % 256:=by
 simp only[UInt8.toNat_ofNat']
 have:(n % 256).toNat<256:=by omega
 omega
theorem CB (n:Int)(k:Nat):num (digits n k)=n % dV k:=by
 induction k generalizing n with
 |zero=>simp[num,digits,dV,Int.emod_one]
 |succ k ih=>
  simp only[digits,num,ih,ofNat_mod,dV]
  generalize hP:dV k=P
  have hp:1<=P:=hP▸nA k
  have e1:n=256*(n / 256)+n % 256:=by omega
  have e2:n / 256=P*(n / 256 / P)+n / 256 % P:=(Int.mul_ediv_add_emod _ _).symm
  have h0:=Int.emod_nonneg (n / 256) (show P≠0 by omega)
  have h1:=Int.emod_lt_of_pos (n / 256) (show 0<P by omega)
  have h2:n=(n % 256+256*(n / 256 % P))+(256*P)*(n / 256 / P):=by
   conv=>lhs;rw[e1,e2]
   rw[Int.mul_add,Int.mul_assoc];omega
  conv=>rhs;rw[h2]
  rw[Int.add_mul_emod_self_left]
  refine(Int.emod_eq_of_lt (by omega) ?_).symm
  omega
theorem Uv (n:Int)(k:Nat):digits n (k+1)=digits n k++[UInt8.ofNat (n / dV k % 256).toNat]:=by
 induction k generalizing n with
 |zero=>simp[digits,dV]
 |succ k ih=>
  have e:n / 256 / dV k=n / dV (k+1):=by rw[dV,Int.ediv_ediv_of_nonneg (by omega)]
  rw[digits,ih,digits,e];rfl
theorem DU (n:Int)(k:Nat):n / dV k / 256=n / dV (k+1):=by
 have:=nA k
 rw[dV,Int.mul_comm,Int.ediv_ediv_of_nonneg (by omega)]
theorem Nk (x:Int):x.tdiv 2=if 0<=x then x / 2 else-((-x) / 2):=by
 split
 ·exact Int.tdiv_eq_ediv_of_nonneg (by assumption)
 ·rw[show x.tdiv 2= -((-x).tdiv 2) from by rw[Int.neg_tdiv,Int.neg_neg],Int.tdiv_eq_ediv_of_nonneg (by omega)]
theorem Qn (x:Int):x.tmod 2=if 0<=x then x % 2 else-((-x) % 2):=by
 split
 ·exact Int.tmod_eq_emod_of_nonneg (by assumption)
 ·rw[show x.tmod 2= -((-x).tmod 2) from by rw[Int.neg_tmod,Int.neg_neg],Int.tmod_eq_emod_of_nonneg (by omega)]
def aK (k:Int):Int:=if k=1\/k=2 then 4 else if k=3\/k=4 then 2 else if k=5 then 3 else 0
theorem Rf (k:Int):(k=1/\aK k=4)\/(k=2/\aK k=4)\/(k=3/\aK k=2)\/(k=4/\aK k=2)\/(k=5/\aK k=3)\/((k<1\/5<k)/\aK k=0):=by
 unfold aK;(repeat' split)<;>omega
def RN (kind sym add place:Int):Int:=
 if aK kind=0 then 7 else if sym<0\/65535<sym\/place<0\/65535<place\/add<0\/65535<add then 3
 else if kind=5/\(sym+add -place) % 2=1 then 4 else 0
def wI (kind sym add place:Int):Int:=
 if kind=2 then sym+add -place else if kind=3 then(sym+add) / 65536 else if kind=5 then(sym+add -place) / 2 else sym+add
def bD (kind sym add place:Int):Int:=
 if RN kind sym add place=0 then wI kind sym add place % dV (aK kind).toNat else 0
def RO (z kind at_ add sym base:Int):Int:=
 if aK kind=0 then 7 else if add<0\/65535<add\/at_<0\/z -aK kind<at_\/base<0\/65279<base then 3 else RN kind sym add (base+at_)
end
section
open Go.RowKit
theorem aC {k:IntKind}{a b:Int}(h:a=b):Ending.returned (.int k a)=.returned (.int k b):=by rw[h]
theorem aV {a b:Bool}(h:a=b):Ending.returned (.bool a)=.returned (.bool b):=by rw[h]
theorem Tu {k:IntKind}{a b c d:Int}(h:a=b)(h':c=d):Ending.returned (.tuple #[.int k a,.int k c])=.returned (.tuple #[.int k b,.int k d]):=by rw[h,h']
theorem M8 {k:IntKind}{s t:ByteArray}{c d:Int}(h:s=t)(h':c=d):Ending.returned (.tuple #[.string s,.int k c])=.returned (.tuple #[.string t,.int k d]):=by rw[h,h']
theorem aJ {W w1:World}(hb:Below W.heap.size W w1):(∀b o,b<W.heap.size->w1.cell? ⟨b,o,none⟩=W.cell? ⟨b,o,none⟩)/\(∀b o,b<W.heap.size->w1.frozen? ⟨b,o,none⟩=W.frozen? ⟨b,o,none⟩):=
 ⟨fun b o h=>hb.cell (p:=⟨b,o,none⟩) h,fun b o h=>hb.frozen (p:=⟨b,o,none⟩) h⟩
theorem below_drewN {B:Nat}{a w:World}(h:Below B a w)(n:Nat):Below B a (w.drewN n):=⟨h.os,h.tape,h.output,h.size,h.block⟩
theorem kS {W A B:World}(h:Below W.heap.size W A)(k:Below A.heap.size A B):Below W.heap.size W B:=h.trans (k.mono h.size)
theorem xG (a:Nat)(ha:a<9223372036854775808):(BitVec.ofInt 64 (a:Int)).toNat=a:=by
 rw[BitVec.ofInt_natCast,BitVec.toNat_ofNat];exact Nat.mod_eq_of_lt (by omega)
theorem VS (a b:Nat)(ha:a<9223372036854775808)(hb:b<9223372036854775808):bits .or .i64 (a:Int) (b:Int)=((a |||b:Nat):Int):=by
 have hx:a |||b<2^63:=Nat.or_lt_two_pow (by omega) (by omega)
 show IntKind.i64.wrap ((BitVec.ofInt 64 (a:Int) |||BitVec.ofInt 64 (b:Int)).toNat:Int)=_
 rw[BitVec.toNat_or,xG a ha,xG b hb,IntKind.wrap_i64]
 omega
theorem Bd (n:Int)(k:Nat)(hk:k<=32):bits .and .i64 n (2^k -1)=n % 2^k:=by
 have hp:(0:Int)<2^k:=Int.pow_pos (by decide)
 have hm:((2:Int)^k -1)=((2^k -1:Nat):Int):=by
  have:1<=2^k:=Nat.one_le_two_pow
  rw[Int.natCast_sub this];simp
 have hlt:2^k<=2^32:=Nat.pow_le_pow_right (by decide) hk
 show IntKind.i64.wrap ((BitVec.ofInt 64 n&&& BitVec.ofInt 64 (2^k -1)).toNat:Int)=_
 rw[hm,BitVec.toNat_and,xG _ (by omega),Nat.and_two_pow_sub_one_eq_mod,BitVec.toNat_ofInt]
 have e1:(((n % ((2^64:Nat):Int)).toNat % 2^k:Nat):Int)=n % 2^k:=by
  rw[Int.natCast_emod,Int.toNat_of_nonneg (Int.emod_nonneg _ (by decide))]
  have hd:((2:Int)^k)∣((2^64:Nat):Int):=by
   refine⟨2^(64 -k),?_⟩
   rw[<-Int.pow_add,show k+(64 -k)=64 from by omega];rfl
  rw[Int.natCast_pow]
  exact Int.emod_emod_of_dvd n hd
 rw[e1,IntKind.wrap_i64]
 have h0:=Int.emod_nonneg n (show(2:Int)^k≠0 by omega)
 have h1:=Int.emod_lt_of_pos n hp
 have h2:(2:Int)^k<=4294967296:=by
  have:((2^k:Nat):Int)<=((2^32:Nat):Int):=by exact_mod_cast hlt
  simpa using this
 omega
theorem Pp (n:Int)(c:Nat)(h0:0<=n)(h:n<16777216)(hc:c<256):bits .or .i64 (wrap64 (n*256)) (wrap64 (c:Int))=256*n+c:=by
 obtain⟨m,rfl⟩:=Int.eq_ofNat_of_zero_le h0
 rw[IntWalk.wrap64_in _ (by omega),IntWalk.wrap64_in _ (by omega)]
 have e:(m:Int)*256=((m*256:Nat):Int):=by omega
 rw[e,VS _ _ (by omega) (by omega)]
 have:m*256 |||c=m*256+c:=by
  have:=Nat.shiftLeft_add_eq_or_of_lt (b:=c) (i:=8) (by omega) m
  simp only[Nat.shiftLeft_eq,Nat.reducePow]at this
  omega
 omega
abbrev tN (c:UInt8):Value:=.int .u8 c.toNat
theorem BN {P:Program}{W:World}{base n:Nat}{e src dst:TypeId}{v:Value}{l:List UInt8}(hs:P.underlying src=some (.slice e))(he:P.underlying e=some (.int .u8))(hd:P.underlying dst=some .string)
  (h:W.ownsRow base e 1 v n (l.map tN)):(convert src dst v).run P W=.ok (.string ⟨l.toArray⟩) W:=by
 have hlen:=h.1
 simp only[List.length_map,Nat.mul_one]at hlen
 rcases h.2 with⟨rfl,h0⟩|⟨g,cap,cur,rfl,_,hg,_⟩
 ·subst h0
  obtain rfl:l=[]:=GY9 hlen
  exact run_convert_bytes_nil W src e hs he 0 0 dst hd
 ·have hc:=h.cells (g:=g) rfl
  have:=run_convert_bytes_arg (P:=P) W src e hs he g 0 n cap (l.map fun c=>(c.toNat:Int)) (by simp[hlen]) (fun i hi=>by
   have h1:=hc i (tN (l[i]'(by omega))) (by simp[List.getElem?_map,GY5 (show i<l.length by omega)])
   have hadd:(⟨g,0,none⟩:Addr).add i=⟨g,0+i,none⟩:=by unfold Addr.add;split<;>simp_all
   rw[hadd]at h1
   rw[h1]
   simp[GY5 (show i<l.length by omega)]) dst hd
  rw[this]
  congr 2
  unfold strOfNums
  congr 2
  rw[List.map_map]
  conv=>rhs;rw[<-List.map_id l]
  refine List.map_congr_left fun c _=>?_
  simp
theorem IB {P:Program}{e src dst:TypeId}(hs:P.underlying src=some (.slice e))(he:P.underlying e=some (.int .u8))(hd:P.underlying dst=some .string)(W:World)(x:Int):
  (convert src dst (.slice (some ⟨W.heap.size,0,none⟩) 1 1)).run P (W.alloc (.cells #[.int .u8 x] e))=.ok (.string ⟨#[UInt8.ofNat x.toNat]⟩) (W.alloc (.cells #[.int .u8 x] e)):=
 run_convert_bytes_arg (P:=P) (W.alloc (.cells #[.int .u8 x] e)) src e hs he W.heap.size 0 1 1 [x] rfl (fun i hi=>by
  obtain rfl:i=0:=by omega
  show(match(W.alloc (.cells #[.int .u8 x] e)).heap[W.heap.size]? with|some (.cells c _ _)=>if(none:Option Nat).isSome then none else c[0+0]?|_=>none)=_
  rw[heap_alloc_new];rfl) dst hd
theorem ba_eq {a b:ByteArray}(h:a.data.toList=b.data.toList):a=b:=by
 cases a;cases b;congr 1;exact Array.toList_inj.1 h
theorem dY (a b:ByteArray):(a++b).data.toList=a.data.toList++b.data.toList:=by simp[ByteArray.data_append]
theorem Ak {α:Type}(l:List α)(i k:Nat)(hi:i<l.length):(l.drop i).take (k+1)=l[i]::(l.drop (i+1)).take k:=by
 rw[GY4 hi];rfl
end
section
open Go
structure Exp where
 name:ByteArray
 at_:Int
structure Imp where
 mod:ByteArray
 name:ByteArray
 major:Int
 minor:Int
structure Pat where
 kind:Int
 at_:Int
 sym:Int
 add:Int
structure Mod where
 name:ByteArray
 major:Int
 minor:Int
 text:ByteArray
 ex:List Exp
 im:List Imp
 pa:List Pat
 eA:Option Addr
 eC:Nat
 iA:Option Addr
 iC:Nat
 pA:Option Addr
 pC:Nat
structure Plc where
 m:Mod
 first:Int
structure Krn where
 major:Int
 minor:Int
 ex:List Exp
 eA:Option Addr
 eC:Nat
def fC (c:UInt8):Bool:=(decide (97<=c.toNat)&&decide (c.toNat<=122)) || (decide (48<=c.toNat)&&decide (c.toNat<=57)) || decide (c.toNat=95)
def mJ (l:List UInt8):Bool:=match l with
 | []=>false
 |c::_=>decide (97<=c.toNat)&&decide (c.toNat<=122)
def isName (s:ByteArray):Bool:=decide (s.size<=10)&&mJ s.data.toList&&s.data.toList.all fC
theorem RZ {s:ByteArray}(h:isName s=true):s.size<=10:=by
 unfold isName at h;simp only[Bool.and_eq_true,decide_eq_true_eq]at h;exact h.1.1
def eF (seen:List ByteArray)(most:Int):List Exp->Int
 | []=>0
 |x::l=>if isName x.name=false then 1 else if seen.any (fun y=>decide (y=x.name))=true then 6 else if x.at_<0\/most<=x.at_ then 3 else eF (x.name::seen) most l
def dP (x:Imp):Int:=
 if isName x.mod=false\/isName x.name=false then 1 else if x.major<0\/255<x.major\/x.minor<0\/255<x.minor then 3 else 0
def eP (seen:List (ByteArray×ByteArray)):List Imp->Int
 | []=>0
 |x::l=>if dP x=1 then 1 else if seen.any (fun y=>decide (y.1=x.mod)&&decide (y.2=x.name))=true then 6 else if dP x≠0 then dP x else eP ((x.mod,x.name)::seen) l
def iM (z ni end_:Int)(p:Pat):Int:=
 if aK p.kind=0 then 7 else if p.sym< -1\/ni<=p.sym\/p.add<0\/65535<p.add\/p.at_<0\/z -aK p.kind<p.at_ then 3
 else if p.at_<end_ then 4 else 0
def Rp (z ni:Int)(end_:Int):List Pat->Int
 | []=>0
 |p::l=>if iM z ni end_ p≠0 then iM z ni end_ p else Rp z ni (p.at_+aK p.kind) l
def SC (l:List Exp)(most:Int)(j:Nat):Int:=eF ((l.take j).map (·.name)).reverse most (l.drop j)
theorem vY {α β:Type}(l:List α)(f:α->β)(j:Nat)(p:β->Bool)(h:j<=l.length):((l.take j).map f).reverse.any p=true↔∃k,∃hk:k<l.length,k<j/\p (f l[k])=true:=by
 rw[List.any_eq_true]
 constructor
 ·rintro⟨y,hy,hp⟩
  rw[List.mem_reverse,List.mem_map]at hy
  obtain⟨z,hz,rfl⟩:=hy
  rw[List.mem_take_iff_getElem]at hz
  obtain⟨k,hk1,rfl⟩:=hz
  exact⟨k,by omega,by omega,hp⟩
 ·rintro⟨k,hk,hkj,hp⟩
  refine⟨f l[k],?_,hp⟩
  rw[List.mem_reverse,List.mem_map]
  exact⟨l[k],by rw[List.mem_take_iff_getElem];exact⟨k,by omega,rfl⟩,rfl⟩
theorem sM {α β:Type}(l:List α)(f:α->β)(j:Nat)(h:j<l.length):((l.take (j+1)).map f).reverse=f l[j]::((l.take j).map f).reverse:=by
 rw[<-List.take_append_getElem h,List.map_append,List.reverse_append];rfl
section
variable {l:List Exp} {most:Int} {j:Nat}
theorem yO (h:¬j<l.length):SC l most j=0:=by
 unfold SC;rw[List.drop_eq_nil_of_le (by omega)];rfl
theorem wM (h:j<l.length)(h1:isName l[j].name=false):SC l most j=1:=by
 unfold SC;rw[GY4 h];unfold eF;rw[if_pos h1]
theorem UN (h:j<l.length)(h1:isName l[j].name=true){k:Nat}(hk:k<l.length)(hkj:k<j)(e:l[k].name=l[j].name):SC l most j=6:=by
 unfold SC;rw[GY4 h];unfold eF;rw[if_neg (by simp[h1]),if_pos]
 exact(vY l _ j _ (by omega)).2 ⟨k,hk,hkj,by simp[e]⟩
theorem VV (h:j<l.length)(hn:∀k(hk:k<l.length),k<j->l[k].name≠l[j].name):¬(((l.take j).map (·.name)).reverse.any (fun y=>decide (y=l[j].name))=true):=by
 rw[vY l _ j _ (by omega)]
 rintro⟨k,hk,hkj,e⟩
 exact hn k hk hkj (by simpa using e)
theorem sI (h:j<l.length)(h1:isName l[j].name=true)(hn:∀k(hk:k<l.length),k<j->l[k].name≠l[j].name)(hr:l[j].at_<0\/most<=l[j].at_):SC l most j=3:=by
 unfold SC;rw[GY4 h];unfold eF;rw[if_neg (by simp[h1]),if_neg (VV h hn),if_pos hr]
theorem vT (h:j<l.length)(h1:isName l[j].name=true)(hn:∀k(hk:k<l.length),k<j->l[k].name≠l[j].name)(hr:0<=l[j].at_/\l[j].at_<most):SC l most (j+1)=SC l most j:=by
 conv=>rhs;unfold SC;rw[GY4 h];unfold eF;rw[if_neg (by simp[h1]),if_neg (VV h hn),if_neg (by omega)]
 unfold SC;rw[sM l _ j h]
end
def gM (l:List Imp)(j:Nat):Int:=eP ((l.take j).map (fun x=>(x.mod,x.name))).reverse (l.drop j)
theorem vQ (x:Imp):dP x=0\/dP x=1\/dP x=3:=by
 unfold dP;(repeat' split)<;>simp
section
variable {l:List Imp} {j:Nat}
theorem U0 (h:¬j<l.length):gM l j=0:=by
 unfold gM;rw[List.drop_eq_nil_of_le (by omega)];rfl
theorem tY (h:j<l.length)(h1:dP l[j]=1):gM l j=1:=by
 unfold gM;rw[GY4 h];unfold eP;rw[if_pos h1]
theorem nC (h:j<l.length)(h1:dP l[j]≠1){k:Nat}(hk:k<l.length)(hkj:k<j)(e:l[k].mod=l[j].mod/\l[k].name=l[j].name):gM l j=6:=by
 unfold gM;rw[GY4 h];unfold eP;rw[if_neg h1,if_pos]
 exact(vY l _ j _ (by omega)).2 ⟨k,hk,hkj,by simp[e.1,e.2]⟩
theorem Ba (h:j<l.length)(hn:∀k(hk:k<l.length),k<j->¬(l[k].mod=l[j].mod/\l[k].name=l[j].name)):¬(((l.take j).map (fun x=>(x.mod,x.name))).reverse.any (fun y=>decide (y.1=l[j].mod)&&decide (y.2=l[j].name))=true):=by
 rw[vY l _ j _ (by omega)]
 rintro⟨k,hk,hkj,e⟩
 exact hn k hk hkj (by simpa using e)
theorem qD (h:j<l.length)(h1:dP l[j]=3)(hn:∀k(hk:k<l.length),k<j->¬(l[k].mod=l[j].mod/\l[k].name=l[j].name)):gM l j=3:=by
 unfold gM;rw[GY4 h];unfold eP;rw[if_neg (by omega),if_neg (Ba h hn),if_pos (by omega),h1]
theorem tL (h:j<l.length)(h1:dP l[j]=0)(hn:∀k(hk:k<l.length),k<j->¬(l[k].mod=l[j].mod/\l[k].name=l[j].name)):gM l (j+1)=gM l j:=by
 conv=>rhs;unfold gM;rw[GY4 h];unfold eP;rw[if_neg (by omega),if_neg (Ba h hn),if_neg (by omega)]
 unfold gM;rw[sM l _ j h]
end
def kK (z ni:Int)(l:List Pat)(j:Nat)(end_:Int):Int:=Rp z ni end_ (l.drop j)
section
variable {l:List Pat} {z ni e:Int} {j:Nat}
theorem vN (h:¬j<l.length):kK z ni l j e=0:=by
 unfold kK;rw[List.drop_eq_nil_of_le (by omega)];rfl
theorem Ub (h:j<l.length)(h1:iM z ni e l[j]≠0):kK z ni l j e=iM z ni e l[j]:=by
 unfold kK;rw[GY4 h];unfold Rp;rw[if_pos h1]
theorem tO (h:j<l.length)(h1:iM z ni e l[j]=0):kK z ni l (j+1) (l[j].at_+aK l[j].kind)=kK z ni l j e:=by
 conv=>rhs;unfold kK;rw[GY4 h];unfold Rp;rw[if_neg (by omega)]
 rfl
end
def RG :ByteArray:=⟨#[107,101,114,110,101,108]⟩
def aL (m:Mod):Int:=
 if isName m.name=false\/m.name=RG then 1
 else if m.major<0\/255<m.major\/m.minor<0\/255<m.minor then 3
 else if 256<m.text.size\/6<m.ex.length\/6<m.im.length\/12<m.pa.length then 2
 else if m.text.size=0\/m.text.size % 4≠0 then 1
 else if eF [] m.text.size m.ex≠0 then eF [] m.text.size m.ex
 else if eP [] m.im≠0 then eP [] m.im
 else Rp m.text.size m.im.length 0 m.pa
def aH (m:Mod):Int:=((m.text.size:Int)+63) / 64
end
section
open Go.RowKit
theorem aA (a:Addr)(n:Nat):(a.add n).block=a.block:=by unfold Addr.add;split<;>rfl
theorem VJ (a:Addr)(i j:Nat):(a.add i).add j=a.add (i+j):=by
 unfold Addr.add
 by_cases hi:i=0<;>by_cases hj:j=0<;>simp[hi,hj,Nat.add_assoc]
def Reads (w:World)(B size:Nat)(A:Option Addr)(n:Nat)(xs:List Value):Prop:=
 xs.length=n*size/\(0<n->∃ad,A=some ad/\ad.block<B/\∀j u,xs[j]? =some u->w.cell? (ad.add j)=some u)
section
variable {w w':World} {B B' size n:Nat} {A:Option Addr} {xs:List Value}
theorem Reads.keep (h:Reads w B size A n xs)(hk:∀p:Addr,p.block<B->w'.cell? p=w.cell? p):Reads w' B size A n xs:=
 ⟨h.1,fun hn=>by
  obtain⟨ad,e,hb,hc⟩:=h.2 hn
  exact⟨ad,e,hb,fun j u hu=>(hk _ (by rw[aA];exact hb)).trans (hc j u hu)⟩⟩
theorem Reads.more (h:Reads w B size A n xs)(hB:B<=B'):Reads w B' size A n xs:=
 ⟨h.1,fun hn=>by
  obtain⟨ad,e,hb,hc⟩:=h.2 hn
  exact⟨ad,e,by omega,hc⟩⟩
theorem Reads.below (h:Reads w B size A n xs)(hb:Below B w w'):Reads w' B size A n xs:=h.keep fun _ hp=>hb.cell hp
theorem Reads.of_own {base:Nat}{e:TypeId}{c:Nat}(h:w.ownsRow base e size (.slice A n c) n xs):Reads w w.heap.size size A n xs:=by
 refine⟨h.1,fun hn=>?_⟩
 obtain⟨g,cap,hv,_,hlt⟩:=h.form hn
 have hA:A=some ⟨g,0,none⟩:=by injection hv
 subst hA
 exact⟨_,rfl,hlt,h.cells (g:=g) rfl⟩
end
def Row {α:Type}(enc:α->List Value)(k:Nat)(w:World)(A:Option Addr)(l:List α):Prop:=Reads w w.heap.size k A l.length (l.flatMap enc)
theorem flat_get {α:Type}{enc:α->List Value}{k:Nat}(hk:∀x,(enc x).length=k):∀(l:List α)(i j:Nat)(hi:i<l.length),j<k->(l.flatMap enc)[i*k+j]? =(enc l[i])[j]?
 |x::l,0,j,_,hj=>by
  rw[List.flatMap_cons,List.getElem?_append_left (by rw[hk];omega)];simp
 |x::l,i+1,j,hi,hj=>by
  rw[List.flatMap_cons,List.getElem?_append_right (by rw[hk,Nat.succ_mul];omega),hk]
  have:(i+1)*k+j -k=i*k+j:=by rw[Nat.succ_mul];omega
  rw[this,flat_get hk l i j (by simpa using hi) hj];simp
theorem flat_length {α:Type}{enc:α->List Value}{k:Nat}(hk:∀x,(enc x).length=k)(l:List α):(l.flatMap enc).length=l.length*k:=by
 induction l with
 |nil=>simp
 |cons x l ih=>simp[List.flatMap_cons,hk,ih,Nat.succ_mul,Nat.add_comm]
section
variable {α:Type} {enc:α->List Value} {k:Nat} {w w':World} {A:Option Addr} {l:List α}
theorem Row.below (h:Row enc k w A l)(hb:Below w.heap.size w w'):Row enc k w' A l:=(Reads.below h hb).more hb.size
theorem Row.at_ (hk:∀x,(enc x).length=k)(h:Row enc k w A l)(i:Nat)(hi:i<l.length):
  ∃ad,A=some ad/\ad.block<w.heap.size/\∀j u,(enc l[i])[j]? =some u->w.cell? ((ad.add (i*k)).add j)=some u:=by
 obtain⟨ad,e,hb,hc⟩:=h.2 (by omega)
 refine⟨ad,e,hb,fun j u hu=>?_⟩
 rw[VJ]
 refine hc _ _ ?_
 have hj:j<k:=by
  rcases Nat.lt_or_ge j k with h|h
  ·exact h
  ·rw[List.getElem?_eq_none (by rw[hk];exact h)]at hu;cases hu
 rw[flat_get hk l i j hi hj];exact hu
theorem Row.nil :Row enc k w none ([]:List α):=⟨by simp,fun h=>absurd h (by simp)⟩
end
abbrev iv (a:Int):Value:=.int .i64 a
def Exp.cells (x:Exp):List Value:=[.string x.name,iv x.at_]
def Imp.cells (x:Imp):List Value:=[.string x.mod,.string x.name,iv x.major,iv x.minor]
def Pat.cells (p:Pat):List Value:=[iv p.kind,iv p.at_,iv p.sym,iv p.add]
def Mod.cells (m:Mod):List Value:=[.string m.name,iv m.major,iv m.minor,.string m.text,.slice m.eA m.ex.length m.eC,.slice m.iA m.im.length m.iC,.slice m.pA m.pa.length m.pC]
def Plc.cells (x:Plc):List Value:=x.m.cells++[iv x.first]
def Krn.cells (x:Krn):List Value:=[iv x.major,iv x.minor,.slice x.eA x.ex.length x.eC]
abbrev Exp.v (x:Exp):Value:=.agg #[.string x.name,iv x.at_]
abbrev Imp.v (x:Imp):Value:=.agg #[.string x.mod,.string x.name,iv x.major,iv x.minor]
abbrev Mod.v (m:Mod):Value:=.agg #[.string m.name,iv m.major,iv m.minor,.string m.text,.slice m.eA m.ex.length m.eC,.slice m.iA m.im.length m.iC,.slice m.pA m.pa.length m.pC]
abbrev Plc.v (x:Plc):Value:=.agg #[.string x.m.name,iv x.m.major,iv x.m.minor,.string x.m.text,.slice x.m.eA x.m.ex.length x.m.eC,.slice x.m.iA x.m.im.length x.m.iC,.slice x.m.pA x.m.pa.length x.m.pC,iv x.first]
abbrev Krn.v (x:Krn):Value:=.agg #[iv x.major,iv x.minor,.slice x.eA x.ex.length x.eC]
def big :Nat:=140737488351232
abbrev Sj (w:World)(A:Option Addr)(l:List Exp):Prop:=Row Exp.cells 2 w A l/\l.length<=big/\∀x∈l,x.name.size<=big
abbrev TC (w:World)(A:Option Addr)(l:List Imp):Prop:=Row Imp.cells 4 w A l/\l.length<=big/\∀x∈l,x.mod.size<=big/\x.name.size<=big
abbrev pJ (w:World)(A:Option Addr)(l:List Pat):Prop:=Row Pat.cells 4 w A l/\l.length<=big
structure Mod.ok (m:Mod)(w:World):Prop where
 ex:Sj w m.eA m.ex
 im:TC w m.iA m.im
 pa:pJ w m.pA m.pa
 name:m.name.size<=big
 text:m.text.size<=big
theorem Mod.ok.below {m:Mod}{w w':World}(h:m.ok w)(hb:Below w.heap.size w w'):m.ok w':=
 ⟨⟨h.ex.1.below hb,h.ex.2⟩,⟨h.im.1.below hb,h.im.2⟩,⟨h.pa.1.below hb,h.pa.2⟩,h.name,h.text⟩
structure aU (w:World)(A:Option Addr)(l:List Plc):Prop where
 row:Row Plc.cells 8 w A l
 len:l.length<=big
 each:∀x∈l,x.m.ok w
theorem aU.below {A:Option Addr}{l:List Plc}{w w':World}(h:aU w A l)(hb:Below w.heap.size w w'):aU w' A l:=
 ⟨h.row.below hb,h.len,fun x hx=>(h.each x hx).below hb⟩
structure Krn.ok (x:Krn)(w:World):Prop where
 ex:Sj w x.eA x.ex
theorem Krn.ok.below {m:Krn}{w w':World}(h:m.ok w)(hb:Below w.heap.size w w'):m.ok w':=⟨⟨h.ex.1.below hb,h.ex.2⟩⟩
theorem add_zero_ (a:Addr):a.add 0=a:=by simp[Addr.add]
theorem add_pos_ (a:Addr)(j:Nat)(h:0<j):a.add j=⟨a.block,a.off+j,none⟩:=by unfold Addr.add;rw[if_neg (by omega)]
theorem mF {w w':World}{A:Option Addr}{l:List Exp}(h:Row Exp.cells 2 w A l)(hb:Below w.heap.size w w')(i:Nat)(hi:i<l.length):
  ∃ad,A=some ad/\ad.block<w.heap.size/\w'.cell? (ad.add (i*2))=some (.string l[i].name)/\w'.cell? ⟨(ad.add (i*2)).block,(ad.add (i*2)).off+1,none⟩=some (iv l[i].at_):=by
 obtain⟨ad,rfl,hab,hc⟩:=Row.at_ (enc:=Exp.cells) (k:=2) (fun _=>rfl) h i hi
 have e0:=hc 0 _ rfl
 rw[add_zero_]at e0
 have hk:∀j u,0<j->(Exp.cells l[i])[j]? =some u->w'.cell? ⟨(ad.add (i*2)).block,(ad.add (i*2)).off+j,none⟩=some u:=fun j u hj hu=>by
  rw[<-add_pos_ _ _ hj]
  exact(hb.cell (by rw[aA,aA];exact hab)).trans (hc j u hu)
 exact⟨ad,rfl,hab,(hb.cell (by rw[aA];exact hab)).trans e0,hk 1 _ (by omega) rfl⟩
theorem TA {w w':World}{A:Option Addr}{l:List Imp}(h:Row Imp.cells 4 w A l)(hb:Below w.heap.size w w')(i:Nat)(hi:i<l.length):
  ∃ad,A=some ad/\ad.block<w.heap.size/\w'.cell? (ad.add (i*4))=some (.string l[i].mod)/\w'.cell? ⟨(ad.add (i*4)).block,(ad.add (i*4)).off+1,none⟩=some (.string l[i].name)/\w'.cell? ⟨(ad.add (i*4)).block,(ad.add (i*4)).off+2,none⟩=some (iv l[i].major)/\w'.cell? ⟨(ad.add (i*4)).block,(ad.add (i*4)).off+3,none⟩=some (iv l[i].minor):=by
 obtain⟨ad,rfl,hab,hc⟩:=Row.at_ (enc:=Imp.cells) (k:=4) (fun _=>rfl) h i hi
 have e0:=hc 0 _ rfl
 rw[add_zero_]at e0
 have hk:∀j u,0<j->(Imp.cells l[i])[j]? =some u->w'.cell? ⟨(ad.add (i*4)).block,(ad.add (i*4)).off+j,none⟩=some u:=fun j u hj hu=>by
  rw[<-add_pos_ _ _ hj]
  exact(hb.cell (by rw[aA,aA];exact hab)).trans (hc j u hu)
 exact⟨ad,rfl,hab,(hb.cell (by rw[aA];exact hab)).trans e0,hk 1 _ (by omega) rfl,hk 2 _ (by omega) rfl,hk 3 _ (by omega) rfl⟩
theorem qE {w w':World}{A:Option Addr}{l:List Pat}(h:Row Pat.cells 4 w A l)(hb:Below w.heap.size w w')(i:Nat)(hi:i<l.length):
  ∃ad,A=some ad/\ad.block<w.heap.size/\w'.cell? (ad.add (i*4))=some (iv l[i].kind)/\w'.cell? ⟨(ad.add (i*4)).block,(ad.add (i*4)).off+1,none⟩=some (iv l[i].at_)/\w'.cell? ⟨(ad.add (i*4)).block,(ad.add (i*4)).off+2,none⟩=some (iv l[i].sym)/\w'.cell? ⟨(ad.add (i*4)).block,(ad.add (i*4)).off+3,none⟩=some (iv l[i].add):=by
 obtain⟨ad,rfl,hab,hc⟩:=Row.at_ (enc:=Pat.cells) (k:=4) (fun _=>rfl) h i hi
 have e0:=hc 0 _ rfl
 rw[add_zero_]at e0
 have hk:∀j u,0<j->(Pat.cells l[i])[j]? =some u->w'.cell? ⟨(ad.add (i*4)).block,(ad.add (i*4)).off+j,none⟩=some u:=fun j u hj hu=>by
  rw[<-add_pos_ _ _ hj]
  exact(hb.cell (by rw[aA,aA];exact hab)).trans (hc j u hu)
 exact⟨ad,rfl,hab,(hb.cell (by rw[aA];exact hab)).trans e0,hk 1 _ (by omega) rfl,hk 2 _ (by omega) rfl,hk 3 _ (by omega) rfl⟩
theorem RS {w w':World}{A:Option Addr}{l:List Plc}(h:Row Plc.cells 8 w A l)(hb:Below w.heap.size w w')(i:Nat)(hi:i<l.length):
  ∃ad,A=some ad/\ad.block<w.heap.size/\w'.cell? (ad.add (i*8))=some (.string l[i].m.name)/\w'.cell? ⟨(ad.add (i*8)).block,(ad.add (i*8)).off+1,none⟩=some (iv l[i].m.major)/\w'.cell? ⟨(ad.add (i*8)).block,(ad.add (i*8)).off+2,none⟩=some (iv l[i].m.minor)/\w'.cell? ⟨(ad.add (i*8)).block,(ad.add (i*8)).off+3,none⟩=some (.string l[i].m.text)/\w'.cell? ⟨(ad.add (i*8)).block,(ad.add (i*8)).off+4,none⟩=some (.slice l[i].m.eA l[i].m.ex.length l[i].m.eC)/\w'.cell? ⟨(ad.add (i*8)).block,(ad.add (i*8)).off+5,none⟩=some (.slice l[i].m.iA l[i].m.im.length l[i].m.iC)/\w'.cell? ⟨(ad.add (i*8)).block,(ad.add (i*8)).off+6,none⟩=some (.slice l[i].m.pA l[i].m.pa.length l[i].m.pC)/\w'.cell? ⟨(ad.add (i*8)).block,(ad.add (i*8)).off+7,none⟩=some (iv l[i].first):=by
 obtain⟨ad,rfl,hab,hc⟩:=Row.at_ (enc:=Plc.cells) (k:=8) (fun _=>rfl) h i hi
 have e0:=hc 0 _ rfl
 rw[add_zero_]at e0
 have hk:∀j u,0<j->(Plc.cells l[i])[j]? =some u->w'.cell? ⟨(ad.add (i*8)).block,(ad.add (i*8)).off+j,none⟩=some u:=fun j u hj hu=>by
  rw[<-add_pos_ _ _ hj]
  exact(hb.cell (by rw[aA,aA];exact hab)).trans (hc j u hu)
 exact⟨ad,rfl,hab,(hb.cell (by rw[aA];exact hab)).trans e0,hk 1 _ (by omega) rfl,hk 2 _ (by omega) rfl,hk 3 _ (by omega) rfl,hk 4 _ (by omega) rfl,hk 5 _ (by omega) rfl,hk 6 _ (by omega) rfl,hk 7 _ (by omega) rfl⟩
theorem mY {a b:ByteArray}(h:a≠b):(a.toList==b.toList)=false:=by
 rw[Lib.toList_data,Lib.toList_data,beq_eq_false_iff_ne]
 exact fun e=>h (ba_eq e)
theorem str_eq {a b:ByteArray}(h:a=b):(a.toList==b.toList)=true:=by rw[h];simp
theorem Qz {w w0:World}{a0 a1:Value}{t:TypeId}(h:w0=w.alloc (.cells #[a0,a1] t)):w0.cell? ⟨w.heap.size,0,none⟩=some a0/\w0.cell? ⟨w.heap.size,1,none⟩=some a1/\w0.heap.size=w.heap.size+1/\Below w.heap.size w w0:=by
 subst h
 refine⟨by rw[World.cell?_alloc_new];rfl,by rw[World.cell?_alloc_new];rfl,by simp,ZB⟩
theorem uE {w w0:World}{a0 a1 a2:Value}{t:TypeId}(h:w0=w.alloc (.cells #[a0,a1,a2] t)):w0.cell? ⟨w.heap.size,0,none⟩=some a0/\w0.cell? ⟨w.heap.size,1,none⟩=some a1/\w0.cell? ⟨w.heap.size,2,none⟩=some a2/\w0.heap.size=w.heap.size+1/\Below w.heap.size w w0:=by
 subst h
 refine⟨by rw[World.cell?_alloc_new];rfl,by rw[World.cell?_alloc_new];rfl,by rw[World.cell?_alloc_new];rfl,by simp,ZB⟩
theorem oJ {w w0:World}{a0 a1 a2 a3:Value}{t:TypeId}(h:w0=w.alloc (.cells #[a0,a1,a2,a3] t)):w0.cell? ⟨w.heap.size,0,none⟩=some a0/\w0.cell? ⟨w.heap.size,1,none⟩=some a1/\w0.cell? ⟨w.heap.size,2,none⟩=some a2/\w0.cell? ⟨w.heap.size,3,none⟩=some a3/\w0.heap.size=w.heap.size+1/\Below w.heap.size w w0:=by
 subst h
 refine⟨by rw[World.cell?_alloc_new];rfl,by rw[World.cell?_alloc_new];rfl,by rw[World.cell?_alloc_new];rfl,by rw[World.cell?_alloc_new];rfl,by simp,ZB⟩
theorem wE {w w0:World}{a0 a1 a2 a3 a4 a5 a6:Value}{t:TypeId}(h:w0=w.alloc (.cells #[a0,a1,a2,a3,a4,a5,a6] t)):w0.cell? ⟨w.heap.size,0,none⟩=some a0/\w0.cell? ⟨w.heap.size,1,none⟩=some a1/\w0.cell? ⟨w.heap.size,2,none⟩=some a2/\w0.cell? ⟨w.heap.size,3,none⟩=some a3/\w0.cell? ⟨w.heap.size,4,none⟩=some a4/\w0.cell? ⟨w.heap.size,5,none⟩=some a5/\w0.cell? ⟨w.heap.size,6,none⟩=some a6/\w0.heap.size=w.heap.size+1/\Below w.heap.size w w0:=by
 subst h
 refine⟨by rw[World.cell?_alloc_new];rfl,by rw[World.cell?_alloc_new];rfl,by rw[World.cell?_alloc_new];rfl,by rw[World.cell?_alloc_new];rfl,by rw[World.cell?_alloc_new];rfl,by rw[World.cell?_alloc_new];rfl,by rw[World.cell?_alloc_new];rfl,by simp,ZB⟩
theorem zH {w w0:World}{a0 a1 a2 a3 a4 a5 a6 a7:Value}{t:TypeId}(h:w0=w.alloc (.cells #[a0,a1,a2,a3,a4,a5,a6,a7] t)):w0.cell? ⟨w.heap.size,0,none⟩=some a0/\w0.cell? ⟨w.heap.size,1,none⟩=some a1/\w0.cell? ⟨w.heap.size,2,none⟩=some a2/\w0.cell? ⟨w.heap.size,3,none⟩=some a3/\w0.cell? ⟨w.heap.size,4,none⟩=some a4/\w0.cell? ⟨w.heap.size,5,none⟩=some a5/\w0.cell? ⟨w.heap.size,6,none⟩=some a6/\w0.cell? ⟨w.heap.size,7,none⟩=some a7/\w0.heap.size=w.heap.size+1/\Below w.heap.size w w0:=by
 subst h
 refine⟨by rw[World.cell?_alloc_new];rfl,by rw[World.cell?_alloc_new];rfl,by rw[World.cell?_alloc_new];rfl,by rw[World.cell?_alloc_new];rfl,by rw[World.cell?_alloc_new];rfl,by rw[World.cell?_alloc_new];rfl,by rw[World.cell?_alloc_new];rfl,by rw[World.cell?_alloc_new];rfl,by simp,ZB⟩
end
section
open Go
def fU (q:Plc->Bool):List Plc->Int
 | []=>0
 |x::l=>if aL x.m≠0 then aL x.m else if q x=false then 3 else fU q l
def bY (q:Plc->Bool)(l:List Plc):Int:=if 8<l.length then 2 else fU q l
def SF (q:Plc->Bool)(l:List Plc)(j:Nat):Int:=fU q (l.drop j)
section
variable {q:Plc->Bool} {l:List Plc} {j:Nat}
theorem vG (h:¬j<l.length):SF q l j=0:=by
 unfold SF;rw[List.drop_eq_nil_of_le (by omega)];rfl
theorem vW (h:j<l.length)(h1:aL l[j].m≠0):SF q l j=aL l[j].m:=by
 unfold SF;rw[GY4 h];unfold fU;rw[if_pos h1]
theorem yH (h:j<l.length)(h1:aL l[j].m=0)(h2:q l[j]=false):SF q l j=3:=by
 unfold SF;rw[GY4 h];unfold fU;rw[if_neg (by omega),if_pos h2]
theorem UL (h:j<l.length)(h1:aL l[j].m=0)(h2:q l[j]=true):SF q l (j+1)=SF q l j:=by
 conv=>rhs;unfold SF;rw[GY4 h];unfold fU;rw[if_neg (by omega),if_neg (by simp[h2])]
 rfl
end
theorem zY {q:Plc->Bool}:∀{l:List Plc},fU q l=0->∀x∈l,aL x.m=0/\q x=true
 |y::l,h,x,hx=>by
  unfold fU at h
  split at h
  ·contradiction
  ·split at h
   ·cases h
   ·rcases List.mem_cons.1 hx with rfl|hx
    ·exact⟨by omega,by simpa using ‹¬q x=false›⟩
    ·exact zY h x hx
theorem TB {q:Plc->Bool}{l:List Plc}(h:bY q l=0):l.length<=8/\∀x∈l,aL x.m=0/\q x=true:=by
 unfold bY at h
 split at h
 ·cases h
 ·exact⟨by omega,zY h⟩
theorem aY {m:Mod}(h:aL m=0):isName m.name=true/\m.name≠RG/\m.text.size<=256/\1<=m.text.size/\m.text.size % 4=0/\m.ex.length<=6/\m.im.length<=6/\m.pa.length<=12/\eF [] m.text.size m.ex=0/\eP [] m.im=0/\
  (0<=m.major/\m.major<=255/\0<=m.minor/\m.minor<=255):=by
 unfold aL at h
 by_cases h1:isName m.name=false\/m.name=RG
 ·rw[if_pos h1]at h;omega
 rw[if_neg h1]at h
 by_cases h2:m.major<0\/255<m.major\/m.minor<0\/255<m.minor
 ·rw[if_pos h2]at h;omega
 rw[if_neg h2]at h
 by_cases h3:256<m.text.size\/6<m.ex.length\/6<m.im.length\/12<m.pa.length
 ·rw[if_pos h3]at h;omega
 rw[if_neg h3]at h
 by_cases h4:m.text.size=0\/m.text.size % 4≠0
 ·rw[if_pos h4]at h;omega
 rw[if_neg h4]at h
 by_cases h5:eF [] m.text.size m.ex=0
 ·rw[if_neg (by omega)]at h
  by_cases h6:eP [] m.im=0
  ·simp only[not_or]at h1
   exact⟨by simpa using h1.1,h1.2,by omega,by omega,by omega,by omega,by omega,by omega,h5,h6,by omega⟩
  ·rw[if_pos h6]at h;omega
 ·rw[if_pos h5]at h;omega
theorem lJ {most:Int}:∀{l:List Exp}{seen:List ByteArray},eF seen most l=0->∀x∈l,isName x.name=true/\0<=x.at_/\x.at_<most
 |y::l,seen,h,x,hx=>by
  unfold eF at h
  by_cases h1:isName y.name=false
  ·rw[if_pos h1]at h;omega
  rw[if_neg h1]at h
  split at h
  ·omega
  ·by_cases h2:y.at_<0\/most<=y.at_
   ·rw[if_pos h2]at h;omega
   rw[if_neg h2]at h
   rcases List.mem_cons.1 hx with rfl|hx
   ·exact⟨by simpa using h1,by omega,by omega⟩
   ·exact lJ h x hx
def bJ (k:Krn):Int:=
 if k.major<0\/255<k.major\/k.minor<0\/255<k.minor then 3 else if 8<k.ex.length then 2 else eF [] 4096 k.ex
def P9 (x:Plc):Bool:=decide (0<=x.first)&&decide (x.first<=15)
def kE (x:Plc):Bool:=decide (0<=x.first)&&decide (x.first<=16 -aH x.m)
def iB (k:Krn)(l:List Plc):Int:=if bJ k≠0 then bJ k else bY P9 l
theorem Uo {k:Krn}{l:List Plc}(h:iB k l=0):bJ k=0/\bY P9 l=0:=by
 unfold iB at h
 by_cases h1:bJ k=0
 ·rw[if_neg (by omega)]at h;exact⟨h1,h⟩
 ·rw[if_pos h1]at h;omega
theorem Ee {k:Krn}(h:bJ k=0):∀x∈k.ex,isName x.name=true/\0<=x.at_/\x.at_<4096:=by
 unfold bJ at h
 split at h
 ·omega
 split at h
 ·omega
 ·exact lJ h
def idxOf {α:Type}(q:α->Bool):List α->Int
 | []=> -1
 |x::l=>if q x=true then 0 else if idxOf q l<0 then-1 else idxOf q l+1
theorem gT {α:Type}{q:α->Bool}:∀{l:List α},(∀j(h:j<l.length),q l[j]=false)->idxOf q l= -1
 | [],_=>rfl
 |x::l,h=>by
  unfold idxOf
  have h0:q x=false:=h 0 (by simp)
  rw[if_neg (by simp[h0])]
  rw[gT (l:=l) (fun j hj=>h (j+1) (by simpa using hj))];rfl
theorem fJ {α:Type}{q:α->Bool}:∀{l:List α}{j:Nat}(hj:j<l.length),(∀k(h:k<l.length),k<j->q l[k]=false)->q l[j]=true->idxOf q l=j
 |x::l,0,_,_,h=>by
  have h0:q x=true:=h
  unfold idxOf;rw[if_pos h0];rfl
 |x::l,j+1,hj,hn,h=>by
  unfold idxOf
  have h0:q x=false:=hn 0 (by simp) (by omega)
  rw[if_neg (by simp[h0])]
  have:=fJ (q:=q) (l:=l) (j:=j) (by simpa using hj) (fun k hk hkj=>hn (k+1) (by simpa using hk) (by omega)) h
  rw[this,if_neg (by omega)];omega
theorem Sb {α:Type}(q:α->Bool)(l:List α):(idxOf q l= -1/\∀x∈l,q x=false)\/∃j,∃h:j<l.length,idxOf q l=j/\q l[j]=true/\∀k(hk:k<l.length),k<j->q l[k]=false:=by
 by_cases h:∀x∈l,q x=false
 ·exact .inl ⟨gT (fun j hj=>h _ (GZ9 _)),h⟩
 ·refine .inr ?_
  have:∃j,∃h:j<l.length,q l[j]=true:=by
   obtain⟨x,hx⟩:=Classical.not_forall.1 h
   obtain⟨hx,hq⟩:=Classical.not_imp.1 hx
   obtain⟨j,hj,rfl⟩:=List.getElem_of_mem hx
   exact⟨j,hj,by simpa using hq⟩
  have hmin:∃j,(∃h:j<l.length,q l[j]=true)/\∀k,k<j->¬ ∃h:k<l.length,q l[k]=true:=by
   obtain⟨j,hj⟩:=this
   induction j using Nat.strongRecOn with
   |_ j ih=>
    by_cases hk:∃k,k<j/\∃h:k<l.length,q l[k]=true
    ·obtain⟨k,hkj,hk⟩:=hk;exact ih k hkj hk
    ·exact⟨j,hj,fun k hkj hk'=>hk ⟨k,hkj,hk'⟩⟩
  obtain⟨j,⟨hj,hq⟩,hn⟩:=hmin
  have hn':∀k(hk:k<l.length),k<j->q l[k]=false:=fun k hk hkj=>by
   cases hqk:q l[k]
   ·rfl
   ·exact absurd ⟨hk,hqk⟩ (hn k hkj)
  exact⟨j,hj,fJ hj hn' hq,hq,hn'⟩
def named (nm:ByteArray)(x:Plc):Bool:=decide (x.m.name=nm)
def called (nm:ByteArray)(x:Exp):Bool:=decide (x.name=nm)
def iR (l:List Exp)(nm:ByteArray):Int×Int:=match l.find? (called nm)with
 |some x=>(x.at_,0)
 |none=>(0,5)
def addrOf (k:Krn)(l:List Plc)(i:Imp):Int×Int:=
 if i.mod=RG then(if k.major≠i.major\/k.minor<i.minor then(0,4)else iR k.ex i.name)
 else match l.find? (named i.mod)with
  |none=>(0,5)
  |some x=>if x.m.major≠i.major\/x.m.minor<i.minor then(0,4)else
   if(iR x.m.ex i.name).2≠0 then(0,5)else(4096+64*x.first+(iR x.m.ex i.name).1,0)
theorem gW {α:Type}(q:α->Bool)(l:List α):(idxOf q l= -1/\l.find? q=none)\/∃j,∃h:j<l.length,idxOf q l=j/\l.find? q=some l[j]:=by
 rcases Sb q l with⟨h1,h2⟩|⟨j,hj,h1,h2,h3⟩
 ·exact .inl ⟨h1,List.find?_eq_none.2 (fun x hx=>by simp[h2 x hx])⟩
 ·refine .inr ⟨j,hj,h1,?_⟩
  rw[List.find?_eq_some_iff_getElem]
  exact⟨h2,j,hj,rfl,fun k hk=>by simp[h3 k (by omega) hk]⟩
def aN (k:Krn)(l:List Plc):List Imp->List Int×Int
 | []=>([],0)
 |i::r=>if(addrOf k l i).2≠0 then([],(addrOf k l i).2)else if(aN k l r).2≠0 then([],(aN k l r).2)else((addrOf k l i).1::(aN k l r).1,0)
theorem Gp {k:Krn}{l:List Plc}:∀{r:List Imp},(aN k l r).2≠0->(aN k l r).1=[]
 | [],h=>absurd rfl h
 |i::r,h=>by
  unfold aN at h ⊢
  split
  ·rfl
  ·split
   ·rfl
   ·rename_i h1 h2
    rw[if_neg h1,if_neg h2]at h
    exact absurd rfl h
def glue (pre:List Int)(r:List Int×Int):List Int×Int:=if r.2≠0 then([],r.2)else(pre++r.1,0)
theorem Gb {k:Krn}{l:List Plc}{r:List Imp}:glue [] (aN k l r)=aN k l r:=by
 unfold glue
 by_cases h:(aN k l r).2=0
 ·rw[if_neg (by omega)];simp[<-h]
 ·rw[if_pos h,<-Gp h]
theorem Hf {k:Krn}{l:List Plc}{r:List Imp}{pre:List Int}{j:Nat}(h:¬j<r.length):glue pre (aN k l (r.drop j))=(pre,0):=by
 rw[List.drop_eq_nil_of_le (by omega)];simp[aN,glue]
theorem Fw {k:Krn}{l:List Plc}{r:List Imp}{pre:List Int}{j:Nat}(h:j<r.length)(he:(addrOf k l r[j]).2≠0):glue pre (aN k l (r.drop j))=([],(addrOf k l r[j]).2):=by
 rw[GY4 h];unfold aN;rw[if_pos he];unfold glue;rw[if_pos he]
theorem I8 {k:Krn}{l:List Plc}{i:Imp}{r:List Imp}(he:(addrOf k l i).2=0):aN k l (i::r)=if(aN k l r).2≠0 then([],(aN k l r).2)else((addrOf k l i).1::(aN k l r).1,0):=by
 rw[aN,if_neg (by simp[he])]
theorem Jw {k:Krn}{l:List Plc}{r:List Imp}{pre:List Int}{j:Nat}(h:j<r.length)(he:(addrOf k l r[j]).2=0):glue (pre++[(addrOf k l r[j]).1]) (aN k l (r.drop (j+1)))=glue pre (aN k l (r.drop j)):=by
 rw[GY4 h,I8 he]
 by_cases hr:(aN k l (r.drop (j+1))).2=0
 ·rw[if_neg (by simp[hr])];unfold glue;rw[if_neg (by simp[hr]),if_neg (by simp)];simp
 ·rw[if_pos hr];unfold glue;rw[if_pos hr,if_pos hr]
end
section
open Go.RowKit
theorem bE (n a b:Int)(w:World):
  Calls Tryz.prog 75 #[.int .i64 n,.int .i64 a,.int .i64 b] w fun e w'=>e=.returned (.bool (decide (a<=n)&&decide (n<=b)))/\w=w':=by
 go_enter Tryz.func75,Tryz.ntmps75
 go_wp2_with fail
 all_goals(go_ret;exact⟨aV (by rw[Bool.eq_iff_iff];simp;omega),rfl⟩)
theorem bK (n a b:Int)(w:World)(h1:a<=n)(h2:n<=b):
  Calls Tryz.prog 75 #[.int .i64 n,.int .i64 a,.int .i64 b] w fun e w'=>e=.returned (.bool true)/\w=w':=
 (bE n a b w).mono fun _ _ h=>⟨h.1.trans (aV (by simp;omega)),h.2⟩
theorem RQ (n a b:Int)(w:World)(h:n<a\/b<n):
  Calls Tryz.prog 75 #[.int .i64 n,.int .i64 a,.int .i64 b] w fun e w'=>e=.returned (.bool false)/\w=w':=
 (bE n a b w).mono fun _ _ h'=>⟨h'.1.trans (aV (by simp;omega)),h'.2⟩
theorem xN (s:ByteArray)(at_ b:Int)(w:World)(hs:s.size<=140737488351232):
  Calls Tryz.prog 241 #[.string s,.int .i64 at_,.int .i64 b] w fun e w'=>e=.returned (.int .i64 (eQ s.size at_ b))/\w=w':=by
 go_enter Tryz.func241,Tryz.ntmps241
 go_wp2_with fail
 all_goals(go_ret;exact⟨aC (by unfold eQ;(repeat' split)<;>first|rfl|omega),rfl⟩)
theorem QL (s:ByteArray)(a k:Nat)(w:World)(hs:s.size<=140737488351232)(hok:eQ s.size a k=0):
  Calls Tryz.prog 197 #[.string s,.int .i64 a,.int .i64 k] w fun e w'=>e=.returned (.tuple #[.int .i64 (num ((s.data.toList.drop a).take k)),.int .i64 0])/\w=w':=by
 obtain⟨h1,h2,h3,h4,h5⟩:=mG hok
 go_enter Tryz.func197,Tryz.ntmps197
 go_wp2_with (go_at_call 241;refine(xN _ _ _ _ hs).mono ?_;rintro e w' ⟨rfl,rfl⟩)
 go_loop [9,10] (fun v i=>∃j:Nat,j<=k/\i=.int .i64 ((a:Int)+j -1)/\v=.int .i64 (num ((s.data.toList.drop (a+j)).take (k -j)))) (fun _ i=>(intOf i+1 -a).toNat)
 case atStart=>exact⟨k,by omega,by go_num,by simp[num]⟩
 case round=>
  obtain⟨j,hj,rfl,rfl⟩:=hrel
  by_cases hlt:0<j
  ·have hb0:=num_nonneg ((s.data.toList.drop (a+j)).take (k -j))
   have hsz:(a:Int)+j -1<s.size:=by omega
   go_wp2_with fail
   go_round
   case rel=>
    refine⟨j -1,by omega,by go_num,?_⟩
    have hlen:a+(j -1)<s.data.toList.length:=by have:s.data.toList.length=s.size:=rfl;omega
    have e1:=Ak s.data.toList (a+(j -1)) (k -j) hlen
    rw[show a+(j -1)+1=a+j from by omega,show k -j+1=k -(j -1) from by omega]at e1
    have hb1:num ((s.data.toList.drop (a+j)).take (k -j))<16777216:=by
     refine Int.lt_of_lt_of_le (EP _) ?_
     have hl:((s.data.toList.drop (a+j)).take (k -j)).length<=3:=by simp;omega
     generalize((s.data.toList.drop (a+j)).take (k -j)).length=q at hl
     have:∀q:Fin 4,dV q.val<=16777216:=by decide
     exact this ⟨q,by omega⟩
    rw[e1]
    simp only[num]
    rw[Pp _ _ hb0 hb1 (UInt8.toNat_lt _)]
    congr 1
    have:s.data.toList[a+(j -1)]=s[a+j -1]:=by simp[show a+(j -1)=a+j -1 from by omega];rfl
    rw[this];omega
   case measure=>simp[intOf]<;>omega
  ·obtain rfl:j=0:=by omega
   go_wp2_with fail
   go_ret2
   exact⟨rfl,rfl⟩
theorem Q6 (s:ByteArray)(a k:Int)(w:World)(hs:s.size<=140737488351232)(hno:eQ s.size a k≠0):
  Calls Tryz.prog 197 #[.string s,.int .i64 a,.int .i64 k] w fun e w'=>e=.returned (.tuple #[.int .i64 0,.int .i64 (eQ s.size a k)])/\w=w':=by
 go_enter Tryz.func197,Tryz.ntmps197
 go_wp2_with (go_at_call 241;refine(xN _ _ _ _ hs).mono ?_;rintro e w' ⟨rfl,rfl⟩)
 all_goals(go_ret2;exact⟨rfl,rfl⟩)
end
section
open Go.RowKit
theorem gU (n a b:Int)(w:World):
  Calls Tryz.prog 217 #[.int .i64 n,.int .i64 a,.int .i64 b] w fun e w'=>e=.returned (.bool (decide (a<=n)&&decide (n<=b)))/\w=w':=by
 go_enter Tryz.func217,Tryz.ntmps217
 go_wp2_with fail
 all_goals(go_ret;exact⟨aV (by rw[Bool.eq_iff_iff];simp;omega),rfl⟩)
theorem TJ (n a b:Int)(w:World)(h1:a<=n)(h2:n<=b):
  Calls Tryz.prog 217 #[.int .i64 n,.int .i64 a,.int .i64 b] w fun e w'=>e=.returned (.bool true)/\w=w':=
 (gU n a b w).mono fun _ _ h=>⟨h.1.trans (aV (by simp;omega)),h.2⟩
theorem mV (n a b:Int)(w:World)(h:n<a\/b<n):
  Calls Tryz.prog 217 #[.int .i64 n,.int .i64 a,.int .i64 b] w fun e w'=>e=.returned (.bool false)/\w=w':=
 (gU n a b w).mono fun _ _ h'=>⟨h'.1.trans (aV (by simp;omega)),h'.2⟩
theorem gP (k:Int)(w:World):
  Calls Tryz.prog 235 #[.int .i64 k] w fun e w'=>e=.returned (.int .i64 (aK k))/\Below w.heap.size w w':=by
 rcases Rf k with⟨rfl,h⟩|⟨rfl,h⟩|⟨rfl,h⟩|⟨rfl,h⟩|⟨rfl,h⟩|⟨hk,h⟩
 all_goals
  have H:=Hp h
  clear h
  go_enter Tryz.func235,Tryz.ntmps235
  go_wp2_with (first|(go_at_call 217;(with_reducible refine(TJ _ _ _ _ ?_ ?_).mono ?_);(focus (first|omega|assumption));(focus (first|omega|assumption));rintro e w' ⟨rfl,rfl⟩)|(go_at_call 217;(with_reducible refine(mV _ _ _ _ ?_).mono ?_);(focus (first|omega|assumption));rintro e w' ⟨rfl,rfl⟩)|(go_at_call 217;(with_reducible refine(gU _ _ _ _).mono ?_);rintro e w' ⟨rfl,rfl⟩))
 all_goals first|(go_ret;rw[H.out];first|exact⟨rfl,GZ4 _ _⟩|exact⟨rfl,ZB⟩)|(exfalso;simp at*;omega)
def mI (kind sum place:Int):Int:=if kind=2 then sum -place else if kind=3 then sum / 65536 else if kind=5 then(sum -place).tdiv 2 else sum
def TD (kind sum place:Int):Bool:=!(decide (kind=5)&&decide ((sum -place) % 2=1))
theorem BM (kind sum place:Int)(w:World)(h1:0<=sum)(h2:sum<=131070)(h3:0<=place)(h4:place<=65535)(hk:aK kind≠0):
  Calls Tryz.prog 284 #[.int .i64 kind,.int .i64 sum,.int .i64 place] w fun e w'=>
   e=.returned (.tuple #[.int .i64 (mI kind sum place),.bool (TD kind sum place)])/\w=w':=by
 have HD:=Hp (Nk (sum -place))
 have HM:=Hp (Qn (sum -place))
 rcases Rf kind with⟨rfl,h⟩|⟨rfl,h⟩|⟨rfl,h⟩|⟨rfl,h⟩|⟨rfl,h⟩|⟨_,h⟩
 ·clear h hk
  go_enter Tryz.func284,Tryz.ntmps284
  go_wp2_with fail
  go_ret2
  exact⟨by simp[mI,TD],rfl⟩
 ·clear h hk
  go_enter Tryz.func284,Tryz.ntmps284
  go_wp2_with fail
  go_ret2
  exact⟨by simp[mI,TD],rfl⟩
 ·clear h hk
  go_enter Tryz.func284,Tryz.ntmps284
  go_wp2_with fail
  go_ret2
  exact⟨by simp[mI,TD],rfl⟩
 ·clear h hk
  go_enter Tryz.func284,Tryz.ntmps284
  go_wp2_with fail
  go_ret2
  exact⟨by simp[mI,TD],rfl⟩
 ·clear h hk
  go_enter Tryz.func284,Tryz.ntmps284
  go_wp2_with fail
  all_goals
   have hd:=HD.out
   have hm:=HM.out
   clear HD HM
   go_ret2
   refine⟨?_,rfl⟩
   have e:TD 5 sum place=decide ((sum -place).tmod 2=0):=by
    unfold TD;rw[Bool.eq_iff_iff];simp;split at hm<;>omega
   rw[e]
   simp[mI]
   try(split at hm<;>split at hd<;>omega)
 ·exact absurd h hk
theorem EO (n:Int)(w:World):
  Calls Tryz.prog 283 #[.int .i64 n] w fun e w'=>e=.returned (.bool (decide (0<=n)&&decide (n<65536)))/\w=w':=by
 go_enter Tryz.func283,Tryz.ntmps283
 go_wp2_with fail
 all_goals(go_ret;exact⟨aV (by rw[Bool.eq_iff_iff];simp;omega),rfl⟩)
theorem QY (w:Int)(h:w=2\/w=3\/w=4)(n:Int):bits .and .i64 n (2^(8*w).toNat -1)=n % dV w.toNat:=by
 rcases h with rfl|rfl|rfl
 ·exact(Bd n 16 (by omega)).trans rfl
 ·exact(Bd n 24 (by omega)).trans rfl
 ·exact(Bd n 32 (by omega)).trans rfl
theorem Cr (kind sym add place:Int)(w:World):
  Calls Tryz.prog 254 #[.int .i64 kind,.int .i64 sym,.int .i64 add,.int .i64 place] w fun e w'=>
   e=.returned (.tuple #[.int .i64 (bD kind sym add place),.int .i64 (RN kind sym add place)])/\Below w.heap.size w w':=by
 by_cases h0:aK kind=0
 ·have h1:RN kind sym add place=7:=by unfold RN;rw[if_pos h0]
  have h2:bD kind sym add place=0:=by unfold bD;rw[h1,if_neg (by omega)]
  rw[h1,h2]
  clear h1 h2
  go_enter Tryz.func254,Tryz.ntmps254
  go_wp2_with (first|(go_at_call 235;(with_reducible refine(gP _ _).mono ?_);rintro e w1 ⟨rfl,hb1⟩)|(go_at_call 283;(with_reducible refine(EO _ _).mono ?_);rintro e w' ⟨rfl,rfl⟩))
  all_goals(go_ret2;exact⟨by simp,by assumption⟩)
 ·by_cases hr:sym<0\/65535<sym\/place<0\/65535<place\/add<0\/65535<add
  ·have h1:RN kind sym add place=3:=by unfold RN;rw[if_neg h0,if_pos hr]
   have h2:bD kind sym add place=0:=by unfold bD;rw[h1,if_neg (by omega)]
   rw[h1,h2]
   clear h1 h2
   have h0':(aK kind==0)=false:=by simp[h0]
   go_enter Tryz.func254,Tryz.ntmps254
   go_wp2_with (first|(go_at_call 235;(with_reducible refine(gP _ _).mono ?_);rintro e w1 ⟨rfl,hb1⟩)|(go_at_call 283;(with_reducible refine(EO _ _).mono ?_);rintro e w' ⟨rfl,rfl⟩)|(go_at_call 284;(with_reducible refine(BM _ _ _ _ (by simp at*;omega) (by simp at*;omega) (by simp at*;omega) (by simp at*;omega) h0).mono ?_);rintro e w' ⟨rfl,rfl⟩))
   all_goals(go_ret2;exact⟨by simp,by assumption⟩)
  ·have hr':0<=sym/\sym<=65535/\0<=place/\place<=65535/\0<=add/\add<=65535:=by omega
   obtain⟨r1,r2,r3,r4,r5,r6⟩:=hr'
   have h0':(aK kind==0)=false:=by simp[h0]
   by_cases ho:kind=5/\(sym+add -place) % 2=1
   ·have h1:RN kind sym add place=4:=by unfold RN;rw[if_neg h0,if_neg hr,if_pos ho]
    have h2:bD kind sym add place=0:=by unfold bD;rw[h1,if_neg (by omega)]
    have h3:TD kind (sym+add) place=false:=by simp[TD,ho]
    rw[h1,h2]
    clear h1 h2 ho hr
    go_enter Tryz.func254,Tryz.ntmps254
    go_wp2_with (first|(go_at_call 235;(with_reducible refine(gP _ _).mono ?_);rintro e w1 ⟨rfl,hb1⟩)|(go_at_call 283;(with_reducible refine(EO _ _).mono ?_);rintro e w' ⟨rfl,rfl⟩)|(go_at_call 284;(with_reducible refine(BM _ _ _ _ (by omega) (by omega) (by omega) (by omega) h0).mono ?_);rintro e w' ⟨rfl,rfl⟩))
    all_goals first|(go_ret2;exact⟨by simp,by assumption⟩)|(exfalso;omega)
   ·have h1:RN kind sym add place=0:=by unfold RN;rw[if_neg h0,if_neg hr,if_neg ho]
    have h2:bD kind sym add place=mI kind (sym+add) place % dV (aK kind).toNat:=by
     unfold bD;rw[h1,if_pos rfl]
     congr 1
     have hd:=Nk (sym+add -place)
     unfold wI mI
     (repeat' split)<;>first|rfl|(split at hd<;>omega)
    have h3:TD kind (sym+add) place=true:=by
     unfold TD;simp;omega
    have hw:aK kind=2\/aK kind=3\/aK kind=4:=by rcases Rf kind with⟨_,h⟩|⟨_,h⟩|⟨_,h⟩|⟨_,h⟩|⟨_,h⟩|⟨_,h⟩<;>omega
    have hm:=QY (aK kind) hw (mI kind (sym+add) place)
    rw[h1,h2]
    have h5:16<=8*aK kind:=by omega
    have h6:8*aK kind<=32:=by omega
    obtain⟨k1,k2,_⟩:=uZ (8*aK kind).toNat (by omega) (by omega)
    have hp:wrap64 (2^(8*aK kind).toNat)=2^(8*aK kind).toNat:=IntWalk.wrap64_in _ (by omega)
    have HM:=Hp hm
    clear h1 h2 ho hr hm hw
    have h7:2<=aK kind:=by omega
    have h8:aK kind<=4:=by omega
    go_enter Tryz.func254,Tryz.ntmps254
    go_wp2_with (first|(go_at_call 235;(with_reducible refine(gP _ _).mono ?_);rintro e w1 ⟨rfl,hb1⟩)|(go_at_call 283;(with_reducible refine(EO _ _).mono ?_);rintro e w' ⟨rfl,rfl⟩)|(go_at_call 284;(with_reducible refine(BM _ _ _ _ (by omega) (by omega) (by omega) (by omega) h0).mono ?_);rintro e w' ⟨rfl,rfl⟩))
    go_ret2
    exact⟨Tu HM.out rfl,hb1⟩
end
end Go.Proofs.YtjiedaialianmaaGreat
