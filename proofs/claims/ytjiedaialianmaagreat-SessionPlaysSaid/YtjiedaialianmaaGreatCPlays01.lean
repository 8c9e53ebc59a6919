import Derived.Test.YtjiedaialianmaaGreatA01
import Derived.Test.YtjiedaialianmaaGreatA03
import Derived.Shelf.Strings.OnBuilder
import Derived.Shelf.Strings.BuilderK
import Derived.Shelf.Sort.Plain
import Derived.Shelf.GgClosure.StringsIndexFunc
import Derived.Shelf.Strings.Repeat
import Derived.Shelf.Slices.Clone
import Derived.Shelf.Slices.Cells
import Derived.Shelf.Slices.In.SortNone
import Derived.Shelf.Slices.Empties
section
namespace Go.Proofs
open Go.Shelf
def Tryz.yG :Go.Shelf.Ren:=⟨fun|156=>228|165=>226|166=>89|169=>92|240=>165|241=>257|276=>224|277=>285|n=>n,fun|31=>27|9=>9|3=>3|4=>4|0=>0|20=>20|72=>137|76=>141|70=>134|37=>135|75=>140|127=>210|164=>257|5=>5|80=>145|n=>n,fun|n=>n⟩
theorem Tryz.Oe :Go.Proofs.Lays.n156 Tryz.prog Tryz.yG:={
 mixed:=by kernel_rfl
 f156:=Tryz.func228.trans (congrArg some (by kernel_rfl))
 f165:=Tryz.func226.trans (congrArg some (by kernel_rfl))
 f166:=Tryz.func89.trans (congrArg some (by kernel_rfl))
 f169:=Tryz.func92.trans (congrArg some (by kernel_rfl))
 f240:=Tryz.func165.trans (congrArg some (by kernel_rfl))
 f241:=Tryz.func257.trans (congrArg some (by kernel_rfl))
 f276:=Tryz.func224.trans (congrArg some (by kernel_rfl))
 f277:=Tryz.func285.trans (congrArg some (by kernel_rfl))
 t0:=Tryz.underlying0
 a0:=Tryz.isAgg0
 z0:=Tryz.sizeOf0
 v0:=Tryz.zeroValue0
 t3:=Tryz.underlying3
 a3:=Tryz.isAgg3
 z3:=Tryz.sizeOf3
 v3:=Tryz.zeroValue3
 t4:=Tryz.underlying4
 a4:=Tryz.isAgg4
 z4:=Tryz.sizeOf4
 v4:=Tryz.zeroValue4
 t9:=Tryz.underlying9
 a9:=Tryz.isAgg9
 z9:=Tryz.sizeOf9
 v9:=Tryz.zeroValue9
 t20:=Tryz.underlying20
 a20:=Tryz.isAgg20
 z20:=Tryz.sizeOf20
 v20:=Tryz.zeroValue20
 t31:=Tryz.underlying27
 a31:=Tryz.isAgg27
 z31:=Tryz.sizeOf27
 v31:=Tryz.zeroValue27
 t37:=Tryz.underlying135
 a37:=Tryz.isAgg135
 z37:=Tryz.sizeOf135
 v37:=Tryz.zeroValue135
 t70:=Tryz.underlying134
 a70:=Tryz.isAgg134
 z70:=Tryz.sizeOf134
 v70:=Tryz.zeroValue134
 t72:=Tryz.underlying137
 a72:=Tryz.isAgg137
 z72:=Tryz.sizeOf137
 v72:=Tryz.zeroValue137
 t75:=Tryz.underlying140
 a75:=Tryz.isAgg140
 z75:=Tryz.sizeOf140
 v75:=Tryz.zeroValue140
 t76:=Tryz.underlying141
 a76:=Tryz.isAgg141
 z76:=Tryz.sizeOf141
 v76:=Tryz.zeroValue141
 t127:=Tryz.underlying210
 a127:=Tryz.isAgg210
 z127:=Tryz.sizeOf210
 v127:=Tryz.zeroValue210
 t164:=Tryz.underlying257
 a164:=Tryz.isAgg257
 z164:=Tryz.sizeOf257
 v164:=Tryz.zeroValue257}
theorem Tryz.vC :Builder.Extra Tryz.prog Tryz.yG:={
 sizeBuilder:=by kernel_rfl
 liesBuilder:=by kernel_rfl
 t5:=Tryz.underlying5
 a5:=Tryz.isAgg5
 z5:=Tryz.sizeOf5
 v5:=Tryz.zeroValue5
 infoByte:=by kernel_rfl
 cellsByte:=by kernel_rfl
 sizeByte:=by kernel_rfl
 neB5:=by decide}
open Go.RowKit in
theorem Tryz.strings_Join (h o c:Nat)(d:List ByteArray)(a:ByteArray)(w:World)(b:∀(j:Nat)x,d[j]? =some x->w.cell? ⟨h,o+j,none⟩=some (.string x))(i:h<w.heap.size)(l:d.length<=140737488355328)(g:d.length<=c)(f:(Lib.join (d.map (·.data.toList)) a.data.toList).length<=140737488355328):
  Calls Tryz.prog 228 #[.slice (some ⟨h,o,none⟩) d.length c,.string a] w fun e k=>e=.returned (.string ⟨(Lib.join (d.map (·.data.toList)) a.data.toList).toArray⟩)/\Below w.heap.size w k:=Any.strings_Join Tryz.Oe Tryz.vC h o c d a w b i l g f
def Tryz.GL :Go.Shelf.Ren:=⟨fun|212=>211|263=>244|264=>245|n=>n,fun|46=>216|51=>275|146=>276|53=>278|148=>279|n=>n,fun|n=>n⟩
theorem Tryz.Pj :Go.Proofs.Lays.n212 Tryz.prog Tryz.GL:={
 mixed:=by kernel_rfl
 f212:=Tryz.func211.trans (congrArg some (by kernel_rfl))
 f263:=Tryz.func244.trans (congrArg some (by kernel_rfl))
 f264:=Tryz.func245.trans (congrArg some (by kernel_rfl))
 t46:=Tryz.underlying216
 a46:=Tryz.isAgg216
 z46:=Tryz.sizeOf216
 v46:=Tryz.zeroValue216
 t51:=Tryz.underlying275
 a51:=Tryz.isAgg275
 z51:=Tryz.sizeOf275
 v51:=Tryz.zeroValue275
 t53:=Tryz.underlying278
 a53:=Tryz.isAgg278
 z53:=Tryz.sizeOf278
 v53:=Tryz.zeroValue278
 t146:=Tryz.underlying276
 a146:=Tryz.isAgg276
 z146:=Tryz.sizeOf276
 v146:=Tryz.zeroValue276
 t148:=Tryz.underlying279
 a148:=Tryz.isAgg279
 z148:=Tryz.sizeOf279
 v148:=Tryz.zeroValue279}
open Go.RowKit Go.Lib in
theorem Tryz.bits_Mul (x y:Nat)(c:x<18446744073709551616)(b:y<18446744073709551616)(w:World):
  Calls Tryz.prog 211 #[.int .u64 x,.int .u64 y] w fun e a=>e=.returned (.tuple #[.int .u64 ((x*y / 18446744073709551616:Nat):Int),.int .u64 ((x*y % 18446744073709551616:Nat):Int)])/\a=w:=Any.bits_Mul Tryz.Pj x y c b w
def Tryz.CG :Go.Shelf.Ren:=⟨fun|16=>149|n=>n,fun|24=>27|9=>9|4=>4|n=>n,fun|n=>n⟩
theorem Tryz.Kg :Go.Proofs.Lays2.n16 Tryz.prog Tryz.CG:={
 mixed:=by kernel_rfl
 f16:=Tryz.func149.trans (congrArg some (by kernel_rfl))
 t4:=Tryz.underlying4
 a4:=Tryz.isAgg4
 z4:=Tryz.sizeOf4
 v4:=Tryz.zeroValue4
 t9:=Tryz.underlying9
 a9:=Tryz.isAgg9
 z9:=Tryz.sizeOf9
 v9:=Tryz.zeroValue9
 t24:=Tryz.underlying27
 a24:=Tryz.isAgg27
 z24:=Tryz.sizeOf27
 v24:=Tryz.zeroValue27
 i9:=by kernel_rfl}
open Go.RowKit Go.Lib in
theorem Tryz.slices_Clone_string (b a n c:Nat)(d:List ByteArray)(w:World)(i:n<=d.length)(f:n*16<=140737488355328)(k:∀j,j<d.length->w.cell? ⟨b,a+j,none⟩=some (.string (d.getD j ByteArray.empty))):
  Calls Tryz.prog 149 #[.slice (some ⟨b,a,none⟩) n c] w fun e h=>∃g,e=.returned g/\h.ownsRow w.heap.size 9 1 g n ((d.take n).map (Value.string))/\g≠ .slice none 0 0/\Below w.heap.size w h:=Any.slices_Clone_string Tryz.Kg b a n c d w i f k
end Go.Proofs
end
section
namespace Go.Proofs.YtjiedaialianmaaGreat
theorem Md (l:List UInt8)(c:UInt8):num (l++[c])=num l+(c.toNat:Int)*dV l.length:=by
 induction l with
 |nil=>simp[num,dV]
 |cons b l ih=>
  simp only[List.cons_append,num,ih,dV,GY8,Int.mul_add]
  rw[show(c.toNat:Int)*(256*dV l.length)=256*((c.toNat:Int)*dV l.length) from by rw[<-Int.mul_assoc,Int.mul_comm (c.toNat:Int) 256,Int.mul_assoc]]
  omega
end Go.Proofs.YtjiedaialianmaaGreat
end
section
namespace Go.Proofs.YtjiedaialianmaaGreat
open Go.RowKit
theorem Jh {P:Program}{f:FuncId}{a:Array Value}{w:World}{n:Nat}{v:Value}
  (h:Calls P f a (w.drewN n) fun e c=>e=.returned v/\w.drewN n=c):Calls P f a (w.drewN n) fun e b=>e=.returned v/\∃m,b=w.drewN m:=
 h.mono fun _ _ ⟨g,d⟩=>⟨g,n,d.symm⟩
end Go.Proofs.YtjiedaialianmaaGreat
end
section
set_option maxHeartbeats 400000
namespace Go.Proofs.YtjiedaialianmaaGreat
open Go.RowKit
theorem Np (s:ByteArray)(a k:Nat)(w:World)(D:s.size<=140737488351232)(c:eQ s.size a k=0):
  Calls Tryz.prog 242 #[.string s,.int .i64 a,.int .i64 k] w fun e l=>e=.returned (.int .i64 (num ((s.data.toList.drop a).take k)))/\Below w.heap.size w l:=by
 obtain⟨K,J,I,H,G⟩:=mG c
 go_enter Tryz.func242,Tryz.ntmps242
 go_wp2_with fail
 go_loopw [7,8] (fun v i wr=>∃j:Nat,j<=k/\i=.int .i64 j/\v=.int .i64 (num ((s.data.toList.drop a).take j))/\Below w.heap.size w wr) (fun _ i _=>k -(intOf i).toNat)
 case atStart=>exact⟨0,by omega,by go_num,by simp[num],GZ4 _ _⟩
 case round=>
  obtain⟨j,E,rfl,rfl,b⟩:=hrel
  by_cases u:j<k
  ·have n:a+j<s.size:=by omega
   have C:IntKind.i64.wrap ((a:Int)+j)=(a:Int)+j:=IntWalk.i64_in _ (by omega)
   have B:(0:Int)<=(a:Int)+j:=by omega
   have A:((a:Int)+j).toNat=a+j:=by omega
   have m:IntKind.i64.wrap (8*(j:Int))=8*(j:Int):=IntWalk.i64_in _ (by omega)
   have z:(a:Int)+j<s.size:=by omega
   go_wp2_with fail
   go_quiet ((go_at_call 205;exact Jh (OD _ _ (by omega))))
   clear m
   go_wp2_with fail
   go_roundw
   case rel=>
    refine⟨j+1,by omega,by go_num,?_,below_drewN b _⟩
    have f:a+j<s.data.toList.length:=by have:s.data.toList.length=s.size:=rfl;omega
    have y:(s.data.toList.drop a).take (j+1)=(s.data.toList.drop a).take j++[s[a+j]]:=by
     rw[List.take_succ_eq_append_getElem (by simp;omega)];simp;rfl
    have g:((s.data.toList.drop a).take j).length=j:=by simp;omega
    have x:=num_nonneg ((s.data.toList.drop a).take j)
    have d:=EP ((s.data.toList.drop a).take j)
    have p:=Em j (by omega)
    have o:=nA j
    rw[y,Md,g]
    rw[g]at d
    have F:=UInt8.toNat_lt s[a+j]
    have t:0<=(s[a+j].toNat:Int)*dV j:=Int.mul_nonneg (by omega) (by omega)
    have r:(s[a+j].toNat:Int)*dV j<=256*4294967296:=Int.mul_le_mul (by omega) p (by omega) (by omega)
    have h:wrap64 (s[a+j].toNat:Int)=s[a+j].toNat:=IntWalk.wrap64_in _ (by omega)
    rw[h]
    generalize(s[a+j].toNat:Int)*dV j=q at*
    rw[IntWalk.wrap64_in q (by omega),IntWalk.wrap64_in _ (by omega)]
   case measure=>simp[intOf]<;>omega
  ·obtain rfl:j=k:=by omega
   go_wp2_with fail
   go_ret
   exact⟨rfl,b⟩
end Go.Proofs.YtjiedaialianmaaGreat
end
section
open Go
namespace Go.Proofs.YtjiedaialianmaaGreat
def qM (n:Nat):List Ded->Int
 | []=>0
 |d::l=>if eB n d=0 then qM n l else eB n d
def Eg (f:List ByteArray)(l:List Ded):Int:=if bP f=0 then qM f.length l else bP f
def Ny :List UInt8:=List.replicate 128 255
def blank :ByteArray:=ofBytes Ny
theorem nH {n:Nat}:∀{l:List Ded},qM n l=0↔∀d∈l,eB n d=0
 | []=>by simp[qM]
 |d::l=>by
  unfold qM
  constructor
  ·intro h
   split at h
   ·next b=>intro x a;rcases List.mem_cons.1 a with rfl|a;(exact b);(exact nH.1 h x a)
   ·next b=>exact absurd h b
  ·intro h
   rw[if_pos (h d (List.mem_cons_self ..))]
   exact nH.2 fun x a=>h x (List.mem_cons_of_mem _ a)
theorem I4 {f:List ByteArray}{l:List Ded}:Eg f l=0↔bP f=0/\∀d∈l,eB f.length d=0:=by
 unfold Eg
 constructor
 ·intro h
  split at h
  ·next a=>exact⟨a,nH.1 h⟩
  ·next a=>exact absurd h a
 ·rintro⟨a,b⟩
  rw[if_pos a];exact nH.2 b
end Go.Proofs.YtjiedaialianmaaGreat
end
section
open Go
namespace Go.Proofs.YtjiedaialianmaaGreat
theorem xK (l:List UInt8):∀n,mD l n<=n
 |0=>GZ3 _
 |n+1=>by
  unfold mD
  split
  ·have:=xK l n;omega
  ·exact GZ3 _
end Go.Proofs.YtjiedaialianmaaGreat
end
section
open Go
namespace Go.Proofs.YtjiedaialianmaaGreat
theorem IP (a:Nat)(l:List UInt8)(c:UInt8):jM a (l++[c])=jM a l++(if c=255 then[]else[⟨1,((a+l.length:Nat):Int),c.toNat⟩]):=by
 induction l generalizing a with
 |nil=>simp[jM]
 |cons x l ih=>
  rw[List.cons_append]
  unfold jM
  have e:a+1+l.length=a+(x::l).length:=by rw[GY8];omega
  split
  ·rw[ih,e]
  ·rw[ih,e,List.cons_append]
theorem Bh (n j:Nat)(h:j<128*n):(flat (List.replicate n blank)).getD j 0=255:=by
 rw[xW (fun s a=>by rw[(List.mem_replicate.1 a).2];rfl) j (by rw[List.length_replicate];exact h)]
 have b:(List.replicate n blank).getD (j / 128) ⟨#[]⟩=blank:=by
  rw[List.getD_eq_getElem?_getD,List.getElem?_replicate,if_pos (by omega)];rfl
 rw[b]
 unfold blank
 rw[iZ]
 unfold Ny
 rw[List.getD_eq_getElem?_getD,List.getElem?_replicate,if_pos (by omega)];rfl
theorem kR (n:Nat):Re (flat (List.replicate n blank))=some (0,[],0):=by
 have f:(flat (List.replicate n blank)).length=128*n:=by
  rw[mP (fun s c=>by rw[(List.mem_replicate.1 c).2];rfl),List.length_replicate]
 have d:¬lV (flat (List.replicate n blank)) 0:=by
  rintro⟨e,b⟩
  apply b
  refine pR.2 fun j a=>?_
  rw[TS e]at a
  rw[UC _ _ _ a]
  exact Bh n _ (by omega)
 unfold Re
 rw[fQ,if_neg d]
 have:iG ((flat (List.replicate n blank)).take ((flat (List.replicate n blank)).length -5*0))<=0:=pK fun j _ b=>Bh n j (by omega)
 simp only
 congr 3
 omega
end Go.Proofs.YtjiedaialianmaaGreat
end
