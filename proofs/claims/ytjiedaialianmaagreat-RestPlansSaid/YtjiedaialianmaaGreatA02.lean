import Derived.Shelf.Strings.OnBuilder
import Derived.Shelf.Strings.BuilderK
import Derived.Shelf.Sort.Plain
import Derived.Shelf.GgClosure.StringsIndexFunc
import Derived.Shelf.Strings.Repeat
import Derived.Shelf.Slices.Clone
import Derived.Shelf.Slices.Cells
import Derived.Shelf.Slices.In.SortNone
import Derived.Shelf.Slices.Empties
import Derived.Test.YtjiedaialianmaaGreatRows
import Derived.WalkSpells
import Derived.WalkLawsBesides
import Derived.Handy
import Derived.Lib.Hide
import Derived.Deep.RegionHeld3
import Derived.Lib.IndexBytes
import Derived.Test.YtjiedaialianmaaGreatKTiny
section
namespace Go.Proofs
open Go.Shelf
def Tryz.yM :Go.Shelf.Ren:=⟨fun|169=>92|n=>n,fun|70=>134|9=>9|0=>0|72=>137|37=>135|127=>210|3=>3|5=>5|n=>n,fun|n=>n⟩
theorem Tryz.PO :Go.Proofs.Lays.n169 Tryz.prog Tryz.yM:={
 mixed:=by kernel_rfl
 f169:=Tryz.func92.trans (congrArg some (by kernel_rfl))
 t0:=Tryz.underlying0
 a0:=Tryz.isAgg0
 z0:=Tryz.sizeOf0
 v0:=Tryz.zeroValue0
 t3:=Tryz.underlying3
 a3:=Tryz.isAgg3
 z3:=Tryz.sizeOf3
 v3:=Tryz.zeroValue3
 t9:=Tryz.underlying9
 a9:=Tryz.isAgg9
 z9:=Tryz.sizeOf9
 v9:=Tryz.zeroValue9
 t37:=Tryz.underlying135
 a37:=Tryz.isAgg135
 z37:=Tryz.sizeOf135
 v37:=Tryz.zeroValue135
 t70:=Tryz.underlying134
 a70:=Tryz.isAgg134
 z70:=Tryz.sizeOf134
 v70:=Tryz.zeroValue134
 t72:=Tryz.underlying137
 a72:=Tryz.isAgg137
 z72:=Tryz.sizeOf137
 v72:=Tryz.zeroValue137
 t127:=Tryz.underlying210
 a127:=Tryz.isAgg210
 z127:=Tryz.sizeOf210
 v127:=Tryz.zeroValue210}
theorem Tryz.wG :Builder.Extra Tryz.prog Tryz.yM:={
 sizeBuilder:=by kernel_rfl
 liesBuilder:=by kernel_rfl
 t5:=Tryz.underlying5
 a5:=Tryz.isAgg5
 z5:=Tryz.sizeOf5
 v5:=Tryz.zeroValue5
 infoByte:=by kernel_rfl
 cellsByte:=by kernel_rfl
 sizeByte:=by kernel_rfl
 neB5:=by decide}
open Go.RowKit in
theorem Tryz.Builder_String_any (B b:Nat)(l:List UInt8)(w:World)(h:Lib.IsBuilder 137 5 B b (Lib.byteCells l) w)(a:B<=w.heap.size):
  Calls Tryz.prog 92 #[.pointer (some ⟨b,0,none⟩)] w fun e c=>e=.returned (.string ⟨l.toArray⟩)/\Below B w c:=Any.Builder_String_any Tryz.PO Tryz.wG B b l w h a
def Tryz.Ho :Go.Shelf.Ren:=⟨fun|190=>219|125=>252|258=>251|128=>281|129=>282|302=>272|303=>273|304=>274|305=>275|306=>276|307=>277|308=>278|309=>279|310=>280|333=>290|329=>291|330=>292|334=>293|335=>294|336=>295|344=>297|n=>n,fun|31=>27|9=>9|3=>3|46=>216|0=>0|51=>275|53=>278|4=>4|183=>303|182=>302|131=>265|5=>5|218=>314|222=>318|228=>320|229=>321|n=>n,fun|n=>n⟩
theorem Tryz.Js :Go.Proofs.Lays.n190 Tryz.prog Tryz.Ho:={
 mixed:=by kernel_rfl
 f125:=Tryz.func252.trans (congrArg some (by kernel_rfl))
 f128:=Tryz.func281.trans (congrArg some (by kernel_rfl))
 f129:=Tryz.func282.trans (congrArg some (by kernel_rfl))
 f190:=Tryz.func219.trans (congrArg some (by kernel_rfl))
 f258:=Tryz.func251.trans (congrArg some (by kernel_rfl))
 f302:=Tryz.func272.trans (congrArg some (by kernel_rfl))
 f303:=Tryz.func273.trans (congrArg some (by kernel_rfl))
 f304:=Tryz.func274.trans (congrArg some (by kernel_rfl))
 f305:=Tryz.func275.trans (congrArg some (by kernel_rfl))
 f306:=Tryz.func276.trans (congrArg some (by kernel_rfl))
 f307:=Tryz.func277.trans (congrArg some (by kernel_rfl))
 f308:=Tryz.func278.trans (congrArg some (by kernel_rfl))
 f309:=Tryz.func279.trans (congrArg some (by kernel_rfl))
 f310:=Tryz.func280.trans (congrArg some (by kernel_rfl))
 f329:=Tryz.func291.trans (congrArg some (by kernel_rfl))
 f330:=Tryz.func292.trans (congrArg some (by kernel_rfl))
 f333:=Tryz.func290.trans (congrArg some (by kernel_rfl))
 f334:=Tryz.func293.trans (congrArg some (by kernel_rfl))
 f335:=Tryz.func294.trans (congrArg some (by kernel_rfl))
 f336:=Tryz.func295.trans (congrArg some (by kernel_rfl))
 f344:=Tryz.func297.trans (congrArg some (by kernel_rfl))
 t0:=Tryz.underlying0
 a0:=Tryz.isAgg0
 z0:=Tryz.sizeOf0
 v0:=Tryz.zeroValue0
 t3:=Tryz.underlying3
 a3:=Tryz.isAgg3
 z3:=Tryz.sizeOf3
 v3:=Tryz.zeroValue3
 t4:=Tryz.underlying4
 a4:=Tryz.isAgg4
 z4:=Tryz.sizeOf4
 v4:=Tryz.zeroValue4
 t5:=Tryz.underlying5
 a5:=Tryz.isAgg5
 z5:=Tryz.sizeOf5
 v5:=Tryz.zeroValue5
 t9:=Tryz.underlying9
 a9:=Tryz.isAgg9
 z9:=Tryz.sizeOf9
 v9:=Tryz.zeroValue9
 t31:=Tryz.underlying27
 a31:=Tryz.isAgg27
 z31:=Tryz.sizeOf27
 v31:=Tryz.zeroValue27
 t46:=Tryz.underlying216
 a46:=Tryz.isAgg216
 z46:=Tryz.sizeOf216
 v46:=Tryz.zeroValue216
 t51:=Tryz.underlying275
 a51:=Tryz.isAgg275
 z51:=Tryz.sizeOf275
 v51:=Tryz.zeroValue275
 t53:=Tryz.underlying278
 a53:=Tryz.isAgg278
 z53:=Tryz.sizeOf278
 v53:=Tryz.zeroValue278
 t131:=Tryz.underlying265
 a131:=Tryz.isAgg265
 z131:=Tryz.sizeOf265
 v131:=Tryz.zeroValue265
 t182:=Tryz.underlying302
 a182:=Tryz.isAgg302
 z182:=Tryz.sizeOf302
 v182:=Tryz.zeroValue302
 t183:=Tryz.underlying303
 a183:=Tryz.isAgg303
 z183:=Tryz.sizeOf303
 v183:=Tryz.zeroValue303
 t218:=Tryz.underlying314
 a218:=Tryz.isAgg314
 z218:=Tryz.sizeOf314
 v218:=Tryz.zeroValue314
 t222:=Tryz.underlying318
 a222:=Tryz.isAgg318
 z222:=Tryz.sizeOf318
 v222:=Tryz.zeroValue318
 t228:=Tryz.underlying320
 a228:=Tryz.isAgg320
 z228:=Tryz.sizeOf320
 v228:=Tryz.zeroValue320
 t229:=Tryz.underlying321
 a229:=Tryz.isAgg321
 z229:=Tryz.sizeOf321
 v229:=Tryz.zeroValue321}
open Go.Sort Go.RowKit in
theorem Tryz.slices_Sort_string (blk a d:Nat)(b:List (List UInt8))(w:World)(i:Holds encStr w blk a b.toArray)(c:blk<w.heap.size)(f:b.length<4611686018427387904):
  Calls Tryz.prog 219 #[.slice (some ⟨blk,a,none⟩) b.length d] w fun e g=>
   e=.returned (.tuple #[])/\∃n h,g=grow (putRow encStr (Sort.ahead w n) blk a (b.mergeSort fun x y=>decide (x<=y)).toArray) h:=Any.slices_Sort_string Tryz.Js blk a d b w i c f
def Tryz.yX :Go.Shelf.Ren:=⟨fun|105=>166|212=>211|99=>225|165=>226|166=>89|170=>227|169=>92|263=>244|264=>245|206=>256|240=>165|241=>257|276=>224|277=>285|n=>n,fun|9=>9|3=>3|4=>4|20=>20|0=>0|46=>216|109=>245|5=>5|72=>137|76=>141|51=>275|146=>276|53=>278|148=>279|70=>134|37=>135|75=>140|127=>210|164=>257|80=>145|n=>n,fun|n=>n⟩
theorem Tryz.Og :Go.Proofs.Lays.n105 Tryz.prog Tryz.yX:={
 mixed:=by kernel_rfl
 f99:=Tryz.func225.trans (congrArg some (by kernel_rfl))
 f105:=Tryz.func166.trans (congrArg some (by kernel_rfl))
 f165:=Tryz.func226.trans (congrArg some (by kernel_rfl))
 f166:=Tryz.func89.trans (congrArg some (by kernel_rfl))
 f169:=Tryz.func92.trans (congrArg some (by kernel_rfl))
 f170:=Tryz.func227.trans (congrArg some (by kernel_rfl))
 f206:=Tryz.func256.trans (congrArg some (by kernel_rfl))
 f212:=Tryz.func211.trans (congrArg some (by kernel_rfl))
 f240:=Tryz.func165.trans (congrArg some (by kernel_rfl))
 f241:=Tryz.func257.trans (congrArg some (by kernel_rfl))
 f263:=Tryz.func244.trans (congrArg some (by kernel_rfl))
 f264:=Tryz.func245.trans (congrArg some (by kernel_rfl))
 f276:=Tryz.func224.trans (congrArg some (by kernel_rfl))
 f277:=Tryz.func285.trans (congrArg some (by kernel_rfl))
 t0:=Tryz.underlying0
 a0:=Tryz.isAgg0
 z0:=Tryz.sizeOf0
 v0:=Tryz.zeroValue0
 t3:=Tryz.underlying3
 a3:=Tryz.isAgg3
 z3:=Tryz.sizeOf3
 v3:=Tryz.zeroValue3
 t4:=Tryz.underlying4
 a4:=Tryz.isAgg4
 z4:=Tryz.sizeOf4
 v4:=Tryz.zeroValue4
 t5:=Tryz.underlying5
 a5:=Tryz.isAgg5
 z5:=Tryz.sizeOf5
 v5:=Tryz.zeroValue5
 t9:=Tryz.underlying9
 a9:=Tryz.isAgg9
 z9:=Tryz.sizeOf9
 v9:=Tryz.zeroValue9
 t20:=Tryz.underlying20
 a20:=Tryz.isAgg20
 z20:=Tryz.sizeOf20
 v20:=Tryz.zeroValue20
 t37:=Tryz.underlying135
 a37:=Tryz.isAgg135
 z37:=Tryz.sizeOf135
 v37:=Tryz.zeroValue135
 t46:=Tryz.underlying216
 a46:=Tryz.isAgg216
 z46:=Tryz.sizeOf216
 v46:=Tryz.zeroValue216
 t51:=Tryz.underlying275
 a51:=Tryz.isAgg275
 z51:=Tryz.sizeOf275
 v51:=Tryz.zeroValue275
 t53:=Tryz.underlying278
 a53:=Tryz.isAgg278
 z53:=Tryz.sizeOf278
 v53:=Tryz.zeroValue278
 t70:=Tryz.underlying134
 a70:=Tryz.isAgg134
 z70:=Tryz.sizeOf134
 v70:=Tryz.zeroValue134
 t72:=Tryz.underlying137
 a72:=Tryz.isAgg137
 z72:=Tryz.sizeOf137
 v72:=Tryz.zeroValue137
 t75:=Tryz.underlying140
 a75:=Tryz.isAgg140
 z75:=Tryz.sizeOf140
 v75:=Tryz.zeroValue140
 t76:=Tryz.underlying141
 a76:=Tryz.isAgg141
 z76:=Tryz.sizeOf141
 v76:=Tryz.zeroValue141
 t109:=Tryz.underlying245
 a109:=Tryz.isAgg245
 z109:=Tryz.sizeOf245
 v109:=Tryz.zeroValue245
 t127:=Tryz.underlying210
 a127:=Tryz.isAgg210
 z127:=Tryz.sizeOf210
 v127:=Tryz.zeroValue210
 t146:=Tryz.underlying276
 a146:=Tryz.isAgg276
 z146:=Tryz.sizeOf276
 v146:=Tryz.zeroValue276
 t148:=Tryz.underlying279
 a148:=Tryz.isAgg279
 z148:=Tryz.sizeOf279
 v148:=Tryz.zeroValue279
 t164:=Tryz.underlying257
 a164:=Tryz.isAgg257
 z164:=Tryz.sizeOf257
 v164:=Tryz.zeroValue257}
theorem Tryz.wO :Builder.Extra Tryz.prog Tryz.yX:={
 sizeBuilder:=by kernel_rfl
 liesBuilder:=by kernel_rfl
 t5:=Tryz.underlying5
 a5:=Tryz.isAgg5
 z5:=Tryz.sizeOf5
 v5:=Tryz.zeroValue5
 infoByte:=by kernel_rfl
 cellsByte:=by kernel_rfl
 sizeByte:=by kernel_rfl
 neB5:=by decide}
open Go.RowKit Go.Lib in
theorem Tryz.strings_Repeat (s:ByteArray)(c:Nat)(w:World)(d:c<=9223372036854775807)(a:s.size*c<=140737488355328):
  Calls Tryz.prog 166 #[.string s,.int .i64 c] w fun e b=>e=.returned (.string ⟨(Lib.repeatL s.data.toList c).toArray⟩)/\Below w.heap.size w b:=Any.strings_Repeat Tryz.Og Tryz.wO s c w d a
def Tryz.FW :Go.Shelf.Ren:=⟨fun|194=>218|n=>n,fun|31=>27|9=>9|3=>3|4=>4|0=>0|n=>n,fun|n=>n⟩
theorem Tryz.K8 :Go.Proofs.Lays.n194 Tryz.prog Tryz.FW:={
 mixed:=by kernel_rfl
 f194:=Tryz.func218.trans (congrArg some (by kernel_rfl))
 t0:=Tryz.underlying0
 a0:=Tryz.isAgg0
 z0:=Tryz.sizeOf0
 v0:=Tryz.zeroValue0
 t3:=Tryz.underlying3
 a3:=Tryz.isAgg3
 z3:=Tryz.sizeOf3
 v3:=Tryz.zeroValue3
 t4:=Tryz.underlying4
 a4:=Tryz.isAgg4
 z4:=Tryz.sizeOf4
 v4:=Tryz.zeroValue4
 t9:=Tryz.underlying9
 a9:=Tryz.isAgg9
 z9:=Tryz.sizeOf9
 v9:=Tryz.zeroValue9
 t31:=Tryz.underlying27
 a31:=Tryz.isAgg27
 z31:=Tryz.sizeOf27
 v31:=Tryz.zeroValue27}
open Go.RowKit Go.Lib Go.Sort in
theorem Tryz.slices_Compact_string (blk a c:Nat)(b:List (List UInt8))(w:World)(h:Holds encStr w blk a b.toArray)(f:b.length<=9223372036854775807)(d:b.length<=c):
  Calls Tryz.prog 218 #[.slice (some ⟨blk,a,none⟩) b.length c] w fun e g=>e=.returned (.slice (some ⟨blk,a,none⟩) (Lib.compact b).length c)/\∃q,g=putRow encStr (Sort.ahead w q) blk a (Lib.compact b++List.replicate (b.length -(Lib.compact b).length) []).toArray:=Any.slices_Compact_string Tryz.K8 blk a c b w h f d
open Go.RowKit Go.Lib Go.Sort in
theorem Tryz.slices_Compact_string_empty (a:Option Addr)(b:Nat)(w:World):
  Calls Tryz.prog 218 #[.slice a 0 b] w fun e c=>e=.returned (.slice a 0 b)/\c=w:=Any.slices_Compact_string_empty Tryz.K8 a b w
def Tryz.CR :Go.Shelf.Ren:=⟨fun|24=>162|n=>n,fun|24=>27|9=>9|3=>3|4=>4|0=>0|n=>n,fun|n=>n⟩
theorem Tryz.ME :Go.Proofs.Lays2.n24 Tryz.prog Tryz.CR:={
 mixed:=by kernel_rfl
 f24:=Tryz.func162.trans (congrArg some (by kernel_rfl))
 t0:=Tryz.underlying0
 a0:=Tryz.isAgg0
 z0:=Tryz.sizeOf0
 v0:=Tryz.zeroValue0
 t3:=Tryz.underlying3
 a3:=Tryz.isAgg3
 z3:=Tryz.sizeOf3
 v3:=Tryz.zeroValue3
 t4:=Tryz.underlying4
 a4:=Tryz.isAgg4
 z4:=Tryz.sizeOf4
 v4:=Tryz.zeroValue4
 t9:=Tryz.underlying9
 a9:=Tryz.isAgg9
 z9:=Tryz.sizeOf9
 v9:=Tryz.zeroValue9
 t24:=Tryz.underlying27
 a24:=Tryz.isAgg27
 z24:=Tryz.sizeOf27
 v24:=Tryz.zeroValue27
 i9:=by kernel_rfl}
open Go.RowKit Go.Lib Go.Sort in
theorem Tryz.slices_Delete_string (blk a b i j:Nat)(c:List (List UInt8))(w:World)(l:Holds encStr w blk a c.toArray)(d:c.length<=b)(h:b<=9223372036854775807)(f:i<=j)(k:j<=c.length):
  Calls Tryz.prog 162 #[.slice (some ⟨blk,a,none⟩) c.length b,.int .i64 i,.int .i64 j] w fun e g=>e=.returned (.slice (some ⟨blk,a,none⟩) (c.length -(j -i)) b)/\∃q,g=putRow encStr (Sort.ahead w q) blk a (c.take i++c.drop j++List.replicate (j -i) []).toArray:=Any.slices_Delete_string Tryz.ME blk a b i j c w l d h f k
open Go.RowKit Go.Sort in
theorem Tryz.slices_Sort_string_none (p:Option Addr)(a:Nat)(w:World):
  Calls Tryz.prog 219 #[.slice p 0 a] w fun e b=>e=.returned (.tuple #[])/\b=w:=Any.slices_Sort_string_none Tryz.Js p a w
end Go.Proofs
end
section
open Go
namespace Go.Proofs.YtjiedaialianmaaGreat
namespace Gr
inductive Way (d:Nat->Nat->Bool)(m:Nat):Nat->Nat->Prop
 |base {i k}:d i k=true->Way d m i k
 |thru {i j k}:j<m->Way d m i j->Way d m j k->Way d m i k
theorem Way.up {d:Nat->Nat->Bool}{m n i k:Nat}(h:m<=n)(w:Way d m i k):Way d n i k:=by
 induction w with
 |base e=>exact .base e
 |thru hj _ _ a b=>exact .thru (by omega) a b
theorem Way.zero {d:Nat->Nat->Bool}{i k:Nat}(w:Way d 0 i k):d i k=true:=by
 cases w with
 |base e=>exact e
 |thru hj _ _=>omega
theorem Way.succ {d:Nat->Nat->Bool}{m i k:Nat}(w:Way d (m+1) i k):Way d m i k\/(Way d m i m/\Way d m m k):=by
 induction w with
 |base e=>exact Or.inl (.base e)
 | @thru i j k hj _ _ a b=>
  by_cases e:j=m
  ·subst e
   refine Or.inr ⟨?_,?_⟩
   ·rcases a with a|a
    ·exact a
    ·exact a.1
   ·rcases b with b|b
    ·exact b
    ·exact b.2
  ·have c:j<m:=by omega
   rcases a with a|⟨a,g⟩<;>rcases b with b|⟨b,f⟩
   ·exact Or.inl (.thru c a b)
   ·exact Or.inr ⟨.thru c a b,f⟩
   ·exact Or.inr ⟨a,.thru c g b⟩
   ·exact Or.inr ⟨a,f⟩
abbrev Tab :=List (List Bool)
def Tab.at (t:Tab)(i k:Nat):Bool:=(t.getD i []).getD k false
def Tab.fill (m i k:Nat)(t:Tab):Tab:=t.set i ((t.getD i []).set k (t.at i k || t.at i m&&t.at m k))
def Tab.row (n m i:Nat)(t:Tab):Tab:=(List.range n).foldl (fun t k=>Tab.fill m i k t) t
def Tab.phase (n m:Nat)(t:Tab):Tab:=(List.range n).foldl (fun t i=>Tab.row n m i t) t
def Tab.all (n:Nat)(t:Tab):Tab:=(List.range n).foldl (fun t m=>Tab.phase n m t) t
def Tab.sq (n:Nat)(t:Tab):Prop:=t.length=n/\∀l,l∈t->l.length=n
theorem Tab.Ns {n:Nat}{t:Tab}(h:t.sq n){i:Nat}(b:i<n):(t.getD i []).length=n:=by
 have a:i<t.length:=by rw[h.1];exact b
 rw[List.getD_eq_getElem?_getD,GY5 a,Option.getD_some]
 exact h.2 _ (GZ9 a)
theorem Tab.Jt {n:Nat}{t:Tab}(h:t.sq n){m i k:Nat}(b:i<n):(Tab.fill m i k t).sq n:=by
 refine⟨by simp[Tab.fill,h.1],fun l a=>?_⟩
 rcases List.mem_or_eq_of_mem_set a with q|q
 ·exact h.2 l q
 ·rw[q,List.length_set];exact Tab.Ns h b
theorem Tab.zJ {n:Nat}{t:Tab}(h:t.sq n){m i k:Nat}(j:i<n)(o:k<n)(a b:Nat):
  (Tab.fill m i k t).at a b=if a=i/\b=k then(t.at i k || t.at i m&&t.at m k)else t.at a b:=by
 have e:i<t.length:=by rw[h.1];exact j
 have l:=Tab.Ns h j
 by_cases g:a=i
 ·subst g
  have c:(Tab.fill m a k t).getD a []=(t.getD a []).set k (t.at a k || t.at a m&&t.at m k):=by
   unfold Tab.fill
   simp[List.getD_eq_getElem?_getD,e]
  by_cases f:b=k
  ·subst f
   rw[if_pos ⟨rfl,rfl⟩]
   rw[Tab.at,c]
   have d:b<(t.getD a []).length:=by omega
   rw[List.getD_eq_getElem?_getD,List.getElem?_set_self d,Option.getD_some]
  ·rw[if_neg (fun h=>f h.2)]
   rw[Tab.at,c,List.getD_eq_getElem?_getD,List.getElem?_set_ne (Ne.symm f),<-List.getD_eq_getElem?_getD];rfl
 ·rw[if_neg (fun h=>g h.1)]
  have c:(Tab.fill m i k t).getD a []=t.getD a []:=by
   unfold Tab.fill
   rw[List.getD_eq_getElem?_getD,List.getElem?_set_ne (Ne.symm g),<-List.getD_eq_getElem?_getD]
  rw[Tab.at,c];rfl
structure Phase (d:Nat->Nat->Bool)(n m:Nat)(t t':Tab)(p:Nat->Nat->Prop):Prop where
 sq:t'.sq n
 up:∀i k,i<n->k<n->t.at i k=true->t'.at i k=true
 sound:∀i k,i<n->k<n->t'.at i k=true->Way d n i k
 new:∀i k,i<n->k<n->p i k->t.at i m=true->t.at m k=true->t'.at i k=true
theorem Phase.fill {d:Nat->Nat->Bool}{n m i k:Nat}{t v:Tab}{p:Nat->Nat->Prop}(h:Phase d n m t v p)
  (l:m<n) (c:i<n) (f:k<n):Phase d n m t (Tab.fill m i k v) (fun a b=>p a b\/(a=i/\b=k)):=by
 refine⟨Tab.Jt h.sq c,fun a b r o g=>?_,fun a b r o=>?_,fun a b r o j u s=>?_⟩
 ·rw[Tab.zJ h.sq c f]
  split
  ·rename_i e;rw[e.1,e.2]at g
   rw[h.up i k c f g];rfl
  ·exact h.up a b r o g
 ·rw[Tab.zJ h.sq c f]
  split
  ·rename_i e
   intro q
   simp only[Bool.or_eq_true,Bool.and_eq_true]at q
   rw[e.1,e.2]
   rcases q with q|q
   ·exact h.sound i k c f q
   ·exact .thru l (h.sound i m c l q.1) (h.sound m k l f q.2)
  ·exact h.sound a b r o
 ·rw[Tab.zJ h.sq c f]
  split
  ·rename_i e
   rw[e.1]at u;rw[e.2]at s
   rw[h.up i m c l u,h.up m k l f s];simp
  ·rename_i e
   rcases j with j|j
   ·exact h.new a b r o j u s
   ·exact absurd j e
theorem Phase.mono {d:Nat->Nat->Bool}{n m:Nat}{t c:Tab}{p q:Nat->Nat->Prop}(h:Phase d n m t c p)(g:∀a b,a<n->b<n->q a b->p a b):Phase d n m t c q:=
 ⟨h.sq,h.up,h.sound,fun i k f e j=>h.new i k f e (g i k f e j)⟩
theorem Phase.row {d:Nat->Nat->Bool}{n m i:Nat}{t:Tab}(j:m<n)(l:i<n):
  ∀(c:Nat){f:Tab}{p:Nat->Nat->Prop},c<=n->Phase d n m t f p->
   Phase d n m t ((List.range c).foldl (fun t k=>Tab.fill m i k t) f) (fun a b=>p a b\/(a=i/\b<c))
 |0,_,_,_,h=>by
  simp only[List.range_zero,List.foldl_nil]
  exact h.mono (fun a b _ _ q=>q.elim id (fun q=>absurd q.2 (Nat.not_lt_zero _)))
 |c+1,f,p,hc,h=>by
  rw[List.range_succ,List.foldl_append,List.foldl_cons,List.foldl_nil]
  exact((Phase.row j l c (by omega) h).fill j l (by omega)).mono (fun a b _ _ q=>by
   rcases q with q|⟨g,o⟩
   ·exact Or.inl (Or.inl q)
   ·by_cases e:b=c
    ·exact Or.inr ⟨g,e⟩
    ·exact Or.inl (Or.inr ⟨g,by omega⟩))
theorem Phase.rows {d:Nat->Nat->Bool}{n m:Nat}{t:Tab}(g:m<n):
  ∀(c:Nat){f:Tab}{p:Nat->Nat->Prop},c<=n->Phase d n m t f p->
   Phase d n m t ((List.range c).foldl (fun t i=>Tab.row n m i t) f) (fun a b=>p a b\/a<c)
 |0,_,_,_,h=>by
  simp only[List.range_zero,List.foldl_nil]
  exact h.mono (fun a b _ _ q=>q.elim id (fun q=>absurd q (Nat.not_lt_zero _)))
 |c+1,f,p,hc,h=>by
  rw[List.range_succ,List.foldl_append,List.foldl_cons,List.foldl_nil]
  exact(Phase.row g (show c<n by omega) n (GZ3 _) (Phase.rows g c (by omega) h)).mono (fun a b _ j q=>by
   rcases q with q|q
   ·exact Or.inl (Or.inl q)
   ·by_cases e:a=c
    ·exact Or.inr ⟨e,j⟩
    ·exact Or.inl (Or.inr (by omega)))
structure Bi (d:Nat->Nat->Bool)(n m:Nat)(t:Tab):Prop where
 sq:t.sq n
 sound:∀i k,i<n->k<n->t.at i k=true->Way d n i k
 full:∀i k,i<n->k<n->Way d m i k->t.at i k=true
theorem Bi.phase {d:Nat->Nat->Bool}{n m:Nat}{t:Tab}(f:m<n)(h:Bi d n m t):Bi d n (m+1) (Tab.phase n m t):=by
 have k:Phase d n m t (Tab.phase n m t) (fun a b=>False\/a<n):=
  Phase.rows f n (GZ3 _) ⟨h.sq,fun _ _ _ _ q=>q,h.sound,fun _ _ _ _ q=>q.elim⟩
 refine⟨k.sq,k.sound,fun a b c e w=>?_⟩
 rcases w.succ with w|⟨w,g⟩
 ·exact k.up a b c e (h.full a b c e w)
 ·exact k.new a b c e (Or.inr c) (h.full a m c f w) (h.full m b f e g)
theorem Bi.phases {d:Nat->Nat->Bool}{n:Nat}{t:Tab}(h:Bi d n 0 t):
  ∀(c:Nat),c<=n->Bi d n c ((List.range c).foldl (fun t m=>Tab.phase n m t) t)
 |0,_=>h
 |c+1,hc=>by
  rw[List.range_succ,List.foldl_append,List.foldl_cons,List.foldl_nil]
  exact(h.phases c (by omega)).phase (by omega)
def Tab.mk (d:Nat->Nat->Bool)(n:Nat):Tab:=(List.range n).map (fun i=>(List.range n).map (fun k=>d i k))
theorem Tab.QD (d:Nat->Nat->Bool)(n:Nat):(Tab.mk d n).sq n:=by
 refine⟨by simp[Tab.mk],fun l a=>?_⟩
 obtain⟨i,_,e⟩:=List.mem_map.1 a
 rw[<-e];simp
theorem Tab.O8 (d:Nat->Nat->Bool){n i k:Nat}(b:i<n)(a:k<n):(Tab.mk d n).at i k=d i k:=by
 simp[Tab.mk,Tab.at,List.getD_eq_getElem?_getD,b,a]
theorem Tab.begun (d:Nat->Nat->Bool)(n:Nat):Bi d n 0 (Tab.mk d n):=
 ⟨Tab.QD d n,fun i k b a h=>.base (by rwa [Tab.O8 d b a]at h),fun i k b a w=>by rw[Tab.O8 d b a];exact w.zero⟩
theorem Tab.Qh (d:Nat->Nat->Bool){n i k:Nat}(b:i<n)(a:k<n):(Tab.all n (Tab.mk d n)).at i k=true↔Way d n i k:=by
 have h:=(Tab.begun d n).phases n (GZ3 _)
 exact⟨h.sound i k b a,h.full i k b a⟩
end Gr
end Go.Proofs.YtjiedaialianmaaGreat
end
section
open Go
namespace Go.Proofs.YtjiedaialianmaaGreat
namespace Gs
abbrev Tx :=List UInt8
theorem le_trans' {a b c:Tx}(h:a<=b)(k:b<=c):a<=c:=List.le_trans h k
theorem Lv (a b:Tx):a<=b\/b<=a:=List.le_total a b
theorem KY {a b:Tx}(h:a<=b)(k:b<=a):a=b:=List.le_antisymm h k
theorem MO {a b:Tx}(h:¬a<b):b<=a:=List.not_lt.1 h
theorem Lx {a b:Tx}(h:a<b):a<=b:=List.le_of_lt h
def sorted (l:List Tx):Prop:=l.Pairwise (fun a b=>a<=b)
def Sd (l:List Tx):List Tx:=l.mergeSort (fun x y=>decide (x<=y))
theorem SN (l:List Tx):(Sd l).Perm l:=List.mergeSort_perm _ _
theorem wT (l:List Tx):sorted (Sd l):=by
 have h:=List.pairwise_mergeSort (le:=fun x y:Tx=>decide (x<=y)) (fun a b c h k=>by simp only[decide_eq_true_eq]at*;exact le_trans' h k) (fun a b=>by simpa using Lv a b) l
 exact h.imp (fun h=>by simpa using h)
theorem Kj (l:List Tx)(x:Tx):x∈Sd l↔x∈l:=(SN l).mem_iff
end Gs
end Go.Proofs.YtjiedaialianmaaGreat
end
section
open Go
namespace Go.Proofs.YtjiedaialianmaaGreat
namespace Gs
def free (r:Tx->Tx->Bool)(left:List Tx)(a:Tx):Bool:=left.all (fun b=>!r a b)
def order (r:Tx->Tx->Bool):Nat->List Tx->List Tx->Option (List Tx)
 |0,_,out=>some out
 |f+1,left,out=>if left.findIdx (free r left)<left.length then order r f (left.eraseIdx (left.findIdx (free r left))) (out++[left.getD (left.findIdx (free r left)) []])else none
theorem AJ (p:Tx->Bool):∀{l:List Tx}{a:Tx},l.find? p=some a->l.findIdx p<l.length/\l.getD (l.findIdx p) []=a/\l.eraseIdx (l.findIdx p)=l.erase a
 |x::l,a,h=>by
  by_cases c:p x=true
  ·rw[List.find?_cons_of_pos c]at h
   have e:x=a:=GY3 h
   subst e
   rw[List.findIdx_cons,c];simp
  ·have f:p x=false:=by simpa using c
   rw[List.find?_cons_of_neg c]at h
   obtain⟨g,d,b⟩:=AJ p h
   have ne:x≠a:=fun e=>by subst e;exact c (List.find?_some h)
   rw[List.findIdx_cons,f]
   simp only[cond_false,GY8]
   refine⟨by omega,by simpa using d,?_⟩
   rw[List.eraseIdx_cons_succ,b,List.erase_cons_tail (by simpa using ne)]
theorem Jc (p:Tx->Bool){l:List Tx}(h:l.find? p=none):¬l.findIdx p<l.length:=by
 intro k
 have:=List.findIdx_lt_length.1 k
 obtain⟨x,b,a⟩:=this
 exact absurd a (List.find?_eq_none.1 h x b)
theorem zU {r:Tx->Tx->Bool}{f:Nat}{left b:List Tx}{a:Tx}(h:left.find? (free r left)=some a):order r (f+1) left b=order r f (left.erase a) (b++[a]):=by
 obtain⟨e,d,c⟩:=AJ _ h
 rw[order,if_pos e,d,c]
theorem JB {r:Tx->Tx->Bool}{f:Nat}{left a:List Tx}(h:left.find? (free r left)=none):order r (f+1) left a=none:=by
 rw[order,if_neg (Jc _ h)]
section Doc
variable (nm:Nat->Tx) (t:Nat->Nat->Bool) (n:Nat)
instance (b :Option Nat)(i:Nat):Decidable (∀j,b=some j->nm i<nm j):=by
 cases b with
 |none=>exact isTrue (fun j h=>by cases h)
 |some k=>exact decidable_of_iff (nm i<nm k) ⟨fun h j e=>by cases e;exact h,fun h=>h k rfl⟩
def ready (a:List Bool)(i:Nat):Bool:=!a.getD i false&&(List.range n).all (fun k=>!t i k || a.getD k false)
def Sk (a:List Bool)(c:Nat):Option Nat:=(List.range c).foldl (fun b i=>if ready t n a i=true/\(∀j,b=some j->nm i<nm j)then some i else b) none
def vO :Nat->List Bool->List Tx->List Tx
 |0,_,out=>out
 |f+1,done,out=>match Sk nm t n done n with
  |some b=>vO f (done.set b true) (out++[nm b])
  |none=>out
end Doc
theorem Dl {p q:Nat->Bool}{j:Nat}(k:p j=true)(g:q j=false)(b:∀i,i≠j->q i=p i):∀{l:List Nat},l.Nodup->j∈l->(l.filter p).Perm (j::l.filter q)
 |x::l,hn,hj=>by
  have a:=List.nodup_cons.1 hn
  by_cases e:x=j
  ·subst e
   have same:l.filter q=l.filter p:=List.filter_congr (fun i m=>b i (fun e=>a.1 (e▸m)))
   rw[List.filter_cons_of_pos k,List.filter_cons_of_neg (by simp[g]),same]
  ·have d:j∈l:=by
    rcases List.mem_cons.1 hj with h|h
    ·exact absurd h.symm e
    ·exact h
   have f:=Dl k g b a.2 d
   by_cases c:p x=true
   ·rw[List.filter_cons_of_pos c,List.filter_cons_of_pos (by rw[b x e];exact c)]
    exact(f.cons x).trans (List.Perm.swap j x _)
   ·rw[List.filter_cons_of_neg c,List.filter_cons_of_neg (by rw[b x e];exact c)]
    exact f
structure Net (nm:Nat->Tx)(r:Tx->Tx->Bool)(d t:Nat->Nat->Bool)(W:Nat->Nat->Prop)(n:Nat):Prop where
 dir:∀i k,i<n->k<n->r (nm i) (nm k)=d i k
 one:∀i k,i<n->k<n->nm i=nm k->i=k
 tab:∀i k,i<n->k<n->(t i k=true↔W i k)
 base:∀i k,i<n->k<n->d i k=true->W i k
 trans:∀i j k,j<n->W i j->W j k->W i k
 first:∀i k,i<n->k<n->W i k->d i k=true\/∃j,j<n/\d i j=true/\W j k
structure Inv (nm:Nat->Tx)(W:Nat->Nat->Prop)(n:Nat)(done:List Bool)(left:List Tx):Prop where
 dl:done.length=n
 perm:left.Perm (((List.range n).filter (fun i=>!done.getD i false)).map nm)
 sort:sorted left
 closed:∀i k,i<n->k<n->done.getD i false=true->W i k->done.getD k false=true
section
variable {nm:Nat->Tx} {r:Tx->Tx->Bool} {d t:Nat->Nat->Bool} {W:Nat->Nat->Prop} {n:Nat}
theorem Inv.mem {a:List Bool}{left:List Tx}(h:Inv nm W n a left)(x:Tx):x∈left↔∃i,i<n/\a.getD i false=false/\nm i=x:=by
 rw[h.perm.mem_iff,List.mem_map]
 constructor
 ·rintro⟨i,c,e⟩
  have b:=List.mem_filter.1 c
  exact⟨i,List.mem_range.1 b.1,by simpa using b.2,e⟩
 ·rintro⟨i,c,d,e⟩
  exact⟨i,List.mem_filter.2 ⟨List.mem_range.2 c,by simp only[d,Bool.not_false]⟩,e⟩
theorem TN {c:List Bool}{i:Nat}:ready t n c i=true↔c.getD i false=false/\∀k,k<n->t i k=true->c.getD k false=true:=by
 unfold ready
 simp only[Bool.and_eq_true,Bool.not_eq_true',List.all_eq_true,List.mem_range,Bool.or_eq_true]
 constructor
 ·rintro⟨a,b⟩
  exact⟨a,fun k d e=>by
   rcases b k d with q|q
   ·rw[e]at q;exact absurd q (by simp)
   ·exact q⟩
 ·rintro⟨a,b⟩
  refine⟨a,fun k d=>?_⟩
  cases q:t i k
  ·exact Or.inl rfl
  ·exact Or.inr (b k d q)
theorem uR (N:Net nm r d t W n){a:List Bool}{left:List Tx}(h:Inv nm W n a left){i:Nat}(f:i<n)(s:a.getD i false=false):
  free r left (nm i)=true↔ready t n a i=true:=by
 rw[TN]
 unfold free
 simp only[List.all_eq_true,Bool.not_eq_true']
 constructor
 ·intro q
  refine⟨s,fun k b o=>?_⟩
  have m:∀j,j<n->d i j=true->a.getD j false=true:=fun j g l=>by
   cases c:a.getD j false
   ·have:=q (nm j) ((h.mem _).2 ⟨j,g,c,rfl⟩)
    rw[N.dir i j f g,l]at this;exact absurd this (by simp)
   ·rfl
  rcases N.first i k f b ((N.tab i k f b).1 o)with w|⟨j,g,l,w⟩
  ·exact m k b w
  ·exact h.closed j k g b (m j g l) w
 ·rintro⟨_,q⟩ x p
  obtain⟨k,b,u,e⟩:=(h.mem x).1 p
  rw[<-e,N.dir i k f b]
  cases c:d i k
  ·rfl
  ·have:=q k b ((N.tab i k f b).2 (N.base i k f b c))
   rw[u]at this;exact absurd this (by simp)
theorem pM (a:List Bool):∀(c:Nat),(Sk nm t n a c=none->∀i,i<c->ready t n a i=false)/\
  (∀j,Sk nm t n a c=some j->j<c/\ready t n a j=true/\∀i,i<c->ready t n a i=true->nm j<=nm i)
 |0=>⟨fun _ _ h=>absurd h (Nat.not_lt_zero _),fun _ h=>by simp[Sk]at h⟩
 |c+1=>by
  have m:=pM a c
  have e:Sk nm t n a (c+1)=if ready t n a c=true/\(∀j,Sk nm t n a c=some j->nm c<nm j)then some c else Sk nm t n a c:=by
   unfold Sk;rw[List.range_succ,List.foldl_append,List.foldl_cons,List.foldl_nil]
  rw[e]
  split
  ·rename_i q
   refine⟨(fun h=>absurd h (by simp)),fun j d=>?_⟩
   cases d
   refine⟨by omega,q.1,fun i o f=>?_⟩
   by_cases l:i=c
   ·rw[l];exact List.le_refl _
   ·have k:i<c:=by omega
    cases b:Sk nm t n a c with
    |none=>exact absurd (m.1 b i k) (by simp[f])
    |some j=>exact le_trans' (Lx (q.2 j b)) ((m.2 j b).2.2 i k f)
  ·rename_i q
   refine⟨fun h i o=>?_,fun j d=>?_⟩
   ·by_cases l:i=c
    ·subst l
     cases p:ready t n a i
     ·rfl
     ·exact absurd ⟨p,fun j d=>by rw[h]at d;cases d⟩ q
    ·exact m.1 h i (by omega)
   ·obtain⟨v,s,r⟩:=m.2 j d
    refine⟨by omega,s,fun i o f=>?_⟩
    by_cases l:i=c
    ·subst l
     by_cases lt:nm i<nm j
     ·exact absurd ⟨f,fun u g=>by rw[d]at g;cases g;exact lt⟩ q
     ·exact MO lt
    ·exact r i (by omega) f
theorem Dj (N:Net nm r d t W n){c:List Bool}{left:List Tx}(h:Inv nm W n c left):
  left.find? (free r left)=(Sk nm t n c n).map nm:=by
 have b:=pM (nm:=nm) (t:=t) (n:=n) c n
 cases e:Sk nm t n c n with
 |none=>
  rw[Option.map_none,List.find?_eq_none]
  intro x E v
  obtain⟨i,f,F,g⟩:=(h.mem x).1 E
  rw[<-g]at v
  have:=(uR N h f F).1 v
  rw[b.1 e i f]at this;exact absurd this (by simp)
 |some j=>
  obtain⟨u,s,D⟩:=b.2 j e
  have z:=(TN.1 s).1
  have l:nm j∈left:=(h.mem _).2 ⟨j,u,z,rfl⟩
  have w:=(uR N h u z).2 s
  rw[Option.map_some]
  cases y:left.find? (free r left)with
  |none=>exact absurd w (List.find?_eq_none.1 y _ l)
  |some a=>
   obtain⟨G,I,bs,o,B⟩:=List.find?_eq_some_iff_append.1 y
   have C:a∈left:=by rw[o];simp
   obtain⟨i,f,H,g⟩:=(h.mem a).1 C
   have A:ready t n c i=true:=(uR N h f H).1 (by rw[g];exact G)
   have m:nm j<=a:=by rw[<-g];exact D i f A
   have p:=h.sort
   rw[sorted,o]at p
   have k:=List.pairwise_cons.1 (List.pairwise_append.1 p).2.1
   rw[o]at l
   rcases List.mem_append.1 l with q|q
   ·exact absurd w (by simpa using B _ q)
   ·rcases List.mem_cons.1 q with q|q
    ·rw[q]
    ·rw[KY m (k.1 _ q)]
theorem Ev {a:List Bool}{j i:Nat}(b:j<a.length):(a.set j true).getD i false=if i=j then true else a.getD i false:=by
 by_cases e:i=j
 ·subst e;rw[if_pos rfl,List.getD_eq_getElem?_getD,List.getElem?_set_self b,Option.getD_some]
 ·rw[if_neg e,List.getD_eq_getElem?_getD,List.getElem?_set_ne (Ne.symm e),<-List.getD_eq_getElem?_getD]
theorem Inv.step (N:Net nm r d t W n){a:List Bool}{left:List Tx}(h:Inv nm W n a left){j:Nat}(s:j<n)(v:ready t n a j=true):
  Inv nm W n (a.set j true) (left.erase (nm j))/\(left.erase (nm j)).length+1=left.length:=by
 obtain⟨x,u⟩:=TN.1 v
 have f:j<a.length:=by rw[h.dl];exact s
 have p:=Dl (p:=fun i=>!a.getD i false) (q:=fun i=>!(a.set j true).getD i false) (j:=j) (by simp only[x,Bool.not_false])
  (by simp only[Ev f,if_true,Bool.not_true]) (fun i b=>by simp only[Ev f,if_neg b]) (l:=List.range n) List.nodup_range (List.mem_range.2 s)
 have o:left.Perm (nm j::((List.range n).filter (fun i=>!(a.set j true).getD i false)).map nm):=by
  have:=h.perm.trans (p.map nm);rwa [List.map_cons]at this
 have c:=o.erase (nm j)
 rw[List.erase_cons_head]at c
 refine⟨⟨by simp[h.dl],c,h.sort.sublist List.erase_sublist,fun i k b g m w=>?_⟩,?_⟩
 ·rw[Ev f]at m ⊢
  split
  ·rfl
  ·split at m
   ·rename_i e;subst e
    exact u k g ((N.tab i k b g).2 w)
   ·exact h.closed i k b g m w
 ·have:=o.length_eq
  rw[c.length_eq,this,GY8]
theorem BJ (N:Net nm r d t W n)(A:∀i,i<n->¬W i i){f:List Bool}:
  ∀(c i:Nat),i<n->f.getD i false=false->((List.range n).filter (fun k=>t i k)).length<=c->∃j,j<n/\ready t n f j=true
 |c,i,hi,hd,hc=>by
  by_cases q:ready t n f i=true
  ·exact⟨i,hi,q⟩
  ·have:∃k,k<n/\t i k=true/\f.getD k false=false:=by
    apply Classical.byContradiction
    intro v
    apply q
    rw[TN]
    refine⟨hd,fun k m p=>?_⟩
    cases e:f.getD k false
    ·exact absurd ⟨k,m,p,e⟩ v
    ·rfl
   obtain⟨k,m,p,F⟩:=this
   have C:=(N.tab i k hi m).1 p
   have lt:((List.range n).filter (fun x=>t k x)).length<((List.range n).filter (fun x=>t i x)).length:=by
    have u:∀x,x∈List.range n->t k x=true->t i x=true:=fun x E tx=>
     have o:=List.mem_range.1 E
     (N.tab i x hi o).2 (N.trans i k x m C ((N.tab k x m o).1 tx))
    have s:t k k=false:=by
     cases e:t k k
     ·rfl
     ·exact absurd ((N.tab k k m m).1 e) (A k m)
    have z:∀(l:List Nat),(∀x,x∈l->t k x=true->t i x=true)->((l.filter (fun x=>t k x)).length<=(l.filter (fun x=>t i x)).length)/\(k∈l->(l.filter (fun x=>t k x)).length<(l.filter (fun x=>t i x)).length):=by
     intro l
     induction l with
     |nil=>intro _;exact⟨GZ3 _,fun h=>absurd h List.not_mem_nil⟩
     |cons x l ih=>
      intro B
      have g:=ih (fun y D=>B y (List.mem_cons_of_mem _ D))
      cases a:t k x<;>cases b:t i x<;>simp only[List.filter_cons,a,b,if_true,Bool.false_eq_true,if_false,GY8]
      ·refine⟨g.1,fun w=>?_⟩
       rcases List.mem_cons.1 w with q|q
       ·rw[<-q,p]at b;cases b
       ·exact g.2 q
      ·have G:=g.1
       exact⟨by omega,fun _=>by omega⟩
      ·have:=B x List.mem_cons_self a
       rw[b]at this;cases this
      ·refine⟨by have:=g.1;omega,fun w=>?_⟩
       rcases List.mem_cons.1 w with q|q
       ·rw[<-q,s]at a;cases a
       ·have:=g.2 q;omega
    exact(z _ u).2 (List.mem_range.2 m)
   cases c with
   |zero=>omega
   |succ c=>exact BJ N A c k m F (by omega)
theorem Dq (N:Net nm r d t W n)(m:∀i,i<n->¬W i i):∀(f:Nat)(a:List Bool)(left c:List Tx),Inv nm W n a left->left.length=f->
  order r f left c=some (vO nm t n f a c)
 |0,_,_,_,_,_=>rfl
 |f+1,a,left,c,h,hl=>by
  have b:=pM (nm:=nm) (t:=t) (n:=n) a n
  have o:=Dj N h
  cases e:Sk nm t n a n with
  |none=>
   obtain⟨x,p⟩:∃x,x∈left:=by
    cases left with
    |nil=>simp at hl
    |cons x l=>exact⟨x,List.mem_cons_self⟩
   obtain⟨i,q,s,_⟩:=(h.mem x).1 p
   obtain⟨j,k,g⟩:=BJ N m _ i q s (GZ3 _)
   rw[b.1 e j k]at g;cases g
  |some j=>
   obtain⟨k,g,_⟩:=b.2 j e
   rw[e,Option.map_some]at o
   obtain⟨u,v⟩:=h.step N k g
   rw[zU o,vO,e]
   exact Dq N m f _ _ _ u (by omega)
theorem yT (N:Net nm r d t W n){i:Nat}(g:i<n)(w:W i i):∀(f:Nat)(a:List Bool)(left c:List Tx),Inv nm W n a left->left.length=f->
  a.getD i false=false->order r f left c=none
 |0,a,left,_,h,hl,hd=>by
  have m:nm i∈left:=(h.mem _).2 ⟨i,g,hd,rfl⟩
  have:left=[]:=GY9 hl
  rw[this]at m;exact absurd m List.not_mem_nil
 |f+1,a,left,c,h,hl,hd=>by
  have b:=pM (nm:=nm) (t:=t) (n:=n) a n
  have k:=Dj N h
  cases e:Sk nm t n a n with
  |none=>rw[e]at k;exact JB k
  |some j=>
   obtain⟨o,l,_⟩:=b.2 j e
   rw[e,Option.map_some]at k
   obtain⟨p,s⟩:=h.step N o l
   rw[zU k]
   refine yT N g w f _ _ _ p (by omega) ?_
   rw[Ev (by rw[h.dl];exact o)]
   split
   ·rename_i q;subst q
    have:=(TN.1 l).2 i g ((N.tab i i g g).2 w)
    rw[hd]at this;cases this
   ·exact hd
theorem Inv.begun :Inv nm W n (List.replicate n false) (Sd ((List.range n).map nm)):=by
 have e:∀i,(List.replicate n false).getD i false=false:=fun i=>by
  rw[List.getD_eq_getElem?_getD,List.getElem?_replicate];split<;>rfl
 refine⟨by simp,?_,wT _,fun i k b a q _=>by rw[e i]at q;cases q⟩
 have:(List.range n).filter (fun i=>!(List.replicate n false).getD i false)=List.range n:=List.filter_eq_self.2 (fun i _=>by simp only[e i,Bool.not_false])
 rw[this];exact SN _
end
end Gs
end Go.Proofs.YtjiedaialianmaaGreat
end
section
open Go
namespace Go.Proofs.YtjiedaialianmaaGreat
namespace Gs
theorem Lj {d:Nat->Nat->Bool}{n i k:Nat}(w:Gr.Way d n i k):d i k=true\/∃j,j<n/\d i j=true/\Gr.Way d n j k:=by
 induction w with
 |base e=>exact Or.inl e
 | @thru i j k hj _ b ih _=>
  rcases ih with q|⟨c,a,q,w⟩
  ·exact Or.inr ⟨j,hj,q,b⟩
  ·exact Or.inr ⟨c,a,q,.thru hj w b⟩
theorem Qc {c:Nat->Tx}{r:Tx->Tx->Bool}{d:Nat->Nat->Bool}{n:Nat}(dir:∀i k,i<n->k<n->r (c i) (c k)=d i k)
  (one:∀i k,i<n->k<n->c i=c k->i=k):Net c r d (Gr.Tab.all n (Gr.Tab.mk d n)).at (Gr.Way d n) n where
 dir:=dir
 one:=one
 tab:=fun _ _ h f=>Gr.Tab.Qh d h f
 base:=fun _ _ _ _ e=>.base e
 trans:=fun _ _ _ g a b=>.thru g a b
 first:=fun _ _ _ _ w=>Lj w
def names (a:Nat->Tx)(n:Nat):List Tx:=(List.range n).map a
end Gs
end Go.Proofs.YtjiedaialianmaaGreat
end
section
open Go
namespace Go.Proofs.YtjiedaialianmaaGreat
namespace Gs
theorem Dr {l:List Tx}{j:Nat}(a:j+1<l.length):Lib.keeps l.toArray (j+1)=true↔l[j+1]≠l[j]:=by
 have b:l.toArray[j+1]! =l[j+1]:=by simp[a]
 have c:l.toArray[j+1 -1]! =l[j]:=by simp[show j<l.length by omega]
 unfold Lib.keeps
 rw[b,c,decide_eq_true_eq]
 exact⟨fun h=>h.resolve_left (by omega),Or.inr⟩
theorem Ih {l:List Tx}(h:sorted l):(Lib.compact l).length<l.length↔¬l.Nodup:=by
 constructor
 ·intro lt d
  have all:∀j,j<l.length->Lib.keeps l.toArray j=true:=by
   intro j a
   cases j with
   |zero=>simp[Lib.keeps]
   |succ j=>
    rw[Dr a]
    exact fun e=>List.pairwise_iff_getElem.1 d j (j+1) (by omega) a (by omega) e.symm
  rw[Lib.compact_all l all]at lt
  exact absurd lt (Nat.lt_irrefl _)
 ·intro d
  apply Classical.byContradiction
  intro lt
  apply d
  have all:∀j,j<l.length->Lib.keeps l.toArray j=true:=by
   intro j a
   apply Classical.byContradiction
   intro g
   apply lt
   unfold Lib.compact Lib.compactUpTo
   rw[List.length_map]
   have:=List.length_filter_lt_length_iff_exists.2 ⟨j,List.mem_range.2 a,g⟩
   rwa [List.length_range]at this
  refine List.pairwise_iff_getElem.2 (fun i j m a k e=>?_)
  cases j with
  |zero=>omega
  |succ j=>
   have f:=List.pairwise_iff_getElem.1 h
   have ne:=(Dr a).1 (all (j+1) a)
   have c:l[j]<=l[j+1]:=f j (j+1) (by omega) a (by omega)
   by_cases q:i=j
   ·subst q;exact ne e.symm
   ·have b:l[i]<=l[j]:=f i j m (by omega) (by omega)
    rw[e]at b
    exact ne (KY b c)
end Gs
end Go.Proofs.YtjiedaialianmaaGreat
end
section
set_option maxRecDepth 100000
set_option maxHeartbeats 2000000
namespace Go.Proofs.YtjiedaialianmaaGreat
open Go.RowKit
theorem Tryz.infoByte :(Tryz.prog.info? 5).map (fun i=>(i.zero,i.size,i.bytes))=some (some (.int .u8 0),1,1):=by kernel_rfl
theorem Tryz.sizeBuilder :(Tryz.prog.info? 137).map (·.size)=some 2:=by kernel_rfl
theorem Tryz.cellsByte :Tryz.prog.cellsOf 5=1:=by kernel_rfl
structure Holds (T:TypeId):Prop where
 lies:liesAt Tryz.prog Tryz.prog.depth T (2 / Tryz.prog.cellsOf T) 0 137 1=true
 ne:T≠5
abbrev Bld (T b:Nat)(l:List UInt8)(w:World):Prop:=Lib.IsBuilder T 5 b b (Lib.byteCells l) w
abbrev Kept (b:Nat)(w a:World):Prop:=Lib.OthersKept 5 (some b) w a
theorem Az (b:Nat)(w:World)(d:w.cell? ⟨b,0,none⟩=some (.pointer (some ⟨b,0,none⟩))):
  Calls Tryz.prog 165 #[.pointer (some ⟨b,0,none⟩)] w fun e a=>e=.returned (.tuple #[])/\a=w:=by
 obtain⟨j,c,_⟩:=Option.map_eq_some_iff.1 Tryz.sizeBuilder
 go_enter Tryz.func165,Tryz.ntmps165
 go_wp2
 rw[Lib.run_neq_ptr_same w _ Tryz.underlying134 c]
 go_wp2
 go_end0
 exact⟨rfl,rfl⟩
theorem zA (T b:Nat)(h:Holds T)(w:World)(i:w.cell? ⟨b,0,none⟩=some (.pointer none))(a:w.shape? b=some (T,2))(g:w.frozen? ⟨b,0,none⟩=false):
  Calls Tryz.prog 165 #[.pointer (some ⟨b,0,none⟩)] w fun e f=>e=.returned (.tuple #[])/\f=w.setCell ⟨b,0,none⟩ (.pointer (some ⟨b,0,none⟩)):=by
 obtain⟨j,d,c⟩:=Option.map_eq_some_iff.1 Tryz.sizeBuilder
 go_enter Tryz.func165,Tryz.ntmps165
 go_wp2
 rw[Lib.run_to_unsafe w ⟨b,0,none⟩ Tryz.underlying134 Tryz.underlying257 d (by rw[c];decide) a (Nat.zero_lt_succ 1)]
 simp only[Result.andThen]
 rw[Oper.upon_value]
 go_wp2
 rw[run_callFunc_extern Tryz.func224 (by kernel_rfl) (by kernel_rfl) (by kernel_rfl) (e:=Extern.AbiNoEscape.same) (by kernel_rfl)]
 rw[Lib.run_noEscape]
 simp only[Result.andThen]
 rw[Oper.upon_value]
 go_wp2
 rw[Lib.run_from_unsafe w ⟨b,0,none⟩ Tryz.underlying257 Tryz.underlying134 d a h.lies]
 simp only[Result.andThen]
 rw[Oper.upon_value]
 go_wp2
 go_end0
 exact⟨rfl,rfl⟩
theorem CQ (T b:Nat)(c:Holds T)(bs:List Value)(w:World)(h:Lib.IsBuilder T 5 b b bs w):
  Calls Tryz.prog 165 #[.pointer (some ⟨b,0,none⟩)] w fun e a=>e=.returned (.tuple #[])/\Lib.BuilderAt T 5 b b (.pointer (some ⟨b,0,none⟩)) bs a/\Below b w a/\Kept b w a:=by
 rcases h with h|h
 ·refine(zA T b c w h.cell0 h.shape h.frozen0).mono ?_
  rintro e a ⟨rfl,rfl⟩
  exact⟨rfl,h.used _,(GZ4 b w).setCell (p:=⟨b,0,none⟩) (GZ3 _) _,(Lib.OthersKept.refl _ _ w).setCell ⟨b,0,none⟩ rfl _⟩
 ·refine(Az b w h.cell0).mono ?_
  rintro e a ⟨rfl,rfl⟩
  exact⟨rfl,h,GZ4 _ _,Lib.OthersKept.refl _ _ _⟩
theorem ownsRow_kind {w:World}{B:Nat}{e:TypeId}{v:Value}{n:Nat}{f:List Value}(h:w.ownsRow B e 1 v n f):∀g,v.ownBlock=some g->∃c i,w.heap[g]? =some (.cells c e i):=by
 intro g b
 rcases h.2 with⟨rfl,_⟩|⟨k,j,d,rfl,_,a,_⟩
 ·simp[Value.ownBlock]at b
 ·simp[Value.ownBlock]at b
  subst b
  exact⟨d,_,a⟩
theorem jW (T b:Nat)(G:Holds T)(l:List UInt8)(s:ByteArray)(w:World)(h:Bld T b l w)(F:l.length+s.size<=100000):
  Calls Tryz.prog 89 #[.pointer (some ⟨b,0,none⟩),.string s] w fun e q=>(∃u,e=.returned u)/\Bld T b (l++s.data.toList) q/\Below b w q/\Kept b w q:=by
 obtain⟨K,M,x,t,r⟩:=info_parts Tryz.infoByte
 have P:=Hp (CQ T b G _ w h)
 have m:=G.ne
 clear h
 go_enter Tryz.func89,Tryz.ntmps89
 go_wp2_with (go_at_call 165;refine(P.out).mono ?_)
 rintro e o ⟨rfl,N,C,B⟩
 obtain⟨H,v,f,c,z⟩:=N
 have A:b<o.heap.size:=by
  rcases Nat.lt_or_ge b o.heap.size with D|D
  ·exact D
  ·simp[Array.getElem?_eq_none D]at f
 have S:o.cell? ⟨b,0,none⟩=some (.pointer (some ⟨b,0,none⟩)):=by rw[Lib.cell_of_heap f];rfl
 have R:o.cell? ⟨b,1,none⟩=some v:=by rw[Lib.cell_of_heap f];rfl
 rw[Lib.byteCells_length]at c
 go_wp2_with (at_builtin;refine Lib.wpList_append_own_string _ rfl _ _ 135 9 rfl b 5 K Tryz.underlying135 Tryz.underlying9 M x t r _ _ _ rfl c s rfl ?c3 ?c4 ?c5 ?_)
 case c3=>unfold maxLen;omega
 case c4=>omega
 case c5=>omega
 intro J n d a _
 have i:n.heap[b]? =some (.cells #[.pointer (some ⟨b,0,none⟩),v] T (0,0)):=by
  rw[a.block b A (fun e=>z e.symm)]
  exact f
 have d0:n.cell? ⟨b,0,none⟩=some (.pointer (some ⟨b,0,none⟩)):=by rw[Lib.cell_of_heap i];rfl
 have d1:n.cell? ⟨b,1,none⟩=some v:=by rw[Lib.cell_of_heap i];rfl
 have Q:n.frozen? ⟨b,1,none⟩=false:=Lib.frozen_of_heap i 1
 obtain⟨I,E,j,rfl⟩:∃I E j,J=.slice I E j:=by
  rcases d.2 with⟨y,_⟩|⟨g,j,O,y,_⟩
  ·exact⟨_,_,_,y⟩
  ·exact⟨_,_,_,y⟩
 go_wp2
 go_ret2
 refine⟨⟨_,rfl⟩,.inr ?_,?_,?_⟩
 ·refine Lib.BuilderAt.put (T:=T) (e:=5) H i (bs':=Lib.byteCells (l++s.data.toList)) ?_ m
  rw[Lib.byteCells_length,GZ8,Lib.byteCells_append]
  have e:s.data.toList.length=s.size:=by rw[Array.length_toList];rfl
  rw[e]
  exact d
 ·exact(C.grown a (by omega) (fun k L=>(c.lt k L).1)).setCell (p:=⟨b,1,none⟩) H _
 ·exact(B.grown a (ownsRow_kind c)).setCell ⟨b,1,none⟩ rfl _
theorem GN (T b:Nat)(l:List UInt8)(w:World)(h:Bld T b l w)(s:l≠[]):
  Calls Tryz.prog 92 #[.pointer (some ⟨b,0,none⟩)] w fun e t=>e=.returned (.string ⟨l.toArray⟩)/\Below b w t:=by
 obtain⟨p,G,v,o,d,A⟩:∃p,Lib.BuilderAt T 5 b b p (Lib.byteCells l) w:=by
  rcases h with h|h
  ·exact⟨_,h⟩
  ·exact⟨_,h⟩
 have m:l.length≠0:=by simpa using s
 rw[Lib.byteCells_length]at d
 obtain⟨g,a,c,rfl,q,C,B,i,D,f⟩:∃g a c,v=.slice (some ⟨g,0,none⟩) l.length a/\b<=g/\w.heap[g]? =some (.cells c 5 (0,0))/\l.length<=a/\a<=maxLen/\c.size=a*1/\c.toList.take (l.length*1)=Lib.byteCells l:=by
  rcases d.2 with⟨_,u⟩|⟨g,a,c,z,r⟩
  ·exact absurd u m
  ·exact⟨g,a,c,z,r⟩
 have H:w.drew.cell? ⟨b,1,none⟩=some (.slice (some ⟨g,0,none⟩) l.length a):=by
  have:w.drew.heap[b]? =some (.cells #[p,.slice (some ⟨g,0,none⟩) l.length a] T (0,0)):=o
  rw[Lib.cell_of_heap this];rfl
 have F:(Builtin.unsafeSliceData_ #[135] 210 #[.slice (some ⟨g,0,none⟩) l.length a]).run Tryz.prog w.drew=.ok (.pointer (some ⟨g,0,none⟩)) w.drew:=
  Lib.run_unsafeSliceData_row _ _ _ _ _ _ (by omega)
 have E:(Builtin.unsafeString_ #[210,3] 9 #[.pointer (some ⟨g,0,none⟩),.int .i64 l.length]).run Tryz.prog w.drew=.ok (.string ⟨l.toArray⟩) (w.drew.freeze ⟨g,0,none⟩ l.length):=by
  refine Lib.run_unsafeString_row w.drew 210 3 9 5 Tryz.underlying210 Tryz.cellsByte g c.size (by have n:w.drew.heap[g]? =some (.cells c 5 (0,0)):=C;simp[World.shape?,n]) l s (by omega) (by unfold maxLen at i;omega) ?_
  intro j x y
  have:=d.cells (g:=g) rfl j (.int .u8 x.toNat) (by simp[Lib.byteCells,y])
  exact this
 clear i f
 have k:Tryz.prog.follows Departure.mixedOrders=true:=by kernel_rfl
 go_enter Tryz.func92,Tryz.ntmps92
 go_wp2
 go_region_o
 all_goals(go_wp2;go_ret;exact⟨rfl,Lib.below_freeze (Below.drew (GZ4 b w)) (p:=⟨g,0,none⟩) q _⟩)
theorem Kept.heap {b k:Nat}{w w':World}{d:Array Value}{t:TypeId}{a:Nat×Nat}(h:Kept b w w')(g:w.heap[k]? =some (.cells d t a))(i:k≠b)(f:t≠5):w'.heap[k]? =some (.cells d t a):=
 h k _ g (fun e=>i (GY3 e)) (fun c j e=>by injection e with _ h2 _;exact f h2)
theorem Bld.below {T b:Nat}{l:List UInt8}{w w':World}(h:Bld T b l w)(k:Below w.heap.size w w'):Bld T b l w':=by
 have c:∀p,Lib.BuilderAt T 5 b b p (Lib.byteCells l) w->Lib.BuilderAt T 5 b b p (Lib.byteCells l) w':=fun p ⟨n,v,d,a,e⟩=>by
  have f:b<w.heap.size:=(ZL d)
  refine⟨n,v,(k.block b f).trans d,⟨a.1,?_⟩,e⟩
  rcases a.2 with o|⟨g,j,i,s,r,m,q⟩
  ·exact .inl o
  ·exact .inr ⟨g,j,i,s,r,(k.block g (ZL m)).trans m,q⟩
 rcases h with h|h
 ·exact .inl (c _ h)
 ·exact .inr (c _ h)
theorem Kept.of_below {b:Nat}{w a:World}(h:Below w.heap.size w a):Kept b w a:=fun k _ c _ _=>(h.block k (ZL c)).trans c
theorem Bld.lt {T b:Nat}{l:List UInt8}{w:World}(h:Bld T b l w):b<w.heap.size:=by
 rcases h with h|h<;>exact h.lt
end Go.Proofs.YtjiedaialianmaaGreat
end
