import Derived.Test.YtjiedaialianmaaGreatA01
import Derived.Deep.AppendLies
import Derived.Shelf.GgClosure.StringsIndexFunc
import Derived.Lib.MapLaws
set_option maxRecDepth 1000000
set_option maxHeartbeats 4000000
namespace Go.Proofs.YtjiedaialianmaaGreat
section
open Go.RowKit
theorem aA (a:Addr)(n:Nat):(a.add n).block=a.block:=by unfold Addr.add;split<;>rfl
theorem VJ (a:Addr)(i j:Nat):(a.add i).add j=a.add (i+j):=by
 unfold Addr.add
 by_cases c:i=0<;>by_cases b:j=0<;>simp[c,b,Nat.add_assoc]
def Reads (w:World)(B size:Nat)(A:Option Addr)(n:Nat)(xs:List Value):Prop:=
 xs.length=n*size/\(0<n->∃a,A=some a/\a.block<B/\∀j u,xs[j]? =some u->w.cell? (a.add j)=some u)
section
variable {w w':World} {B B' size n:Nat} {A:Option Addr} {xs:List Value}
theorem Reads.keep (h:Reads w B size A n xs)(d:∀p:Addr,p.block<B->w'.cell? p=w.cell? p):Reads w' B size A n xs:=
 ⟨h.1,fun c=>by
  obtain⟨g,e,a,f⟩:=h.2 c
  exact⟨g,e,a,fun j u b=>(d _ (by rw[aA];exact a)).trans (f j u b)⟩⟩
theorem Reads.more (h:Reads w B size A n xs)(f:B<=B'):Reads w B' size A n xs:=
 ⟨h.1,fun a=>by
  obtain⟨c,e,d,b⟩:=h.2 a
  exact⟨c,e,by omega,b⟩⟩
theorem Reads.below (h:Reads w B size A n xs)(b:Below B w w'):Reads w' B size A n xs:=h.keep fun _ a=>b.cell a
theorem Reads.of_own {a:Nat}{e:TypeId}{c:Nat}(h:w.ownsRow a e size (.slice A n c) n xs):Reads w w.heap.size size A n xs:=by
 refine⟨h.1,fun f=>?_⟩
 obtain⟨g,j,d,_,b⟩:=h.form f
 have i:A=some ⟨g,0,none⟩:=by injection d
 subst i
 exact⟨_,rfl,b,h.cells (g:=g) rfl⟩
end
def Row {α:Type}(enc:α->List Value)(k:Nat)(w:World)(A:Option Addr)(l:List α):Prop:=Reads w w.heap.size k A l.length (l.flatMap enc)
theorem flat_get {α:Type}{enc:α->List Value}{k:Nat}(a:∀x,(enc x).length=k):∀(l:List α)(i j:Nat)(b:i<l.length),j<k->(l.flatMap enc)[i*k+j]? =(enc l[i])[j]?
 |x::l,0,j,_,hj=>by
  rw[List.flatMap_cons,List.getElem?_append_left (by rw[a];omega)];simp
 |x::l,i+1,j,b,hj=>by
  rw[List.flatMap_cons,List.getElem?_append_right (by rw[a,Nat.succ_mul];omega),a]
  have:(i+1)*k+j -k=i*k+j:=by rw[Nat.succ_mul];omega
  rw[this,flat_get a l i j (by simpa using b) hj];simp
theorem flat_length {α:Type}{enc:α->List Value}{k:Nat}(a:∀x,(enc x).length=k)(l:List α):(l.flatMap enc).length=l.length*k:=by
 induction l with
 |nil=>simp
 |cons x l ih=>simp[List.flatMap_cons,a,ih,Nat.succ_mul,Nat.add_comm]
section
variable {α:Type} {enc:α->List Value} {k:Nat} {w w':World} {A:Option Addr} {l:List α}
theorem Row.below (h:Row enc k w A l)(a:Below w.heap.size w w'):Row enc k w' A l:=(Reads.below h a).more a.size
theorem Row.at_ (c:∀x,(enc x).length=k)(h:Row enc k w A l)(i:Nat)(f:i<l.length):
  ∃a,A=some a/\a.block<w.heap.size/\∀j u,(enc l[i])[j]? =some u->w.cell? ((a.add (i*k)).add j)=some u:=by
 obtain⟨a,e,m,g⟩:=h.2 (by omega)
 refine⟨a,e,m,fun j u b=>?_⟩
 rw[VJ]
 refine g _ _ ?_
 have d:j<k:=by
  rcases Nat.lt_or_ge j k with h|h
  ·exact h
  ·rw[List.getElem?_eq_none (by rw[c];exact h)]at b;cases b
 rw[flat_get c l i j f d];exact b
theorem Row.nil :Row enc k w none ([]:List α):=⟨by simp,fun h=>absurd h (by simp)⟩
end
abbrev iv (a:Int):Value:=.int .i64 a
def Exp.cells (x:Exp):List Value:=[.string x.name,iv x.at_]
def Imp.cells (x:Imp):List Value:=[.string x.mod,.string x.name,iv x.major,iv x.minor]
def Pat.cells (p:Pat):List Value:=[iv p.kind,iv p.at_,iv p.sym,iv p.add]
def Mod.cells (m:Mod):List Value:=[.string m.name,iv m.major,iv m.minor,.string m.text,.slice m.eA m.ex.length m.eC,.slice m.iA m.im.length m.iC,.slice m.pA m.pa.length m.pC]
def Plc.cells (x:Plc):List Value:=x.m.cells++[iv x.first]
def Krn.cells (x:Krn):List Value:=[iv x.major,iv x.minor,.slice x.eA x.ex.length x.eC]
abbrev Exp.v (x:Exp):Value:=.agg #[.string x.name,iv x.at_]
abbrev Imp.v (x:Imp):Value:=.agg #[.string x.mod,.string x.name,iv x.major,iv x.minor]
abbrev Mod.v (m:Mod):Value:=.agg #[.string m.name,iv m.major,iv m.minor,.string m.text,.slice m.eA m.ex.length m.eC,.slice m.iA m.im.length m.iC,.slice m.pA m.pa.length m.pC]
abbrev Plc.v (x:Plc):Value:=.agg #[.string x.m.name,iv x.m.major,iv x.m.minor,.string x.m.text,.slice x.m.eA x.m.ex.length x.m.eC,.slice x.m.iA x.m.im.length x.m.iC,.slice x.m.pA x.m.pa.length x.m.pC,iv x.first]
abbrev Krn.v (x:Krn):Value:=.agg #[iv x.major,iv x.minor,.slice x.eA x.ex.length x.eC]
def big :Nat:=140737488351232
abbrev Sj (w:World)(A:Option Addr)(l:List Exp):Prop:=Row Exp.cells 2 w A l/\l.length<=big/\∀x∈l,x.name.size<=big
abbrev TC (w:World)(A:Option Addr)(l:List Imp):Prop:=Row Imp.cells 4 w A l/\l.length<=big/\∀x∈l,x.mod.size<=big/\x.name.size<=big
abbrev pJ (w:World)(A:Option Addr)(l:List Pat):Prop:=Row Pat.cells 4 w A l/\l.length<=big
structure Mod.ok (m:Mod)(w:World):Prop where
 ex:Sj w m.eA m.ex
 im:TC w m.iA m.im
 pa:pJ w m.pA m.pa
 name:m.name.size<=big
 text:m.text.size<=big
theorem Mod.ok.below {m:Mod}{w w':World}(h:m.ok w)(a:Below w.heap.size w w'):m.ok w':=
 ⟨⟨h.ex.1.below a,h.ex.2⟩,⟨h.im.1.below a,h.im.2⟩,⟨h.pa.1.below a,h.pa.2⟩,h.name,h.text⟩
structure aU (w:World)(A:Option Addr)(l:List Plc):Prop where
 row:Row Plc.cells 8 w A l
 len:l.length<=big
 each:∀x∈l,x.m.ok w
theorem aU.below {A:Option Addr}{l:List Plc}{w w':World}(h:aU w A l)(a:Below w.heap.size w w'):aU w' A l:=
 ⟨h.row.below a,h.len,fun x b=>(h.each x b).below a⟩
structure Krn.ok (x:Krn)(w:World):Prop where
 ex:Sj w x.eA x.ex
theorem Krn.ok.below {m:Krn}{w w':World}(h:m.ok w)(a:Below w.heap.size w w'):m.ok w':=⟨⟨h.ex.1.below a,h.ex.2⟩⟩
theorem add_zero_ (a:Addr):a.add 0=a:=by simp[Addr.add]
theorem add_pos_ (a:Addr)(j:Nat)(h:0<j):a.add j=⟨a.block,a.off+j,none⟩:=by unfold Addr.add;rw[if_neg (by omega)]
theorem mF {w w':World}{A:Option Addr}{l:List Exp}(h:Row Exp.cells 2 w A l)(d:Below w.heap.size w w')(i:Nat)(n:i<l.length):
  ∃a,A=some a/\a.block<w.heap.size/\w'.cell? (a.add (i*2))=some (.string l[i].name)/\w'.cell? ⟨(a.add (i*2)).block,(a.add (i*2)).off+1,none⟩=some (iv l[i].at_):=by
 obtain⟨a,rfl,b,c⟩:=Row.at_ (enc:=Exp.cells) (k:=2) (fun _=>rfl) h i n
 have e:=c 0 _ rfl
 rw[add_zero_]at e
 have g:∀j u,0<j->(Exp.cells l[i])[j]? =some u->w'.cell? ⟨(a.add (i*2)).block,(a.add (i*2)).off+j,none⟩=some u:=fun j u m f=>by
  rw[<-add_pos_ _ _ m]
  exact(d.cell (by rw[aA,aA];exact b)).trans (c j u f)
 exact⟨a,rfl,b,(d.cell (by rw[aA];exact b)).trans e,g 1 _ (by omega) rfl⟩
theorem TA {w w':World}{A:Option Addr}{l:List Imp}(h:Row Imp.cells 4 w A l)(e:Below w.heap.size w w')(i:Nat)(n:i<l.length):
  ∃a,A=some a/\a.block<w.heap.size/\w'.cell? (a.add (i*4))=some (.string l[i].mod)/\w'.cell? ⟨(a.add (i*4)).block,(a.add (i*4)).off+1,none⟩=some (.string l[i].name)/\w'.cell? ⟨(a.add (i*4)).block,(a.add (i*4)).off+2,none⟩=some (iv l[i].major)/\w'.cell? ⟨(a.add (i*4)).block,(a.add (i*4)).off+3,none⟩=some (iv l[i].minor):=by
 obtain⟨a,rfl,b,d⟩:=Row.at_ (enc:=Imp.cells) (k:=4) (fun _=>rfl) h i n
 have f:=d 0 _ rfl
 rw[add_zero_]at f
 have c:∀j u,0<j->(Imp.cells l[i])[j]? =some u->w'.cell? ⟨(a.add (i*4)).block,(a.add (i*4)).off+j,none⟩=some u:=fun j u m g=>by
  rw[<-add_pos_ _ _ m]
  exact(e.cell (by rw[aA,aA];exact b)).trans (d j u g)
 exact⟨a,rfl,b,(e.cell (by rw[aA];exact b)).trans f,c 1 _ (by omega) rfl,c 2 _ (by omega) rfl,c 3 _ (by omega) rfl⟩
theorem qE {w w':World}{A:Option Addr}{l:List Pat}(h:Row Pat.cells 4 w A l)(e:Below w.heap.size w w')(i:Nat)(n:i<l.length):
  ∃a,A=some a/\a.block<w.heap.size/\w'.cell? (a.add (i*4))=some (iv l[i].kind)/\w'.cell? ⟨(a.add (i*4)).block,(a.add (i*4)).off+1,none⟩=some (iv l[i].at_)/\w'.cell? ⟨(a.add (i*4)).block,(a.add (i*4)).off+2,none⟩=some (iv l[i].sym)/\w'.cell? ⟨(a.add (i*4)).block,(a.add (i*4)).off+3,none⟩=some (iv l[i].add):=by
 obtain⟨a,rfl,b,d⟩:=Row.at_ (enc:=Pat.cells) (k:=4) (fun _=>rfl) h i n
 have f:=d 0 _ rfl
 rw[add_zero_]at f
 have c:∀j u,0<j->(Pat.cells l[i])[j]? =some u->w'.cell? ⟨(a.add (i*4)).block,(a.add (i*4)).off+j,none⟩=some u:=fun j u m g=>by
  rw[<-add_pos_ _ _ m]
  exact(e.cell (by rw[aA,aA];exact b)).trans (d j u g)
 exact⟨a,rfl,b,(e.cell (by rw[aA];exact b)).trans f,c 1 _ (by omega) rfl,c 2 _ (by omega) rfl,c 3 _ (by omega) rfl⟩
theorem RS {w w':World}{A:Option Addr}{l:List Plc}(h:Row Plc.cells 8 w A l)(e:Below w.heap.size w w')(i:Nat)(o:i<l.length):
  ∃a,A=some a/\a.block<w.heap.size/\w'.cell? (a.add (i*8))=some (.string l[i].m.name)/\w'.cell? ⟨(a.add (i*8)).block,(a.add (i*8)).off+1,none⟩=some (iv l[i].m.major)/\w'.cell? ⟨(a.add (i*8)).block,(a.add (i*8)).off+2,none⟩=some (iv l[i].m.minor)/\w'.cell? ⟨(a.add (i*8)).block,(a.add (i*8)).off+3,none⟩=some (.string l[i].m.text)/\w'.cell? ⟨(a.add (i*8)).block,(a.add (i*8)).off+4,none⟩=some (.slice l[i].m.eA l[i].m.ex.length l[i].m.eC)/\w'.cell? ⟨(a.add (i*8)).block,(a.add (i*8)).off+5,none⟩=some (.slice l[i].m.iA l[i].m.im.length l[i].m.iC)/\w'.cell? ⟨(a.add (i*8)).block,(a.add (i*8)).off+6,none⟩=some (.slice l[i].m.pA l[i].m.pa.length l[i].m.pC)/\w'.cell? ⟨(a.add (i*8)).block,(a.add (i*8)).off+7,none⟩=some (iv l[i].first):=by
 obtain⟨a,rfl,c,d⟩:=Row.at_ (enc:=Plc.cells) (k:=8) (fun _=>rfl) h i o
 have f:=d 0 _ rfl
 rw[add_zero_]at f
 have b:∀j u,0<j->(Plc.cells l[i])[j]? =some u->w'.cell? ⟨(a.add (i*8)).block,(a.add (i*8)).off+j,none⟩=some u:=fun j u n g=>by
  rw[<-add_pos_ _ _ n]
  exact(e.cell (by rw[aA,aA];exact c)).trans (d j u g)
 exact⟨a,rfl,c,(e.cell (by rw[aA];exact c)).trans f,b 1 _ (by omega) rfl,b 2 _ (by omega) rfl,b 3 _ (by omega) rfl,b 4 _ (by omega) rfl,b 5 _ (by omega) rfl,b 6 _ (by omega) rfl,b 7 _ (by omega) rfl⟩
theorem mY {a b:ByteArray}(h:a≠b):(a.toList==b.toList)=false:=by
 rw[Lib.toList_data,Lib.toList_data,beq_eq_false_iff_ne]
 exact fun e=>h (ba_eq e)
theorem str_eq {a b:ByteArray}(h:a=b):(a.toList==b.toList)=true:=by rw[h];simp
theorem Qz {w a:World}{c b:Value}{t:TypeId}(h:a=w.alloc (.cells #[c,b] t)):a.cell? ⟨w.heap.size,0,none⟩=some c/\a.cell? ⟨w.heap.size,1,none⟩=some b/\a.heap.size=w.heap.size+1/\Below w.heap.size w a:=by
 subst h
 refine⟨by rw[World.cell?_alloc_new];rfl,by rw[World.cell?_alloc_new];rfl,by simp,ZB⟩
theorem uE {w a:World}{d c b:Value}{t:TypeId}(h:a=w.alloc (.cells #[d,c,b] t)):a.cell? ⟨w.heap.size,0,none⟩=some d/\a.cell? ⟨w.heap.size,1,none⟩=some c/\a.cell? ⟨w.heap.size,2,none⟩=some b/\a.heap.size=w.heap.size+1/\Below w.heap.size w a:=by
 subst h
 refine⟨by rw[World.cell?_alloc_new];rfl,by rw[World.cell?_alloc_new];rfl,by rw[World.cell?_alloc_new];rfl,by simp,ZB⟩
theorem oJ {w a:World}{e d c b:Value}{t:TypeId}(h:a=w.alloc (.cells #[e,d,c,b] t)):a.cell? ⟨w.heap.size,0,none⟩=some e/\a.cell? ⟨w.heap.size,1,none⟩=some d/\a.cell? ⟨w.heap.size,2,none⟩=some c/\a.cell? ⟨w.heap.size,3,none⟩=some b/\a.heap.size=w.heap.size+1/\Below w.heap.size w a:=by
 subst h
 refine⟨by rw[World.cell?_alloc_new];rfl,by rw[World.cell?_alloc_new];rfl,by rw[World.cell?_alloc_new];rfl,by rw[World.cell?_alloc_new];rfl,by simp,ZB⟩
theorem wE {w a:World}{i g f e d c b:Value}{t:TypeId}(h:a=w.alloc (.cells #[i,g,f,e,d,c,b] t)):a.cell? ⟨w.heap.size,0,none⟩=some i/\a.cell? ⟨w.heap.size,1,none⟩=some g/\a.cell? ⟨w.heap.size,2,none⟩=some f/\a.cell? ⟨w.heap.size,3,none⟩=some e/\a.cell? ⟨w.heap.size,4,none⟩=some d/\a.cell? ⟨w.heap.size,5,none⟩=some c/\a.cell? ⟨w.heap.size,6,none⟩=some b/\a.heap.size=w.heap.size+1/\Below w.heap.size w a:=by
 subst h
 refine⟨by rw[World.cell?_alloc_new];rfl,by rw[World.cell?_alloc_new];rfl,by rw[World.cell?_alloc_new];rfl,by rw[World.cell?_alloc_new];rfl,by rw[World.cell?_alloc_new];rfl,by rw[World.cell?_alloc_new];rfl,by rw[World.cell?_alloc_new];rfl,by simp,ZB⟩
theorem zH {w a:World}{j i g f e d c b:Value}{t:TypeId}(h:a=w.alloc (.cells #[j,i,g,f,e,d,c,b] t)):a.cell? ⟨w.heap.size,0,none⟩=some j/\a.cell? ⟨w.heap.size,1,none⟩=some i/\a.cell? ⟨w.heap.size,2,none⟩=some g/\a.cell? ⟨w.heap.size,3,none⟩=some f/\a.cell? ⟨w.heap.size,4,none⟩=some e/\a.cell? ⟨w.heap.size,5,none⟩=some d/\a.cell? ⟨w.heap.size,6,none⟩=some c/\a.cell? ⟨w.heap.size,7,none⟩=some b/\a.heap.size=w.heap.size+1/\Below w.heap.size w a:=by
 subst h
 refine⟨by rw[World.cell?_alloc_new];rfl,by rw[World.cell?_alloc_new];rfl,by rw[World.cell?_alloc_new];rfl,by rw[World.cell?_alloc_new];rfl,by rw[World.cell?_alloc_new];rfl,by rw[World.cell?_alloc_new];rfl,by rw[World.cell?_alloc_new];rfl,by rw[World.cell?_alloc_new];rfl,by simp,ZB⟩
end
section
open Go.RowKit
theorem nI (n a b:Int)(w:World):
  Calls Tryz.prog 153 #[.int .i64 n,.int .i64 a,.int .i64 b] w fun e c=>e=.returned (.bool (decide (a<=n)&&decide (n<=b)))/\w=c:=by
 go_enter Tryz.func153,Tryz.ntmps153
 go_wp2_with fail
 all_goals(go_ret;exact⟨aV (by rw[Bool.eq_iff_iff];simp;omega),rfl⟩)
theorem VW (c:Int)(w:World):
  Calls Tryz.prog 233 #[.int .u8 c] w fun e a=>e=.returned (.bool (decide (97<=c)&&decide (c<=122)))/\w=a:=by
 go_enter Tryz.func233,Tryz.ntmps233
 go_wp2_with fail
 all_goals(go_ret;exact⟨aV (by rw[Bool.eq_iff_iff];simp;omega),rfl⟩)
theorem Ce (g:Nat)(u:Array Value)(G:∀i w,(callFunc g i).run Tryz.prog w=.ok (.enter g i) w)(p:Nat->Bool)(c:Bool)(s:ByteArray)(w:World)(B:PredAt Tryz.prog g u encR p w):
  Calls Tryz.prog 260 #[.string s,.func (.func g) #[] u,.bool c] w fun e E=>e=.returned (.int .i64 (Lib.idxFunc p c s))/\Below w.heap.size w E:=by
 go_enter Tryz.func260,Tryz.ntmps260
 go_wp2_with fail
 go_loopg [] s.size (fun D A=>∃a:Nat,A.heap[w.heap.size]? =some (.stringIter s a)/\Below w.heap.size w A/\Lib.idxFuncFrom p c s D a=Lib.idxFunc p c s/\s.size<=a+D)
 case atStart=>exact⟨0,World.iter_heap w s 0,(GZ4 _ w).alloc (GZ3 _) _,rfl,by omega⟩
 case round=>
  obtain⟨a,m,o,b,F⟩:=hrel
  by_cases h:a<s.size
  ·obtain⟨t,rfl⟩:∃t,gk=t+1:=⟨gk -1,by omega⟩
   have l:∀j,(Instr.next (.pointer (some ⟨w.heap.size,0,none⟩)) true j).run Tryz.prog wr=_:=fun j=>Lib.run_next_any_at wr w.heap.size s a j m h
   have v:=Lib.width_pos s a
   obtain⟨R,C⟩:∃R,(Utf8.decode s a).1=R:=⟨_,rfl⟩
   obtain⟨K,y⟩:∃K,(Utf8.decode s a).2=K:=⟨_,rfl⟩
   simp only[Lib.idxFuncFrom,h,if_true,C,y]at b
   rw[C,y]at l
   rw[y]at v
   have f:=Lib.iterAt_heap wr w.heap.size s a (a+K) m
   have d:=Lib.below_iterAt o (k:=w.heap.size) (GZ3 _) s (a+K)
   obtain⟨W,x⟩:∃W,wr.iterAt w.heap.size s (a+K)=W:=⟨_,rfl⟩
   rw[x]at l f d
   have r:Calls Tryz.prog g (#[.int .i32 (R:Int)]++u) W _:=B W R d
   clear B
   cases n:p R<;>cases c<;>rw[n]at r<;>simp only[n,if_true,Bool.false_eq_true,Bool.true_eq_false,if_false]at b
   ·go_wp2_with (go_at_fn g;refine r.mono ?_;rintro e z ⟨rfl,q,rfl⟩)
    go_ret
    exact⟨by rw[<-b]<;>rfl,below_drewN' d q⟩
   ·go_wp2_with (go_at_fn g;refine r.mono ?_;rintro e z ⟨rfl,q,rfl⟩)
    go_roundg t
    case measure=>omega
    case rel=>exact⟨a+K,f,below_drewN' d q,b,by omega⟩
   ·go_wp2_with (go_at_fn g;refine r.mono ?_;rintro e z ⟨rfl,q,rfl⟩)
    go_roundg t
    case measure=>omega
    case rel=>exact⟨a+K,f,below_drewN' d q,b,by omega⟩
   ·go_wp2_with (go_at_fn g;refine r.mono ?_;rintro e z ⟨rfl,q,rfl⟩)
    go_ret
    exact⟨by rw[<-b]<;>rfl,below_drewN' d q⟩
  ·have l:∀j,(Instr.next (.pointer (some ⟨w.heap.size,0,none⟩)) true j).run Tryz.prog wr=_:=fun j=>Lib.run_next_end_at wr w.heap.size s a j m h
   rw[Lib.idxFuncFrom_end p c s gk a h]at b
   go_wp2_with fail
   go_ret
   exact⟨by rw[<-b]<;>rfl,o⟩
theorem CV (g:Nat)(b:Array Value)(i:∀a w,(callFunc g a).run Tryz.prog w=.ok (.enter g a) w)(p:Nat->Bool)(s:ByteArray)(w:World)(f:PredAt Tryz.prog g b encR p w):
  Calls Tryz.prog 234 #[.string s,.func (.func g) #[] b] w fun e d=>e=.returned (.int .i64 (Lib.idxFunc p true s))/\Below w.heap.size w d:=by
 have c:=Hp (Ce g b i p true s w f)
 go_enter Tryz.func234,Tryz.ntmps234
 go_wp2_with (go_at_call 260;refine c.mono ?_;rintro e d ⟨rfl,h⟩)
 go_ret
 exact⟨rfl,h⟩
def jJ (r:Nat):Bool:=decide (126<r) || !((decide (97<=r)&&decide (r<=122)) || (decide (48<=r)&&decide (r<=57)) || decide (r=95))
theorem NK (w:World):PredAt Tryz.prog 232 #[] encR jJ w:=fun W r _=>by
 unfold FnGives
 by_cases d:126<r
 ·have g:(126:Int)<(r:Int):=by omega
  go_enter Tryz.func232,Tryz.ntmps232
  go_wp2_with fail
  go_ret
  exact⟨by simp[jJ,d],0,rfl⟩
 ·have g:decide ((126:Int)<(r:Int))=false:=by simp;omega
  have j:IntKind.u8.wrap (r:Int)=r:=by simp[IntKind.wrap_u8];omega
  have c:=Hp (fun W=>VW (r:Int) W)
  by_cases i:(97<=r/\r<=122)
  ·have b:(decide ((97:Int)<=r)&&decide ((r:Int)<=122))=true:=by simp;omega
   go_enter Tryz.func232,Tryz.ntmps232
   go_wp2_with (go_at_call 233;refine(c.out _).mono ?_;rintro e a ⟨rfl,rfl⟩;try rw[b])
   all_goals(go_ret;exact⟨by simp[jJ,d,i],0,rfl⟩)
  ·have b:(decide ((97:Int)<=r)&&decide ((r:Int)<=122))=false:=by simp;omega
   have f:=Hp (fun W=>(gU (r:Int) 48 57 W))
   by_cases h:(48<=r/\r<=57)
   ·go_enter Tryz.func232,Tryz.ntmps232
    go_wp2_with (first|(go_at_call 233;refine(c.out _).mono ?_;rintro e a ⟨rfl,rfl⟩;try rw[b])|(go_at_call 217;refine(f.out _).mono ?_;rintro e a ⟨rfl,rfl⟩))
    all_goals(go_ret;exact⟨by simp[jJ,d,h],0,rfl⟩)
   ·go_enter Tryz.func232,Tryz.ntmps232
    go_wp2_with (first|(go_at_call 233;refine(c.out _).mono ?_;rintro e a ⟨rfl,rfl⟩;try rw[b])|(go_at_call 217;refine(f.out _).mono ?_;rintro e a ⟨rfl,rfl⟩))
    all_goals(go_ret;exact⟨aV (by rw[Bool.eq_iff_iff];simp[jJ,d];omega),0,rfl⟩)
theorem IA (s:ByteArray)(a:Nat)(h:a<s.size):(s[a].toNat<128/\Utf8.decode s a=(s[a].toNat,1))\/(128<=s[a].toNat/\128<=(Utf8.decode s a).1):=by
 rw[Lib.decode_at]
 have e:s.get! a=s[a]:=by
  simp[ByteArray.get!,ByteArray.getElem_eq_getElem_data,getElem!_pos,h]
 rw[e]
 rcases Lib.decodeN_shape (s.size -a) s[a].toNat (s.get! (a+1)).toNat (s.get! (a+2)).toNat (s.get! (a+3)).toNat with b|b|b|b|b
 ·exact .inl b
 ·refine .inr ⟨by omega,?_⟩;rw[b.2.2.2.2];exact b.2.2.2.1
 ·refine .inr ⟨by omega,?_⟩;rw[b.2.2.2.2.2.2];show 128<=_;have:=b.2.2.2.2.1;omega
 ·refine .inr ⟨by omega,?_⟩;rw[b.2.2.2.2.2.2.2];show 128<=_;have:=b.2.2.2.2.2.1;omega
 ·by_cases c:s[a].toNat<128
  ·refine .inl ⟨c,?_⟩
   have:Lib.decodeN (s.size -a) s[a].toNat (s.get! (a+1)).toNat (s.get! (a+2)).toNat (s.get! (a+3)).toNat=(s[a].toNat,1):=by
    unfold Lib.decodeN;rw[if_pos c]
   exact this
  ·refine .inr ⟨by omega,?_⟩;rw[b];show 128<=_;omega
theorem QU (c:UInt8):jJ c.toNat=!fC c:=by
 have:=c.toNat_lt
 unfold jJ fC
 rw[Bool.eq_iff_iff];simp;omega
theorem sJ (s:ByteArray):∀f a,s.size<=a+f->(Lib.idxFuncFrom jJ true s f a<0↔(s.data.toList.drop a).all fC=true)
 |0,a,h=>by
  rw[List.drop_eq_nil_of_le (by simpa using h)]
  simp[Lib.idxFuncFrom]
 |f+1,a,h=>by
  unfold Lib.idxFuncFrom
  by_cases b:a<s.size
  ·rw[if_pos b,GY4 (by simpa using b)]
   have e:s.data.toList[a]'(by simpa using b)=s[a]:=by simp[ByteArray.getElem_eq_getElem_data]
   rw[e,List.all_cons]
   rcases IA s a b with⟨i,c⟩|⟨i,c⟩
   ·rw[c]
    simp only[QU]
    cases j:fC s[a]
    ·simp
    ·simp only[Bool.not_true,Bool.false_eq_true,if_false,Bool.true_and]
     exact sJ s f (a+1) (by omega)
   ·have g:jJ (Utf8.decode s a).1=true:=by unfold jJ;simp;omega
    have d:fC s[a]=false:=by unfold fC;simp;omega
    rw[if_pos g,d];simp
  ·rw[if_neg b,List.drop_eq_nil_of_le (by simpa using b)]
   simp
theorem O7 (s:ByteArray):decide (Lib.idxFunc jJ true s<0)=s.data.toList.all fC:=by
 have:=sJ s s.size 0 (by omega)
 rw[List.drop_zero]at this
 rw[Bool.eq_iff_iff,decide_eq_true_eq];exact this
theorem Bg (s:ByteArray)(h:0<s.size):mJ s.data.toList=(decide ((97:Int)<=(s[0].toNat:Int))&&decide ((s[0].toNat:Int)<=122)):=by
 have e:s.data.toList=s[0]::s.data.toList.drop 1:=by
  have:=GY4 (l:=s.data.toList) (i:=0) (by simpa using h)
  simpa[ByteArray.getElem_eq_getElem_data]using this
 rw[e];unfold mJ
 rw[Bool.eq_iff_iff];simp;omega
theorem qY (s:ByteArray)(w:World)(k:s.size<=big):
  Calls Tryz.prog 181 #[.string s] w fun e d=>e=.returned (.bool (isName s))/\Below w.heap.size w d:=by
 unfold big at k
 have f:=Hp (GZ4 w.heap.size w)
 by_cases m:s.size=0
 ·have a:isName s=false:=by
   have:s.data.toList=[]:=GY9 (by simpa using m)
   unfold isName;rw[this];simp[mJ]
  rw[a];clear a
  go_enter Tryz.func181,Tryz.ntmps181
  go_wp2_with fail
  all_goals(go_ret;exact⟨rfl,f.out⟩)
 by_cases t:10<s.size
 ·have a:isName s=false:=by unfold isName;simp;omega
  rw[a];clear a
  have p:(10:Int)<s.size:=by omega
  go_enter Tryz.func181,Tryz.ntmps181
  go_wp2_with fail
  all_goals(go_ret;exact⟨rfl,f.out⟩)
 have l:0<s.size:=by omega
 have o:(1:Int)<=s.size:=by omega
 have n:(s.size:Int)<=10:=by omega
 have c:=Hp (fun W=>(VW (s[0].toNat:Int) W).mono fun _ _ h=>(⟨h.1.trans (aV (Bg s l).symm),h.2⟩:_=Ending.returned (.bool (mJ s.data.toList))/\_))
 cases b:mJ s.data.toList
 ·have a:isName s=false:=by unfold isName;simp[b]
  rw[b]at c
  rw[a];clear a b
  go_enter Tryz.func181,Tryz.ntmps181
  go_wp2_with (go_at_call 233;refine(c.out _).mono ?_;rintro e d ⟨rfl,rfl⟩)
  all_goals(go_ret;exact⟨rfl,f.out⟩)
 ·have a:isName s=s.data.toList.all fC:=by unfold isName;simp[b];omega
  rw[b]at c
  rw[a,<-O7];clear a b
  have j:=Hp (fun W=>CV 232 #[] (enters_of Tryz.func232 (by kernel_rfl) rfl) jJ s W (NK W))
  obtain⟨r,g⟩:=Nm (Lib.idxFunc jJ true s)
  rw[<-g]at j ⊢
  clear g
  go_enter Tryz.func181,Tryz.ntmps181
  go_wp2_with (first|(go_at_call 233;refine(c.out _).mono ?_;rintro e d ⟨rfl,rfl⟩)|(go_at_call 234;refine(j.out _).mono ?_;rintro e q ⟨rfl,i⟩))
  all_goals(go_ret;first|exact⟨by simp[*],i⟩|exact⟨by simp,i⟩)
theorem Nv (p:UInt8->Bool)(s:ByteArray)(j:Nat)(h:j<s.size):(s.data.toList.take (j+1)).all p=((s.data.toList.take j).all p&&p s[j]):=by
 have e:=List.take_append_getElem (l:=s.data.toList) (i:=j) (by simpa using h)
 rw[<-e,List.all_append];simp[ByteArray.getElem_eq_getElem_data]
theorem QK (p:UInt8->Bool)(s:ByteArray)(j:Nat)(h:j<s.size)(a:p s[j]=false):s.data.toList.all p=false:=by
 rw[List.all_eq_false]
 exact⟨s[j],by rw[show s[j]=s.data.toList[j]'(by simpa using h) by simp[ByteArray.getElem_eq_getElem_data]];exact GZ9 _,by simp[a]⟩
theorem Od (p:UInt8->Bool)(s:ByteArray)(j:Nat)(h:¬j<s.size)(a:(s.data.toList.take j).all p=true):s.data.toList.all p=true:=by
 rwa [List.take_of_length_le (by simp;omega)]at a
theorem Sl (s:ByteArray)(w:World)(z:s.size<=big):
  Calls Tryz.prog 142 #[.string s] w fun e a=>e=.returned (.bool (isName s))/\w=a:=by
 unfold big at z
 by_cases C:s.size=0
 ·have b:isName s=false:=by
   have:s.data.toList=[]:=GY9 (by simpa using C)
   unfold isName;rw[this];simp[mJ]
  rw[b];clear b
  go_enter Tryz.func142,Tryz.ntmps142
  go_wp2_with (first|(go_at_call 75;(with_reducible refine(RQ _ _ _ _ ?_).mono ?_);(focus (first|omega|assumption));rintro e a ⟨rfl,rfl⟩))
  all_goals(go_ret;exact⟨rfl,rfl⟩)
 by_cases H:10<s.size
 ·have b:isName s=false:=by unfold isName;simp;omega
  rw[b];clear b
  have D:(10:Int)<s.size:=by omega
  go_enter Tryz.func142,Tryz.ntmps142
  go_wp2_with (first|(go_at_call 75;(with_reducible refine(RQ _ _ _ _ ?_).mono ?_);(focus (first|omega|assumption));rintro e a ⟨rfl,rfl⟩))
  all_goals(go_ret;exact⟨rfl,rfl⟩)
 have A:0<s.size:=by omega
 have x:(1:Int)<=s.size:=by omega
 have v:(s.size:Int)<=10:=by omega
 have t:=Hp (fun W=>bK s.size 1 10 W x v)
 have F:wrap64 (s[0].toNat:Int)=s[0].toNat:=by have:=s[0].toNat_lt;exact IntWalk.wrap64_in _ (by omega)
 have l:=Hp (fun W=>(bE (s[0].toNat:Int) 97 122 W).mono fun _ _ h=>(⟨h.1.trans (aV (Bg s A).symm),h.2⟩:_=Ending.returned (.bool (mJ s.data.toList))/\_))
 cases g:mJ s.data.toList
 ·have b:isName s=false:=by unfold isName;simp[g]
  rw[g]at l
  rw[b];clear b g
  go_enter Tryz.func142,Tryz.ntmps142
  go_wp2_with (first|(go_at_call 75;(with_reducible refine(t.out _).mono ?_);rintro e a ⟨rfl,rfl⟩)|(go_at_call 75;(with_reducible refine(l.out _).mono ?_);rintro e a ⟨rfl,rfl⟩))
  all_goals(go_ret;exact⟨rfl,rfl⟩)
 ·have b:isName s=s.data.toList.all fC:=by unfold isName;simp[g];omega
  rw[g]at l
  obtain⟨B,p⟩:=Nm (s.data.toList.all fC)
  rw[b,<-p];clear b g
  have u:=Hp p
  clear p
  go_enter Tryz.func142,Tryz.ntmps142
  go_wp2_with (first|(go_at_call 75;(with_reducible refine(t.out _).mono ?_);rintro e a ⟨rfl,rfl⟩)|(go_at_call 75;(with_reducible refine(l.out _).mono ?_);rintro e a ⟨rfl,rfl⟩))
  go_loop [3,4] (fun i _=>∃j:Nat,j<=s.size/\i=.int .i64 j/\(s.data.toList.take j).all fC=true) (fun i _=>s.size -(intOf i).toNat)
  case atStart=>exact⟨0,by omega,rfl,by simp⟩
  case round=>
   obtain⟨j,G,rfl,d⟩:=hrel
   have m:=Hp d
   clear d
   by_cases f:j<s.size
   ·have r:(j:Int)<s.size:=by omega
    have E:wrap64 (s[j].toNat:Int)=s[j].toNat:=by have:=s[j].toNat_lt;exact IntWalk.wrap64_in _ (by omega)
    have d1:=Hp (fun W=>bE (s[j].toNat:Int) 97 122 W)
    have d2:=Hp (fun W=>bE (s[j].toNat:Int) 48 57 W)
    have o:=Hp (Nv fC s j f)
    have b:=Hp (QK fC s j f)
    by_cases k:97<=s[j].toNat/\s[j].toNat<=122
    ·have c:=Hp (show fC s[j]=true by unfold fC;simp;omega)
     rw[show(decide (97<=(s[j].toNat:Int))&&decide ((s[j].toNat:Int)<=122))=true by simp;omega]at d1
     clear k
     go_wp2_with (first|(go_at_call 75;(with_reducible refine(d1.out _).mono ?_);rintro e a ⟨rfl,rfl⟩))
     go_round
     case rel=>exact⟨j+1,by omega,by go_num,by rw[o.out,m.out,c.out];rfl⟩
     case measure=>(simp[intOf];try omega)
    rw[show(decide (97<=(s[j].toNat:Int))&&decide ((s[j].toNat:Int)<=122))=false by simp;omega]at d1
    by_cases n:48<=s[j].toNat/\s[j].toNat<=57
    ·have c:=Hp (show fC s[j]=true by unfold fC;simp;omega)
     rw[show(decide (48<=(s[j].toNat:Int))&&decide ((s[j].toNat:Int)<=57))=true by simp;omega]at d2
     clear k n
     go_wp2_with (first|(go_at_call 75;(with_reducible refine(d1.out _).mono ?_);rintro e a ⟨rfl,rfl⟩)|(go_at_call 75;(with_reducible refine(d2.out _).mono ?_);rintro e a ⟨rfl,rfl⟩))
     go_round
     case rel=>exact⟨j+1,by omega,by go_num,by rw[o.out,m.out,c.out];rfl⟩
     case measure=>(simp[intOf];try omega)
    rw[show(decide (48<=(s[j].toNat:Int))&&decide ((s[j].toNat:Int)<=57))=false by simp;omega]at d2
    by_cases q:s[j].toNat=95
    ·have c:=Hp (show fC s[j]=true by unfold fC;simp;omega)
     have y:((s[j].toNat:Int) != 95)=false:=by simp;omega
     clear k n q
     go_wp2_with (first|(go_at_call 75;(with_reducible refine(d1.out _).mono ?_);rintro e a ⟨rfl,rfl⟩)|(go_at_call 75;(with_reducible refine(d2.out _).mono ?_);rintro e a ⟨rfl,rfl⟩))
     go_round
     case rel=>exact⟨j+1,by omega,by go_num,by rw[o.out,m.out,c.out];rfl⟩
     case measure=>(simp[intOf];try omega)
    ·have c:=Hp (b.out (show fC s[j]=false by unfold fC;simp;omega))
     have y:((s[j].toNat:Int) != 95)=true:=by simp;omega
     clear k n q
     go_wp2_with (first|(go_at_call 75;(with_reducible refine(d1.out _).mono ?_);rintro e a ⟨rfl,rfl⟩)|(go_at_call 75;(with_reducible refine(d2.out _).mono ?_);rintro e a ⟨rfl,rfl⟩))
     go_ret
     exact⟨aV (u.trans c.out).symm,rfl⟩
   ·have c:=Hp (Od fC s j f m.out)
    go_wp2_with fail
    go_ret
    exact⟨aV (u.trans c.out).symm,rfl⟩
end
section
open Go.RowKit Go.Maps Go.WideMaps
theorem Tryz.law :Keyed Tryz.prog 9:=string_keyed Tryz.underlying9
theorem Tryz.Qy (w:World):(zeroValue 3).run Tryz.prog w=.ok (.int .i64 0) w:=by kernel_rfl
def Fq :Nat:=1000000000000000000
def cnt (ks:List ByteArray)(s:ByteArray):Int:=((ks.filter (fun k=>decide (k=s))).length:Nat)
theorem Aa (a:List ByteArray)(x s:ByteArray):cnt (a++[x]) s=if x=s then cnt a s+1 else cnt a s:=by
 unfold cnt;rw[List.filter_append,GZ8]
 by_cases h:x=s<;>simp[h]
theorem NC (a:List ByteArray)(s:ByteArray):0<=cnt a s/\cnt a s<=a.length:=by
 unfold cnt;have:=List.length_filter_le (fun k=>decide (k=s)) a;omega
theorem KM {ks:List ByteArray}{s:ByteArray}:0<cnt ks s↔s∈ks:=by
 unfold cnt
 constructor
 ·intro h
  have:0<(ks.filter (fun k=>decide (k=s))).length:=by omega
  obtain⟨x,a⟩:=List.exists_mem_of_length_pos this
  obtain⟨c,b⟩:=List.mem_filter.1 a
  obtain rfl:x=s:=by simpa using b
  exact c
 ·intro h
  have:0<(ks.filter (fun k=>decide (k=s))).length:=List.length_pos_of_mem (List.mem_filter.2 ⟨h,by simp⟩)
  omega
theorem Q0 {a:List ByteArray}{s:ByteArray}{n:Nat}(h:a.length<=n)(b:n<=140737488351232):(Lit.int .i64 (cnt a s+1)).wf=true:=by
 have:=NC a s
 exact WalkArith.wf_i64 (by omega)
theorem BP {ks:List ByteArray}{s:ByteArray}{n:Nat}(h:ks.length<=n)(a:n<=140737488351232):wrap64 (cnt ks s+1)=cnt ks s+1:=by
 have:=NC ks s
 exact IntWalk.wrap64_in _ (by omega)
def Ra (w:World)(b n:Nat)(a:List ByteArray):Prop:=
 ∃D:DataW Unit,w.ownsMap Tryz.prog 9 (plainElem Tryz.prog 3) b n D/\∀s:ByteArray,D.atKey (.string s.data.toList) (.lit (.int .i64 0))=.lit (.int .i64 (cnt a s))
theorem Ra.put {w d:World}{b n:Nat}{a:List ByteArray}{D:DataW Unit}{x:ByteArray}(i:w.ownsMap Tryz.prog 9 (plainElem Tryz.prog 3) b n D)
  (h:d.ownsMap Tryz.prog 9 (plainElem Tryz.prog 3) b (n+1) (D.put (.string x.data.toList) (.lit (.int .i64 (cnt a x+1)))))
  (g:∀s:ByteArray,D.atKey (.string s.data.toList) (.lit (.int .i64 0))=.lit (.int .i64 (cnt a s))):
  ∀s:ByteArray,(D.put (.string x.data.toList) (.lit (.int .i64 (cnt a x+1)))).atKey (.string s.data.toList) (.lit (.int .i64 0))=.lit (.int .i64 (cnt (a++[x]) s)):=by
 intro s
 have f:IsMap D:=by obtain⟨j,c,_,_,_,rfl⟩:=i;exact⟨_,rfl⟩
 rw[Aa]
 by_cases e:x=s
 ·subst e
  rw[if_pos rfl]
  exact atKey_put_same f (by simp[WideAt.IsKeyLit]) _ _
 ·rw[if_neg e,atKey_put_other,g]
  intro h
  simp only[Lit.string.injEq]at h
  exact e (ba_eq h.symm)
theorem Ra.alloc {w:World}{b n:Nat}{a:List ByteArray}(h:Ra w b n a)(o:Obj):Ra (w.alloc o) b n a:=by
 obtain⟨D,d,c⟩:=h;exact⟨D,d.alloc o,c⟩
theorem Ra.lt {w:World}{b n:Nat}{a:List ByteArray}(h:Ra w b n a):b<w.heap.size:=by
 obtain⟨D,c,d⟩:=h;exact c.lt
theorem Ra.kept {w w':World}{b n B:Nat}{d:List ByteArray}(h:Ra w b n d)(f:Below B w w')(i:b<B):Ra w' b n d:=by
 obtain⟨D,⟨k,a,c,F,e,g⟩,j⟩:=h
 exact⟨D,⟨k,a,(f.block b i).trans c,F,e,g⟩,j⟩
theorem Ra.made (w:World):Ra (w.alloc (.map #[] 0)) w.heap.size 0 []:=⟨.map [],World.ownsMap_made _ _ _ _,fun _=>rfl⟩
theorem bA (w:World){e:Array Oper}{d:List Oper}{o:Oper}{a:Act}{Q:Exit->Act->World->Prop}
  (q:o.guard=none) (m x:Operand) (g:o.op=Op.lookup 251 m x false) (b n:Nat) (j:List ByteArray) (h:Ra w b n j) (s:ByteArray) (l:s.size<=Fq)
  (p:a.eval m=.map (some b)) (k:a.eval x=.string s) (c:Int) (r:c=cnt j s)
  (t:wpList Tryz.prog e Q d (a.put o.dst (.int .i64 c)) w):wpList Tryz.prog e Q (o::d) a w:=by
 obtain⟨D,f,u⟩:=h
 refine wpList_lookup_own_int w q m x 251 g 9 3 .i64 Tryz.law Tryz.underlying251 Tryz.underlying3 (Tryz.Qy _) b n D p f _ _ k (keyOf_string_mk Tryz.underlying9 (by unfold maxLen;unfold Fq at l;omega)) ?_
 intro v i _
 obtain rfl:c=v:=by
  have:=(u s).symm.trans i
  rw[r];simpa using this
 exact t
theorem Rh (w:World){g:Array Oper}{d:List Oper}{o:Oper}{a:Act}{Q:Exit->Act->World->Prop}
  (A:o.guard=none) (m x v:Operand) (j:o.op=Op.mapUpdate 251 m x v) (b n:Nat) (i:List ByteArray) (h:Ra w b n i) (s:ByteArray) (u:s.size<=Fq)
  (q:i.length<=big) (z:n<=big) (y:a.eval m=.map (some b)) (r:a.eval x=.string s) (c:Int) (k:c=cnt i s) (p:a.eval v=.int .i64 (wrap64 (c+1)))
  (B:∀f,Ra f b (n+1) (i++[s])->w.grownBy f (some b)->wpList Tryz.prog g Q d (a.put o.dst undef) f):wpList Tryz.prog g Q (o::d) a w:=by
 obtain⟨D,e,C⟩:=h
 have t:wrap64 (c+1)=c+1:=by rw[k];exact BP q (by unfold big;omega)
 rw[t]at p
 refine wpList_mapUpdate_own w A m x v 251 j 9 3 Tryz.law Tryz.underlying251 (plainElem Tryz.prog 3) b n D y e (by unfold maxLen;unfold big at z;omega) _ _ _ r p
  (keyOf_string_mk Tryz.underlying9 (by unfold maxLen;unfold Fq at u;omega)) (.lit (.int .i64 (c+1))) [] (plainElem_int Tryz.underlying3 (by rw[k];exact Q0 q (by unfold big;omega))) ?_
 intro f l E
 rw[k]at l
 exact B f ⟨_,l,Ra.put e l C⟩ E
theorem jL {w b:World}{c:Array Value}{t:TypeId}{B:Nat}(h:(w.alloc (.cells c t)).grownBy b (some B))(e:B<w.heap.size):
  (∀i u,c[i]? =some u->b.cell? ⟨w.heap.size,i,none⟩=some u)/\w.heap.size<b.heap.size/\Below B w b:=by
 have a:w.heap.size<(w.alloc (.cells c t)).heap.size:=by simp
 refine⟨fun i u d=>?_,GY0 a h.size,((GZ4 B w).alloc (by omega) _).grown h (by simp;omega) (by simp)⟩
 refine(World.cell?_of_block (h.block _ a (by simp;omega))).trans ?_
 rw[World.cell?_alloc_new];exact d
theorem sP {α β:Type}(l:List α)(f:α->β)(j:Nat)(h:j<l.length):(l.take (j+1)).map f=(l.take j).map f++[f l[j]]:=by
 rw[<-List.take_append_getElem h,List.map_append];rfl
theorem wP {α β:Type}(l:List α)(f:α->β)(j:Nat)(h:j<=l.length)(s:β):s∈(l.take j).map f↔∃k,∃d:k<l.length,k<j/\f l[k]=s:=by
 rw[List.mem_map]
 constructor
 ·rintro⟨z,a,rfl⟩
  rw[List.mem_take_iff_getElem]at a
  obtain⟨k,c,rfl⟩:=a
  exact⟨k,by omega,by omega,rfl⟩
 ·rintro⟨k,d,b,rfl⟩
  exact⟨l[k],by rw[List.mem_take_iff_getElem];exact⟨k,by omega,rfl⟩,rfl⟩
theorem wC (A:Option Addr)(c:Nat)(l:List Exp)(most:Int)(w:World)(h:Sj w A l)(hm:0<=most)(Y:most<=big):
  Calls Tryz.prog 154 #[.slice A l.length c,.int .i64 most] w fun e M=>e=.returned (.int .i64 (eF [] most l))/\Below w.heap.size w M:=by
 obtain⟨D,hl,hs⟩:=h
 unfold big at hl Y
 have HR:=Hp D
 have HS:=Hp hs
 clear D hs
 have q1:wrap64 (most -1)=most -1:=IntWalk.wrap64_in _ (by omega)
 have a2:=@run_makeMap Tryz.prog
 go_enter Tryz.func154,Tryz.ntmps154
 go_wp2_with fail
 go_loopw [11] (fun i wr=>∃j:Nat,j<=l.length/\i=.int .i64 j/\SC l most j=eF [] most l/\Ra wr w.heap.size j ((l.take j).map (·.name))/\Below w.heap.size w wr) (fun i _=>l.length -(intOf i).toNat)
 case atStart=>exact⟨0,by omega,rfl,rfl,Ra.made _,ZB⟩
 case round=>
  obtain⟨j,hj,rfl,hE,Q,hb⟩:=hrel
  have S:=Hp hE
  have T:=Hp hb
  have u:=Hp Q
  clear hE Q
  by_cases a:j<l.length
  ·have a0:(j:Int)<l.length:=by omega
   obtain⟨ad,rfl,a3,h0,h1⟩:=mF HR.out hb j a
   have N:=HS.out l[j] (GZ9 _)
   have g:=Hp (show(l[j]'a).name.size<=Fq by unfold Fq;unfold big at N;omega)
   have O:=Hp (sP l (·.name) j a)
   have E:=Hp (wP l (·.name) j (by omega) l[j].name)
   obtain⟨ks,F⟩:∃ks,ks=(l.take j).map (·.name):=⟨_,rfl⟩
   rw[<-F]at O E u
   have t:=Hp (show ks.length<=big by rw[F];simp;unfold big;omega)
   have v:=Hp (show j<=big by unfold big;omega)
   have y:w.heap.size<wr.heap.size:=u.lt
   have a1:w.heap.size≠wr.heap.size:=by omega
   obtain⟨m,x⟩:=Nm (cnt ks (l[j]'a).name)
   have q2:wrap64 (m+1)=m+1:=by rw[x];exact BP t.out (by unfold big;omega)
   have I:=Hp (KM (ks:=ks) (s:=(l[j]'a).name))
   have r:=Hp (Aa ks (l[j]'a).name (l[j]'a).name)
   rw[<-x]at I r
   have n:=Hp x
   have R:=Hp (fun W=>qY (l[j]'a).name W N)
   clear hb F x
   rw[if_pos rfl]at r
   have L:=Hp (fun W=>gU (l[j]'a).at_ 0 (most -1) W)
   obtain⟨bn,K⟩:=Nm (isName (l[j]'a).name)
   rw[<-K]at R
   have B:=Hp K
   clear K
   cases bn
   ·have z:=Hp ((wM (most:=most) a B.symm).symm.trans S.out)
    go_wp2_with (first
    |(at_lookup;refine bA _ rfl _ _ rfl w.heap.size (j+1) (ks++[(l[j]'a).name]) (f.kept d (by omega)) (l[j]'a).name g.out rfl rfl (m+1) r.symm ?_)
    |(at_lookup;refine bA _ rfl _ _ rfl w.heap.size j ks (u.alloc _) (l[j]'a).name g.out rfl rfl m n.out ?_)
    |(at_mapUpdate;refine Rh _ rfl _ _ _ rfl w.heap.size j ks (u.alloc _) (l[j]'a).name g.out t.out v.out rfl rfl m n.out rfl ?_;intro X f b;obtain⟨o,C,p⟩:=jL b y;have f0:=o 0 _ rfl;have f1:=o 1 _ rfl;clear o)
    |(go_at_call 181;refine(R.out _).mono ?_;rintro e V ⟨rfl,d⟩;obtain⟨J,H⟩:=aJ d)
    |(go_at_call 217;refine(L.out _).mono ?_;rintro e M ⟨rfl,rfl⟩))
    go_ret
    exact⟨aC z.out,(T.trans p).trans (d.mono (by omega))⟩
   by_cases q:0<m
   ·obtain⟨k,U,G,Z⟩:=E.out.1 (I.out.1 q)
    have z:=Hp ((UN (most:=most) a B.symm U G Z).symm.trans S.out)
    have t1:(1:Int)<m+1:=by omega
    clear q
    go_wp2_with (first
    |(at_lookup;refine bA _ rfl _ _ rfl w.heap.size (j+1) (ks++[(l[j]'a).name]) (f.kept d (by omega)) (l[j]'a).name g.out rfl rfl (m+1) r.symm ?_)
    |(at_lookup;refine bA _ rfl _ _ rfl w.heap.size j ks (u.alloc _) (l[j]'a).name g.out rfl rfl m n.out ?_)
    |(at_mapUpdate;refine Rh _ rfl _ _ _ rfl w.heap.size j ks (u.alloc _) (l[j]'a).name g.out t.out v.out rfl rfl m n.out rfl ?_;intro X f b;obtain⟨o,C,p⟩:=jL b y;have f0:=o 0 _ rfl;have f1:=o 1 _ rfl;clear o)
    |(go_at_call 181;refine(R.out _).mono ?_;rintro e V ⟨rfl,d⟩;obtain⟨J,H⟩:=aJ d)
    |(go_at_call 217;refine(L.out _).mono ?_;rintro e M ⟨rfl,rfl⟩))
    go_ret
    exact⟨aC z.out,(T.trans p).trans (d.mono (by omega))⟩
   ·have P:∀k(U:k<l.length),k<j->l[k].name≠l[j].name:=fun k U G e=>q (I.out.2 (E.out.2 ⟨k,U,G,e⟩))
    have HN:=Hp P
    have t1:decide ((1:Int)<m+1)=false:=by simp;omega
    clear q P
    by_cases D:0<=l[j].at_/\l[j].at_<most
    ·have z:=Hp ((vT a B.symm HN.out D).trans S.out)
     have L:=Hp (fun W=>TJ (l[j]'a).at_ 0 (most -1) W D.1 (by omega))
     clear D
     go_wp2_with (first
    |(at_lookup;refine bA _ rfl _ _ rfl w.heap.size (j+1) (ks++[(l[j]'a).name]) (f.kept d (by omega)) (l[j]'a).name g.out rfl rfl (m+1) r.symm ?_)
    |(at_lookup;refine bA _ rfl _ _ rfl w.heap.size j ks (u.alloc _) (l[j]'a).name g.out rfl rfl m n.out ?_)
    |(at_mapUpdate;refine Rh _ rfl _ _ _ rfl w.heap.size j ks (u.alloc _) (l[j]'a).name g.out t.out v.out rfl rfl m n.out rfl ?_;intro X f b;obtain⟨o,C,p⟩:=jL b y;have f0:=o 0 _ rfl;have f1:=o 1 _ rfl;clear o)
    |(go_at_call 181;refine(R.out _).mono ?_;rintro e V ⟨rfl,d⟩;obtain⟨J,H⟩:=aJ d)
    |(go_at_call 217;refine(L.out _).mono ?_;rintro e M ⟨rfl,rfl⟩))
     go_roundw
     case rel=>exact⟨j+1,by omega,by go_num,z.out,by rw[O.out];exact f.kept d (by omega),(T.trans p).trans (d.mono (by omega))⟩
     case measure=>(simp[intOf];try omega)
    ·have z:=Hp ((sI a B.symm HN.out (by omega)).symm.trans S.out)
     have L:=Hp (fun W=>mV (l[j]'a).at_ 0 (most -1) W (by omega))
     clear D
     go_wp2_with (first
    |(at_lookup;refine bA _ rfl _ _ rfl w.heap.size (j+1) (ks++[(l[j]'a).name]) (f.kept d (by omega)) (l[j]'a).name g.out rfl rfl (m+1) r.symm ?_)
    |(at_lookup;refine bA _ rfl _ _ rfl w.heap.size j ks (u.alloc _) (l[j]'a).name g.out rfl rfl m n.out ?_)
    |(at_mapUpdate;refine Rh _ rfl _ _ _ rfl w.heap.size j ks (u.alloc _) (l[j]'a).name g.out t.out v.out rfl rfl m n.out rfl ?_;intro X f b;obtain⟨o,C,p⟩:=jL b y;have f0:=o 0 _ rfl;have f1:=o 1 _ rfl;clear o)
    |(go_at_call 181;refine(R.out _).mono ?_;rintro e V ⟨rfl,d⟩;obtain⟨J,H⟩:=aJ d)
    |(go_at_call 217;refine(L.out _).mono ?_;rintro e M ⟨rfl,rfl⟩))
     go_ret
     exact⟨aC z.out,(T.trans p).trans (d.mono (by omega))⟩
  ·have z:=Hp ((yO (most:=most) a).symm.trans S.out)
   go_wp2_with fail
   go_ret
   exact⟨aC z.out,T.out⟩
end
section
open Go.RowKit
theorem Uy {z ni e:Int}{p:Pat}(h:aK p.kind=0):iM z ni e p=7:=by unfold iM;rw[if_pos h]
theorem UZ {z ni e:Int}{p:Pat}(h:aK p.kind≠0)(a:p.sym< -1\/ni<=p.sym\/p.add<0\/65535<p.add\/p.at_<0\/z -aK p.kind<p.at_):iM z ni e p=3:=by
 unfold iM;rw[if_neg h,if_pos a]
theorem vZ {z ni e:Int}{p:Pat}(h:aK p.kind≠0)(b:¬(p.sym< -1\/ni<=p.sym\/p.add<0\/65535<p.add\/p.at_<0\/z -aK p.kind<p.at_))(a:p.at_<e):iM z ni e p=4:=by
 unfold iM;rw[if_neg h,if_neg b,if_pos a]
theorem Df {z ni e:Int}{p:Pat}(h:aK p.kind≠0)(b:¬(p.sym< -1\/ni<=p.sym\/p.add<0\/65535<p.add\/p.at_<0\/z -aK p.kind<p.at_))(a:¬p.at_<e):iM z ni e p=0:=by
 unfold iM;rw[if_neg h,if_neg b,if_neg a]
theorem VK (k:Int):aK k=0\/(2<=aK k/\aK k<=4):=by
 rcases Rf k with h|h|h|h|h|h<;>omega
theorem Gm (nm tx:ByteArray)(mj mn:Int)(eA U P:Option Addr)(el eC c T S:Nat)(l:List Pat)(w:World)(h:pJ w P l)(ht:tx.size<=big)(hi:c<=big):
  Calls Tryz.prog 184 #[.agg #[.string nm,.int .i64 mj,.int .i64 mn,.string tx,.slice eA el eC,.slice U c T,.slice P l.length S]] w fun e t=>
   e=.returned (.int .i64 (Rp tx.size c 0 l))/\Below w.heap.size w t:=by
 obtain⟨hr,hl⟩:=h
 unfold big at hl ht hi
 have HR:=Hp hr
 clear hr
 obtain⟨J,g⟩:=Nm (w.alloc (.cells #[.string nm,.int .i64 mj,.int .i64 mn,.string tx,.slice eA el eC,.slice U c T,.slice P l.length S] 70))
 have D:=Hp (show Below w.heap.size w J from g▸ZB)
 have k3:=Hp (show J.cell? ⟨w.heap.size,3,none⟩=some (.string tx) by rw[g,World.cell?_alloc_new];rfl)
 have k5:=Hp (show J.cell? ⟨w.heap.size,5,none⟩=some (.slice U c T) by rw[g,World.cell?_alloc_new];rfl)
 have k6:=Hp (show J.cell? ⟨w.heap.size,6,none⟩=some (.slice P l.length S) by rw[g,World.cell?_alloc_new];rfl)
 have V:=Hp (show J.heap.size=w.heap.size+1 by rw[g];simp)
 have HW:=Hp g
 clear g
 go_enter Tryz.func184,Tryz.ntmps184
 go_wp2_with fail
 rw[<-HW.out]
 clear HW
 go_loopw [3,10] (fun e i wr=>∃(j:Nat)(m:Int),j<=l.length/\i=.int .i64 j/\e=.int .i64 m/\0<=m/\m<=140737488351236/\kK tx.size c l j m=Rp tx.size c 0 l/\Below (w.heap.size+1) J wr) (fun _ i _=>l.length -(intOf i).toNat)
 case atStart=>exact⟨0,0,by omega,rfl,rfl,by omega,by omega,rfl,GZ4 _ _⟩
 case round=>
  obtain⟨j,m,hj,rfl,rfl,a7,a6,hE,G⟩:=hrel
  have HE:=Hp hE
  have C:=Hp G
  clear hE
  have g3:=(G.cell (p:=⟨w.heap.size,3,none⟩) (by simp)).trans k3.out
  have g5:=(G.cell (p:=⟨w.heap.size,5,none⟩) (by simp)).trans k5.out
  have a4:w.heap.size<wr.heap.size:=by have:=G.size;have:=V.out;omega
  by_cases u:j<l.length
  ·have a2:(j:Int)<l.length:=by omega
   obtain⟨ad,rfl,a8,h0,y,K,h3⟩:=qE HR.out (D.trans (G.mono (by omega))) j u
   clear G
   obtain⟨p,X⟩:=Nm (l[j])
   have F:=Hp (fun h=>(Ub (z:=tx.size) (ni:=c) (e:=m) u h).symm.trans HE.out)
   have hx:=Hp (fun h=>(tO (z:=tx.size) (ni:=c) (e:=m) u h).trans HE.out)
   rw[<-X]at h0 y K h3 F hx
   have HP:=Hp X
   clear X
   obtain⟨x,at_,v,f⟩:=p
   simp only at h0 y K h3
   obtain⟨k,Q⟩:=Nm (aK x)
   have A:=Hp (fun W=>gP x W)
   rw[<-Q]at A
   have O:=VK x
   rw[<-Q]at O
   have R:=Hp Q
   clear Q
   have qk:wrap64 ((c:Int) -1)=c -1:=IntWalk.wrap64_in _ (by omega)
   have qz:wrap64 ((tx.size:Int) -k)=tx.size -k:=IntWalk.wrap64_in _ (by omega)
   rcases O with h5|⟨h5,h6⟩
   ·obtain rfl:=h5
    have b:=Hp (Uy (z:=tx.size) (ni:=c) (e:=m) (p:=⟨x,at_,v,f⟩) R.symm)
    have s:=Hp ((b.symm).trans (F.out (by rw[b.out];omega)))
    go_wp2_with (first|(go_at_call 235;(with_reducible refine(A.out _).mono ?_);rintro e n ⟨rfl,a⟩;obtain⟨r,q⟩:=aJ a;have o:w.heap.size<n.heap.size:=by have:=a.size;(try simp at this);omega))
    go_ret
    exact⟨aC s.out,D.trans ((C.mono (by omega)).trans (((GZ4 _ _).alloc (by omega) _).trans (a.mono (by simp;omega))))⟩
   ·have a5:(k==0)=false:=by simp;omega
    have E:=Hp (show aK x≠0 by rw[<-R.out];omega)
    have a3:wrap64 (at_+k)=at_+k\/at_<0\/(tx.size:Int) -k<at_:=by
     by_cases a0:at_<0
     ·exact .inr (.inl a0)
     ·by_cases a1:(tx.size:Int) -k<at_
      ·exact .inr (.inr a1)
      ·exact .inl (IntWalk.wrap64_in _ (by omega))
    have d:=Hp (fun y=>(UZ (z:=tx.size) (ni:=c) (e:=m) (p:=⟨x,at_,v,f⟩) E.out y))
    have M:=Hp (fun y K=>(vZ (z:=tx.size) (ni:=c) (e:=m) (p:=⟨x,at_,v,f⟩) E.out y K))
    have N:=Hp (fun y K=>(Df (z:=tx.size) (ni:=c) (e:=m) (p:=⟨x,at_,v,f⟩) E.out y K))
    simp only[<-R.out]at d M N
    by_cases B: -1<=v/\v<=c -1
    ·have H:=Hp (fun W=>TJ v (-1) (c -1) W B.1 B.2)
     by_cases I:0<=f/\f<=65535
     ·have L:=Hp (fun W=>TJ f 0 65535 W I.1 I.2)
      by_cases Z:at_<0
      ·have b:=Hp (d.out (by omega))
       have s:=Hp ((b.symm).trans (F.out (by rw[b.out];omega)))
       clear B I
       go_wp2_with (first|(go_at_call 235;(with_reducible refine(A.out _).mono ?_);rintro e n ⟨rfl,a⟩;obtain⟨r,q⟩:=aJ a;have o:w.heap.size<n.heap.size:=by have:=a.size;(try simp at this);omega)|(go_at_call 217;(with_reducible refine(H.out _).mono ?_);rintro e t ⟨rfl,rfl⟩)|(go_at_call 217;(with_reducible refine(L.out _).mono ?_);rintro e t ⟨rfl,rfl⟩))
       go_ret
       exact⟨aC s.out,D.trans ((C.mono (by omega)).trans (((GZ4 _ _).alloc (by omega) _).trans (a.mono (by simp;omega))))⟩
      ·have b6:decide (at_<0)=false:=by simp;omega
       by_cases b4:(tx.size:Int) -k<at_
       ·have b:=Hp (d.out (by omega))
        have s:=Hp ((b.symm).trans (F.out (by rw[b.out];omega)))
        clear B I Z
        go_wp2_with (first|(go_at_call 235;(with_reducible refine(A.out _).mono ?_);rintro e n ⟨rfl,a⟩;obtain⟨r,q⟩:=aJ a;have o:w.heap.size<n.heap.size:=by have:=a.size;(try simp at this);omega)|(go_at_call 217;(with_reducible refine(H.out _).mono ?_);rintro e t ⟨rfl,rfl⟩)|(go_at_call 217;(with_reducible refine(L.out _).mono ?_);rintro e t ⟨rfl,rfl⟩))
        go_ret
        exact⟨aC s.out,D.trans ((C.mono (by omega)).trans (((GZ4 _ _).alloc (by omega) _).trans (a.mono (by simp;omega))))⟩
       ·have b0:decide ((tx.size:Int) -k<at_)=false:=by simp;omega
        by_cases Y:at_<m
        ·have b:=Hp (M.out (by omega) Y)
         have s:=Hp ((b.symm).trans (F.out (by rw[b.out];omega)))
         clear B I Z b4
         go_wp2_with (first|(go_at_call 235;(with_reducible refine(A.out _).mono ?_);rintro e n ⟨rfl,a⟩;obtain⟨r,q⟩:=aJ a;have o:w.heap.size<n.heap.size:=by have:=a.size;(try simp at this);omega)|(go_at_call 217;(with_reducible refine(H.out _).mono ?_);rintro e t ⟨rfl,rfl⟩)|(go_at_call 217;(with_reducible refine(L.out _).mono ?_);rintro e t ⟨rfl,rfl⟩))
         go_ret
         exact⟨aC s.out,D.trans ((C.mono (by omega)).trans (((GZ4 _ _).alloc (by omega) _).trans (a.mono (by simp;omega))))⟩
        ·have a9:decide (at_<m)=false:=by simp;omega
         have b:=Hp (N.out (by omega) Y)
         have s:=Hp (hx.out b.out)
         have q3:=Hp (show wrap64 (at_+k)=at_+k from IntWalk.wrap64_in _ (by omega))
         have r1:=Hp (show 0<=at_+k/\at_+k<=140737488351236 by omega)
         clear B I Z b4 Y
         go_wp2_with (first|(go_at_call 235;(with_reducible refine(A.out _).mono ?_);rintro e n ⟨rfl,a⟩;obtain⟨r,q⟩:=aJ a;have o:w.heap.size<n.heap.size:=by have:=a.size;(try simp at this);omega)|(go_at_call 217;(with_reducible refine(H.out _).mono ?_);rintro e t ⟨rfl,rfl⟩)|(go_at_call 217;(with_reducible refine(L.out _).mono ?_);rintro e t ⟨rfl,rfl⟩))
         go_roundw
         case rel=>exact⟨j+1,at_+k,by omega,by go_num,by rw[q3.out],r1.out.1,r1.out.2,by rw[R.out];exact s.out,C.trans (((GZ4 _ _).alloc (by omega) _).trans (a.mono (by simp;omega)))⟩
         case measure=>(simp[intOf];try omega)
     ·have L:=Hp (fun W=>mV f 0 65535 W (by omega))
      have b:=Hp (d.out (by omega))
      have s:=Hp ((b.symm).trans (F.out (by rw[b.out];omega)))
      clear B I
      go_wp2_with (first|(go_at_call 235;(with_reducible refine(A.out _).mono ?_);rintro e n ⟨rfl,a⟩;obtain⟨r,q⟩:=aJ a;have o:w.heap.size<n.heap.size:=by have:=a.size;(try simp at this);omega)|(go_at_call 217;(with_reducible refine(H.out _).mono ?_);rintro e t ⟨rfl,rfl⟩)|(go_at_call 217;(with_reducible refine(L.out _).mono ?_);rintro e t ⟨rfl,rfl⟩))
      go_ret
      exact⟨aC s.out,D.trans ((C.mono (by omega)).trans (((GZ4 _ _).alloc (by omega) _).trans (a.mono (by simp;omega))))⟩
    ·have H:=Hp (fun W=>mV v (-1) (c -1) W (by omega))
     have b:=Hp (d.out (by omega))
     have s:=Hp ((b.symm).trans (F.out (by rw[b.out];omega)))
     clear B
     go_wp2_with (first|(go_at_call 235;(with_reducible refine(A.out _).mono ?_);rintro e n ⟨rfl,a⟩;obtain⟨r,q⟩:=aJ a;have o:w.heap.size<n.heap.size:=by have:=a.size;(try simp at this);omega)|(go_at_call 217;(with_reducible refine(H.out _).mono ?_);rintro e t ⟨rfl,rfl⟩))
     go_ret
     exact⟨aC s.out,D.trans ((C.mono (by omega)).trans (((GZ4 _ _).alloc (by omega) _).trans (a.mono (by simp;omega))))⟩
  ·have b:=Hp ((vN (z:=tx.size) (ni:=c) (e:=m) u).symm.trans HE.out)
   clear G
   go_wp2_with fail
   go_ret
   exact⟨aC b.out,D.trans (C.mono (by omega))⟩
end
end Go.Proofs.YtjiedaialianmaaGreat
