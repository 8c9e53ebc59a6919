import Derived.Test.YtjiedaialianmaaGreatA02
import Derived.Test.YtjiedaialianmaaGreatA03
import Derived.Test.YtjiedaialianmaaGreatA04
import Derived.Shelf.Slices.In.CompactS
import Derived.Lib.OwnBridge
import Derived.Laws.CopyOwn
import Derived.Deep.OwnRows
namespace Go.Proofs.YtjiedaialianmaaGreat
section
open Go.ChangeShapes Go.WideShapes Go.ChangeAt Go.RowKit Go.Deep
def Fits {H:Type}(P:Program)(t:TypeId)(d:DataW H):Prop:=(d.weights P t).all (· <=reachBytes)=true
section
variable {H:Type} {enc:TypeId×Value->H} {P:Program} {w:World} {base:Nat} {spare:Nat->Bool} {held:Bool}
theorem fF {a:List TypeId}{b:List (DataW H)}(h:(DataW.weightsEach P a b).all (· <=reachBytes)=true){j:Nat}{t:TypeId}{d:DataW H}(c:a[j]? =some t)(f:b[j]? =some d):Fits P t d:=by
 unfold Fits
 rw[List.all_eq_true]at h ⊢
 exact fun n e=>h n (DataW.weights_mem_each c f n e)
theorem oW {t:TypeId}{b:Array Field}{a:List (DataW H)}(c:P.underlying t=some (.struct b))(h:Fits P t (.agg a)){j:Nat}{f:Field}{d:DataW H}(e:b[j]? =some f)(g:a[j]? =some d):Fits P f.type d:=by
 unfold Fits at h
 simp only[DataW.weights,c]at h
 exact fF h (j:=j) (by rw[List.getElem?_map];simp[e]) g
theorem fits_string {t:TypeId}{l:List UInt8}(h:Fits P t (.lit (.string l):DataW H)):l.length<=reachBytes:=by
 simpa[Fits,DataW.weights]using h
theorem pY {e:TypeId}{x:DataW H}{n:Nat}:∀{l:List (DataW H)},x∈l->n∈x.weights P e->n∈DataW.weightsAll P e l
 |d::r,a,hn=>by
  simp only[DataW.weightsAll,List.mem_append]
  rcases List.mem_cons.1 a with rfl|a
  ·exact .inl hn
  ·exact .inr (pY a hn)
theorem VR {t e:TypeId}{a b:List (DataW H)}(d:P.underlying t=some (.slice e))(h:Fits P t (.slice a b)):(a.length+b.length)*P.bytesOf e<=reachBytes/\∀x∈a,Fits P e x:=by
 unfold Fits at h
 simp only[DataW.weights,d,List.all_cons,Bool.and_eq_true,decide_eq_true_eq,List.all_append]at h
 refine⟨h.1,fun x c=>?_⟩
 unfold Fits
 rw[List.all_eq_true]
 exact fun n f=>List.all_eq_true.1 h.2.1 n (pY c f)
theorem Oy {w:World}{a:Addr}{v:Value}(h:w.cell? a=some v):a.block<w.heap.size:=by
 rcases Nat.lt_or_ge a.block w.heap.size with b|c
 ·exact b
 ·unfold World.cell? at h;rw[Array.getElem?_eq_none c]at h;cases h
theorem row_of {α:Type}(enc:α->List Value)(k:Nat)(d:∀x,(enc x).length=k)(c:0<k)(Q:α->Prop)(a:Addr)(b:Nat)
  (h:∀i,i<b->∃x,Q x/\∀j,j<k->w.cell? ((a.add (i*k)).add j)=(enc x)[j]?):∃l:List α,l.length=b/\(∀x∈l,Q x)/\Row enc k w (some a) l:=by
 have v:∃f:Fin b->α,∀i,Q (f i)/\∀j,j<k->w.cell? ((a.add (i.val*k)).add j)=(enc (f i))[j]?:=
  ⟨fun i=>Classical.choose (h i.val i.isLt),fun i=>Classical.choose_spec (h i.val i.isLt)⟩
 obtain⟨f,m⟩:=v
 refine⟨List.ofFn f,by simp,fun x s=>?_,?_⟩
 ·obtain⟨i,rfl⟩:=List.mem_ofFn.1 s
  exact(m i).1
 ·refine⟨by rw[flat_length d],fun z=>?_⟩
  have o:(List.ofFn f).length=b:=by simp
  have y:0<b:=by omega
  refine⟨a,rfl,?_,fun j u g=>?_⟩
  ·have:=(m ⟨0,y⟩).2 0 c
   rw[GY5 (by rw[d];exact c)]at this
   have:=Oy this
   rwa [aA,aA]at this
  ·have t:j<b*k:=by
    rcases Nat.lt_or_ge j (b*k)with h|h
    ·exact h
    ·rw[List.getElem?_eq_none (by rw[flat_length d,o];exact h)]at g;cases g
   have p:j / k<b:=Nat.div_lt_of_lt_mul (by rw[Nat.mul_comm];exact t)
   have n:j % k<k:=Nat.mod_lt _ c
   have e:j=(j / k)*k+j % k:=by rw[Nat.mul_comm];exact(Nat.div_add_mod j k).symm
   have r:=(m ⟨j / k,p⟩).2 (j % k) n
   have q:=flat_get d (List.ofFn f) (j / k) (j % k) (by rw[o];exact p) n
   rw[<-e]at q
   rw[VJ,<-e]at r
   rw[r,<-g,q]
   simp
end
theorem Cq :reachBytes=big:=by rfl
section
variable {H:Type} {enc:TypeId×Value->H} {w:World} {base:Nat} {spare:Nat->Bool} {held:Bool} {n:Nat} {c:Value} {y:DataW H×List MemPlace}
theorem nD (h:DataW.trod enc Tryz.prog w base spare held n 9 [c]=some y):∃s:ByteArray,c=.string s/\(Fits Tryz.prog 9 y.1->s.size<=big):=by
 obtain⟨s,e,rfl,_⟩:=DataW.trod_string Tryz.underlying9 h
 simp only[List.cons.injEq,and_true]at e
 exact⟨s,e,fun a=>by have:=fits_string a;rw[Cq]at this;simpa using this⟩
theorem SI (h:DataW.trod enc Tryz.prog w base spare held n 3 [c]=some y):∃a:Int,c=iv a:=by
 obtain⟨a,e,rfl,_⟩:=DataW.trod_int Tryz.underlying3 h
 simp only[List.cons.injEq,and_true]at e
 exact⟨a,e⟩
end
theorem OZ {H:Type}{enc:TypeId×Value->H}{P:Program}{w:World}{base:Nat}{spare:Nat->Bool}{held:Bool}{t e:TypeId}{n:Nat}{c:Value}{y:DataW H×List MemPlace}
  (q:P.underlying t=some (.slice e)) (v:0<P.bytesOf e) (k:Nat) (G:P.cellsOf e=k) (h:DataW.trod enc P w base spare held n t [c]=some y):
  ∃(A:Option Addr)(b f:Nat),c=.slice A b f/\(Fits P t y.1->b<=big)/\(A=none->b=0)/\∀a,A=some a->∀i,i<b->∃(d:List Value)(o:Nat)(z:DataW H×List MemPlace),d.length=k/\
   (∀j,j<k->w.cell? ((a.add (i*k)).add j)=d[j]?)/\DataW.trod enc P w base spare held o e d=some z/\(Fits P t y.1->Fits P e z.1):=by
 rcases open_slice q h with⟨l,rfl⟩|⟨a,b,f,m,o,D,L,l,_,J,_,E,rfl,F⟩
 ·simp only[List.cons.injEq,and_true]at l
  exact⟨none,0,0,l,fun _=>Nat.zero_le _,fun _=>rfl,fun a g=>absurd g (by simp)⟩
 ·simp only[List.cons.injEq,and_true]at l
  refine⟨some a,b,f,l,fun s=>?_,fun g=>absurd g (by simp),fun I g i r=>?_⟩
  ·have C:=(VR q s).1
   rw[Cq]at C
   simp only[List.length_map,List.length_range]at C
   have K:(b+(m -b))*1<=(b+(m -b))*P.bytesOf e:=Nat.mul_le_mul_left _ v
   omega
  ·obtain rfl:a=I:=GY3 g
   obtain⟨d,B,p⟩:=F i (by rw[E];split<;>omega)
   rw[G]at B
   obtain⟨_,u,x⟩:=World.cells?_some B
   exact⟨d,o,_,u,x,p,fun s=>(VR q s).2 (D i) (List.mem_map.2 ⟨i,List.mem_range.2 r,rfl⟩)⟩
theorem lL (cs:List Value)(j:Nat)(h:j<cs.length):(cs.drop j).take 1=[cs[j]]:=by
 rw[GY4 h];rfl
theorem SV {H:Type}{enc:TypeId×Value->H}{P:Program}{w:World}{base:Nat}{spare:Nat->Bool}{held:Bool}{t:TypeId}{b:Array Field}{n:Nat}{cs:List Value}{y:DataW H×List MemPlace}
  (m:P.underlying t=some (.struct b)) (a:oneCellFields P b=true) (o:cs.length=b.size) (h:DataW.trod enc P w base spare held n t cs=some y):
  ∀(j:Nat)(f:Field)(c:Value),b[j]? =some f->cs[j]? =some c->∃e z,DataW.trod enc P w base spare held e f.type [c]=some z/\(Fits P t y.1->Fits P f.type z.1):=by
 intro j f c d p
 obtain⟨k,e,_,rfl,_,r,u⟩:=DataW.trod_struct m h
 obtain⟨q,s⟩:=hone_of a j f d
 have v:j<b.size:=(ZL d)
 have i:=u j f d
 rw[q,s,lL cs j (by omega)]at i
 have l:k[j]? =some (k[j]'(by omega)):=GY5 (by omega)
 have g:cs[j]'(by omega)=c:=by rw[GY5 (by omega)]at p;exact GY3 p
 rw[g,l]at i
 exact⟨e,_,i,fun hF=>oW m hF d (by rw[List.getElem?_map,l];rfl)⟩
section
variable {H:Type} {enc:TypeId×Value->H} {w:World} {base:Nat} {spare:Nat->Bool} {held:Bool} {n:Nat} {c:Value} {cs:List Value} {y:DataW H×List MemPlace}
theorem open_row {α:Type}(b:α->List Value)(k:Nat)(F:∀x,(b x).length=k)(p:0<k)(Q:α->Prop){t e:TypeId}(v:Tryz.prog.underlying t=some (.slice e))(s:0<Tryz.prog.bytesOf e)(K:Tryz.prog.cellsOf e=k)
  (J:∀(d:List Value)(j:Nat)(z:DataW H×List MemPlace),d.length=k->DataW.trod enc Tryz.prog w base spare held j e d=some z->Fits Tryz.prog e z.1->∃x:α,d=b x/\Q x)
  (h:DataW.trod enc Tryz.prog w base spare held n t [c]=some y) (hF:Fits Tryz.prog t y.1):∃(A:Option Addr)(l:List α)(f:Nat),c=.slice A l.length f/\l.length<=big/\(∀x∈l,Q x)/\Row b k w A l:=by
 obtain⟨A,m,f,rfl,E,D,q⟩:=OZ v s k K h
 cases A with
 |none=>
  obtain rfl:=D rfl
  exact⟨none,[],f,rfl,Nat.zero_le _,by simp,Row.nil⟩
 |some a=>
  obtain⟨l,rfl,C,B⟩:=row_of (w:=w) b k F p Q a m fun i G=>by
   obtain⟨d,j,z,r,g,o,I⟩:=q a rfl i G
   obtain⟨x,rfl,u⟩:=J d j z r o (I hF)
   exact⟨x,u,g⟩
  exact⟨some a,l,f,rfl,E hF,C,B⟩
theorem Tryz.Ff :Tryz.prog.cellsOf 3=1:=by kernel_rfl
theorem Tryz.yZ :Tryz.prog.cellsOf 70=7:=by kernel_rfl
theorem Tryz.yK :Tryz.prog.cellsOf 24=3:=by kernel_rfl
theorem Qw {l:List Value}(h:l.length=2):∃a b,l=[a,b]:=by
 match l,h with| [a,b],_=>exact⟨a,b,rfl⟩
theorem O5 {l:List Value}(h:l.length=4):∃a b c d,l=[a,b,c,d]:=by
 match l,h with| [a,b,c,d],_=>exact⟨a,b,c,d,rfl⟩
theorem Qj {l:List Value}(h:l.length=7):∃a b c d e f g,l=[a,b,c,d,e,f,g]:=by
 match l,h with| [a,b,c,d,e,f,g],_=>exact⟨a,b,c,d,e,f,g,rfl⟩
theorem OI (e:cs.length=2)(h:DataW.trod enc Tryz.prog w base spare held n 159 cs=some y)(hF:Fits Tryz.prog 159 y.1):∃x:Exp,cs=x.cells/\x.name.size<=big:=by
 obtain⟨a,b,rfl⟩:=Qw e
 have c:=SV Tryz.underlying159 (by kernel_rfl) rfl h
 obtain⟨_,_,g,i⟩:=c 0 _ _ rfl rfl
 obtain⟨_,_,f,_⟩:=c 1 _ _ rfl rfl
 obtain⟨s,rfl,d⟩:=nD g
 obtain⟨z,rfl⟩:=SI f
 exact⟨⟨s,z⟩,rfl,d (i hF)⟩
theorem O6 (i:cs.length=4)(h:DataW.trod enc Tryz.prog w base spare held n 173 cs=some y)(hF:Fits Tryz.prog 173 y.1):∃x:Imp,cs=x.cells/\x.mod.size<=big/\x.name.size<=big:=by
 obtain⟨a,b,c,d,rfl⟩:=O5 i
 have e:=SV Tryz.underlying173 (by kernel_rfl) rfl h
 obtain⟨_,_,m,p⟩:=e 0 _ _ rfl rfl
 obtain⟨_,_,l,o⟩:=e 1 _ _ rfl rfl
 obtain⟨_,_,k,_⟩:=e 2 _ _ rfl rfl
 obtain⟨_,_,j,_⟩:=e 3 _ _ rfl rfl
 obtain⟨s,rfl,g⟩:=nD m
 obtain⟨t,rfl,f⟩:=nD l
 obtain⟨z,rfl⟩:=SI k
 obtain⟨u,rfl⟩:=SI j
 exact⟨⟨s,t,z,u⟩,rfl,g (p hF),f (o hF)⟩
theorem M9 (f:cs.length=4)(h:DataW.trod enc Tryz.prog w base spare held n 180 cs=some y)(_:Fits Tryz.prog 180 y.1):∃x:Pat,cs=x.cells/\True:=by
 obtain⟨a,b,c,d,rfl⟩:=O5 f
 have e:=SV Tryz.underlying180 (by kernel_rfl) rfl h
 obtain⟨_,_,k,m⟩:=e 0 _ _ rfl rfl
 obtain⟨_,_,j,l⟩:=e 1 _ _ rfl rfl
 obtain⟨_,_,i,_⟩:=e 2 _ _ rfl rfl
 obtain⟨_,_,g,_⟩:=e 3 _ _ rfl rfl
 obtain⟨s,rfl⟩:=SI k
 obtain⟨t,rfl⟩:=SI j
 obtain⟨z,rfl⟩:=SI i
 obtain⟨u,rfl⟩:=SI g
 exact⟨⟨s,t,z,u⟩,rfl,trivial⟩
theorem Ud (h:DataW.trod enc Tryz.prog w base spare held n 22 [c]=some y)(hF:Fits Tryz.prog 22 y.1):∃(A:Option Addr)(l:List Exp)(a:Nat),c=.slice A l.length a/\Sj w A l:=by
 obtain⟨A,l,a,e,j,i,g⟩:=open_row Exp.cells 2 (fun _=>rfl) (by omega) (fun x=>x.name.size<=big) Tryz.underlying22 (by decide+kernel) (by kernel_rfl) (fun _ _ _ d b f=>OI d b f) h hF
 exact⟨A,l,a,e,g,j,i⟩
theorem Kt (h:DataW.trod enc Tryz.prog w base spare held n 67 [c]=some y)(hF:Fits Tryz.prog 67 y.1):∃(A:Option Addr)(l:List Imp)(a:Nat),c=.slice A l.length a/\TC w A l:=by
 obtain⟨A,l,a,e,j,i,g⟩:=open_row Imp.cells 4 (fun _=>rfl) (by omega) (fun x=>x.mod.size<=big/\x.name.size<=big) Tryz.underlying67 (by decide+kernel) (by kernel_rfl) (fun _ _ _ d b f=>O6 d b f) h hF
 exact⟨A,l,a,e,g,j,i⟩
theorem MJ (h:DataW.trod enc Tryz.prog w base spare held n 68 [c]=some y)(hF:Fits Tryz.prog 68 y.1):∃(A:Option Addr)(l:List Pat)(a:Nat),c=.slice A l.length a/\pJ w A l:=by
 obtain⟨A,l,a,e,i,j,g⟩:=open_row Pat.cells 4 (fun _=>rfl) (by omega) (fun _=>True) Tryz.underlying68 (by decide+kernel) (by kernel_rfl) (fun _ _ _ d b f=>M9 d b f) h hF
 exact⟨A,l,a,e,g,i⟩
end
end
section
open Go.RowKit
def strCells (s:ByteArray):List Value:=[.string s]
structure jK (w:World)(A:Option Addr)(l:List ByteArray):Prop where
 row:Row strCells 1 w A l
 len:l.length<=big
 each:∀s∈l,s.size<=big
theorem jK.below {w w':World}{A:Option Addr}{l:List ByteArray}(h:jK w A l)(a:Below w.heap.size w w'):jK w' A l:=⟨h.row.below a,h.len,h.each⟩
theorem nT {w c:World}{A:Option Addr}{l:List ByteArray}(h:Row strCells 1 w A l)(g:Below w.heap.size w c)(i:Nat)(e:i<l.length):
  ∃b,A=some b/\b.block<w.heap.size/\c.cell? (b.add i)=some (.string l[i]):=by
 obtain⟨b,rfl,a,f⟩:=Row.at_ (enc:=strCells) (k:=1) (fun _=>rfl) h i e
 have d:=f 0 _ rfl
 rw[add_zero_,Nat.mul_one]at d
 exact⟨b,rfl,a,(g.cell (by rw[aA];exact a)).trans d⟩
theorem Ui {w a:World}{b:Value}{t:TypeId}(h:a=w.alloc (.cells #[b] t)):a.cell? ⟨w.heap.size,0,none⟩=some b/\a.heap.size=w.heap.size+1/\Below w.heap.size w a:=by
 subst h
 refine⟨by rw[World.cell?_alloc_new];rfl,by simp,ZB⟩
def dA (w:World)(a:Nat)(v:Value)(l:List ByteArray):Prop:=w.ownsRow a 9 1 v l.length (l.map Value.string)
theorem rZ (l:List ByteArray):l.map Value.string=l.flatMap strCells:=by
 induction l with
 |nil=>rfl
 |cons x l ih=>simp[List.flatMap_cons,<-ih,strCells]
theorem dA.form {w:World}{a:Nat}{v:Value}{l:List ByteArray}(h:dA w a v l):∃(A:Option Addr)(c:Nat),v=.slice A l.length c/\Row strCells 1 w A l/\l.length<=c:=by
 have d:=h
 rcases h.2 with⟨rfl,e⟩|⟨g,b,j,rfl,m,k,i,_⟩
 ·rw[e]
  refine⟨none,0,rfl,?_,GZ3 _⟩
  have:=Reads.of_own (show w.ownsRow a 9 1 (.slice none 0 0) 0 (l.map Value.string) from by
   have f:=d.1
   exact⟨by rw[f,e],.inl ⟨rfl,rfl⟩⟩)
  rw[rZ]at this
  unfold Row;rw[e];exact this
 ·refine⟨some ⟨g,0,none⟩,b,rfl,?_,i⟩
  have:=Reads.of_own d
  rwa [rZ]at this
theorem dA.nil (w:World)(a:Nat):dA w a (.slice none 0 0) []:=World.ownsRow_nil _ _ _ _
theorem dA.below {w w':World}{a B:Nat}{v:Value}{l:List ByteArray}(h:dA w a v l)(i:Below B w w')(o:w.heap.size<=B):dA w' a v l:=by
 refine⟨h.1,?_⟩
 rcases h.2 with j|⟨g,f,e,n,m,d,k⟩
 ·exact .inl j
 ·refine .inr ⟨g,f,e,n,m,?_,k⟩
  have:g<w.heap.size:=by
   rcases Nat.lt_or_ge g w.heap.size with b|c
   ·exact b
   ·rw[Array.getElem?_eq_none c]at d;cases d
  rw[i.block g (by omega)];exact d
theorem dA.at_ {w:World}{base:Nat}{A:Option Addr}{n c:Nat}{l:List ByteArray}(h:dA w base (.slice A n c) l)(r:n=l.length)(i:Nat)(t:i<n):
  ∃g,A=some ⟨g,0,none⟩/\base<=g/\g<w.heap.size/\w.cell? ⟨g,i,none⟩=some (.string (l.getD i ⟨#[]⟩))/\w.frozen? ⟨g,i,none⟩=false/\∀s,dA (w.setCell ⟨g,i,none⟩ (.string s)) base (.slice A n c) (l.set i s):=by
 subst r
 obtain⟨v,u⟩:=h
 rcases u with⟨_,x⟩|⟨g,o,a,q,p,e,j,m,f,d⟩
 ·omega
 injection q with ha hk hc
 subst ha
 have k:a.toList[i]? =some (.string (l.getD i ⟨#[]⟩)):=by
  have:(a.toList.take (l.length*1))[i]? =some (.string (l.getD i ⟨#[]⟩)):=by
   rw[d,List.getElem?_map,List.getD_eq_getElem?_getD,GY5 t];rfl
  rwa [List.getElem?_take_of_lt (by omega)]at this
 have b:w.cell? ⟨g,i,none⟩=some (.string (l.getD i ⟨#[]⟩)):=by
  simp only[World.cell?,e]
  simpa using k
 refine⟨g,rfl,p,(ZL e),b,frozen_of_row _ _ _ _ _ e,fun s=>?_⟩
 refine⟨by simp,.inr ⟨g,o,a.setIfInBounds i (.string s),?_,p,heap_setCell_same w g _ a _ _ e,?_,m,by simpa using f,?_⟩⟩
 ·rw[<-hc];simp
 ·simpa using j
 ·rw[Array.toList_setIfInBounds,List.take_set,List.length_set,d,<-List.map_set]
theorem Tryz.zQ :(Tryz.prog.info? 9).map (fun i=>(i.zero,i.size,i.bytes))=some (some (.string ⟨#[]⟩),1,16):=by kernel_rfl
theorem JX (W:World){j:Array Oper}{c:List Oper}{o:Oper}{a:Act}{Q:Exit->Act->World->Prop}(t:o.guard=none)(s x:Operand)
  (B:o.op=.call {callee:=.builtin .append,args:=#[s,x],argTypes:=#[27,27]}) (b:Nat) (v:Value) (k:List ByteArray) (n:ByteArray) (A:a.eval s=v)
  (z:a.eval x=.slice (some ⟨W.heap.size,0,none⟩) 1 1) (d:dA W b v k) (F:k.length<=1000000) (i:b<=W.heap.size)
  (h:∀l m,dA m b l (k++[n])->Below b W m->wpList Tryz.prog j Q c (a.put o.dst l) m):wpList Tryz.prog j Q (o::c) a (W.alloc (.cells #[.string n] 9)):=by
 obtain⟨y,C,r,q,p⟩:=info_parts Tryz.zQ
 refine wpList_append_own_at (W.alloc (.cells #[.string n] 9)) t s x 27 B b 9 y (.string ⟨#[]⟩) 1 16 Tryz.underlying27 C r q p rfl (by decide) v k.length (k.map Value.string) A (d.alloc _) ⟨W.heap.size,0,none⟩ 1 1 [.string n] z rfl
  (cell_one_new _ _ _) (by simp[Value.oneCell']) (by simp only[maxLen];omega) (by omega) (by simp;omega) ?_
 intro l w e f _ _
 refine h l w ?_ (((GZ4 b W).alloc i _).grown f (by simp;omega) (fun g u=>by
  rcases d.2 with⟨rfl,_⟩|⟨G,E,D,rfl,H,_⟩
  ·simp[Value.ownBlock]at u
  ·simp[Value.ownBlock]at u;omega))
 unfold dA
 simpa using e
end
section
open Go.RowKit Go.Shelf Go.Sort
theorem MQ {w:World}{b n:Nat}{e:TypeId}{v:Value}{d:List (List UInt8)}(a:w.ownsRow b e 1 v n (d.map encStr))(t:n<=big):
  Calls Tryz.prog 219 #[v] w fun x j=>x=.returned (.tuple #[])/\j.ownsRow b e 1 v n ((Gs.Sd d).map encStr)/\w.grownBy j v.ownBlock:=by
 unfold big at t
 by_cases q:v=.slice none 0 0
 ·subst q
  have o:n=0:=by
   rcases a.2 with⟨_,h⟩|⟨g,i,p,h,_⟩
   ·exact h
   ·cases h
  subst o
  have s:d=[]:=by
   have:=a.1;simp at this;exact this
  subst s
  refine(Tryz.slices_Sort_string_none none 0 w).mono ?_
  rintro x j ⟨rfl,rfl⟩
  exact⟨rfl,by simpa[Gs.Sd]using a,World.grownBy.refl _ _⟩
 ·obtain⟨g,i,rfl,y,m,l,u,f,A⟩:=Lib.holds_of_ownsRow a q
  subst f
  refine(Tryz.slices_Sort_string g 0 i d w A m (by omega)).mono ?_
  rintro x j ⟨rfl,F,E,rfl⟩
  rcases a.2 with⟨o,_⟩|⟨H,r,p,k,c,z,D,C,B,G⟩
  ·cases o
  cases k
  exact⟨rfl,ownsRow_sorted (ts:=Gs.Sd d) (Gs.SN d).length_eq c z D C B,grownBy_sorted _⟩
theorem yF {w:World}{g n:Nat}(d:Array (List UInt8)):w.grownBy (putRow encStr (Sort.ahead w n) g 0 d) (some g):=by
 refine⟨rfl,rfl,rfl,by simp[putRow,mapBlock,Sort.ahead],fun k b a=>?_⟩
 have:g≠k:=fun e=>a (by rw[e])
 simp[putRow,mapBlock,Sort.ahead,Array.getElem?_modify,this]
theorem F6 {w:World}{f n:Nat}{e:TypeId}{v:Value}{i:List (List UInt8)}(a:w.ownsRow f e 1 v n (i.map encStr)):
  Calls Tryz.prog 218 #[v] w fun x j=>(∃A c,x=.returned (.slice A (Lib.compact i).length c))/\w.grownBy j v.ownBlock:=by
 by_cases m:v=.slice none 0 0
 ·subst m
  have t:n=0:=by
   rcases a.2 with⟨_,h⟩|⟨g,d,u,h,_⟩
   ·exact h
   ·cases h
  subst t
  have o:i=[]:=by
   have:=a.1;simp at this;exact this
  subst o
  refine(Tryz.slices_Compact_string_empty none 0 w).mono ?_
  rintro x j ⟨rfl,rfl⟩
  exact⟨⟨_,_,rfl⟩,World.grownBy.refl _ _⟩
 ·obtain⟨g,d,rfl,r,p,k,l,b,s⟩:=Lib.holds_of_ownsRow a m
  subst b
  unfold maxLen at l
  refine(Tryz.slices_Compact_string g 0 d i w s (by omega) (by omega)).mono ?_
  rintro x j ⟨rfl,q,rfl⟩
  exact⟨⟨_,_,rfl⟩,yF _⟩
end
section
open Go.RowKit
theorem iW {w:World}{a size n:Nat}{e:TypeId}{v:Value}{c:List Value}(h:w.ownsRow a e size v n c):∀g,v.ownBlock=some g->a<=g:=by
 intro g b
 rcases h.2 with⟨rfl,_⟩|⟨i,f,d,rfl,j,_⟩
 ·simp[Value.ownBlock]at b
 ·simp[Value.ownBlock]at b;omega
theorem bG {w:World}{a size n:Nat}{e:TypeId}{v:Value}{b:List Value}(h:w.ownsRow a e size v n b):∃(A:Option Addr)(c:Nat),v=.slice A n c:=by
 rcases h.2 with⟨rfl,rfl⟩|⟨g,f,d,rfl,_⟩
 ·exact⟨_,_,rfl⟩
 ·exact⟨_,_,rfl⟩
section
variable {P:Program} (w:World)
theorem wX (b:Nat)(t k e:TypeId)(i:TypeInfo)(size:Nat)(f:P.underlying t=some (.slice e))(h:P.info? e=some i)
  (v:Value) (n:Nat) (j:List Value) (a:w.ownsRow b e size v n j) (c:Nat):(Builtin.append_ #[t,t] k #[v,.slice none 0 c]).run P w=.ok v w:=by
 rcases a.2 with⟨rfl,rfl⟩|⟨g,m,l,rfl,_,_,d,_⟩
 ·simp[Builtin.append_,run_underlying f,sizeOf,typeInfo,h,Builtin.lenOf,Builtin.firstCells]
 ·simp[Builtin.append_,run_underlying f,sizeOf,typeInfo,h,Builtin.lenOf,Builtin.firstCells,d,storeCells]
theorem Af (b:Nat)(t C e:TypeId)(i:TypeInfo)(z:Value)(size d:Nat)(K:P.underlying t=some (.slice e))(L:P.info? e=some i)(M:i.zero=some z)
  (l:i.size=size) (G:i.bytes=d) (D:z.cells.size=size) (E:0<size)
  (v:Value) (n:Nat) (y:List Value) (f:w.ownsRow b e size v n y)
  (B:Nat) (A:Option Addr) (m c:Nat) (a:List Value) (x:Reads w B size A m a) (T:∀u∈a,u.oneCell'=true)
  (H:n+m<=maxLen) (k:(n+m)*d<=140737488355328) (o:b<=w.heap.size):
  ∃q r,(Builtin.append_ #[t,t] C #[v,.slice A m c]).run P w=.ok q r/\r.ownsRow b e size q (n+m) (y++a)/\w.grownBy r v.ownBlock/\
   (q.ownBlock=v.ownBlock\/q.ownBlock=some w.heap.size):=by
 rcases A with _|I
 ·have N:m=0:=by
   rcases Nat.eq_zero_or_pos m with p|p
   ·exact p
   ·obtain⟨I,h,_⟩:=x.2 p
    cases h
  subst N
  have F:a=[]:=GY9 (by simpa using x.1)
  subst F
  exact⟨v,w,wX w b t C e i size K L v n y f c,by simpa using f,World.grownBy.refl w _,.inl rfl⟩
 ·have g:∀j u,a[j]? =some u->w.cell? (I.add j)=some u:=by
   intro j u J
   rcases Nat.eq_zero_or_pos m with p|p
   ·subst p
    have F:a=[]:=GY9 (by simpa using x.1)
    subst F
    simp at J
   ·obtain⟨U,h,_,O⟩:=x.2 p
    injection h with h
    subst h
    exact O j u J
  obtain⟨q,r,s,S,R,_,Q⟩:=run_append_own_at (P:=P) w b t C e i z size d K L M l G D E v n y f I m c a x.1 g T H k o
  exact⟨q,r,s,S,R,Q⟩
theorem jQ {o:Oper}{a:Act}{K:Act->World->Prop}{Q:Exit->Act->World->Prop}(s x:Operand)(t:TypeId)
  (M:o.op=.call {callee:=.builtin .append,args:=#[s,x],argTypes:=#[t,t]})
  (f:Nat) (e:TypeId) (i:TypeInfo) (z:Value) (size b:Nat) (I:P.underlying t=some (.slice e)) (N:P.info? e=some i) (G:i.zero=some z)
  (j:i.size=size) (E:i.bytes=b) (C:z.cells.size=size) (D:0<size)
  (v:Value) (n:Nat) (y:List Value) (J:a.eval s=v) (r:w.ownsRow f e size v n y)
  (B:Nat) (A:Option Addr) (m c:Nat) (d:List Value) (H:a.eval x=.slice A m c) (L:Reads w B size A m d) (T:∀u∈d,u.oneCell'=true)
  (F:n+m<=maxLen) (g:(n+m)*b<=140737488355328) (k:f<=w.heap.size)
  (h:∀l p,p.ownsRow f e size l (n+m) (y++d)->w.grownBy p v.ownBlock->(l.ownBlock=v.ownBlock\/l.ownBlock=some w.heap.size)->K (a.put o.dst l) p):o.wp P a w K Q:=by
 obtain⟨l,p,q,S,R,O⟩:=Af (P:=P) w f t o.type e i z size b I N G j E C D v n y r B A m c d L T F g k
 unfold Oper.wp execOp
 simp only[M,resolve,invoke,builtin,Sem.run_bind,Sem.run_pure,Result.andThen_ok,List.map_toArray,List.map_cons,List.map_nil,J,H,q]
 exact h l p S R O
theorem jX {l:Array Oper}{o:Oper}{a:Act}{K:Act->World->Prop}{Q:Exit->Act->World->Prop}{E:Prop}(F:o.guard=none)(s x:Operand)(t:TypeId)
  (R:o.op=.call {callee:=.builtin .append,args:=#[s,x],argTypes:=#[t,t]})
  (f:Nat) (e:TypeId) (i:TypeInfo) (z:Value) (size b:Nat) (M:P.underlying t=some (.slice e)) (S:P.info? e=some i) (I:i.zero=some z)
  (j:i.size=size) (G:i.bytes=b) (C:z.cells.size=size) (D:0<size)
  (v:Value) (n:Nat) (r:List Value) (N:a.eval s=v) (p:w.ownsRow f e size v n r)
  (B:Nat) (A:Option Addr) (m c:Nat) (d:List Value) (J:a.eval x=.slice A m c) (O:Reads w B size A m d) (T:∀u∈d,u.oneCell'=true)
  (H:n+m<=maxLen) (g:(n+m)*b<=140737488355328) (k:f<=w.heap.size)
  (h:∀q y,y.ownsRow f e size q (n+m) (r++d)->w.grownBy y v.ownBlock->(q.ownBlock=v.ownBlock\/q.ownBlock=some w.heap.size)->K (a.put o.dst q) y):
  if Region.wanted o (yielded l a.tmps)=true then Oper.wp P o a w K Q else E:=by
 have L:Region.wanted o (yielded l a.tmps)=true:=by simp[Region.wanted,F]
 rw[if_pos L]
 exact jQ w s x t R f e i z size b M S I j G C D v n r N p B A m c d J O T H g k h
theorem eO {r:Array Oper}{j:List Oper}{o:Oper}{a:Act}{Q:Exit->Act->World->Prop}(F:o.guard=none)(s x:Operand)(t:TypeId)
  (N:o.op=.call {callee:=.builtin .append,args:=#[s,x],argTypes:=#[t,t]})
  (f:Nat) (e:TypeId) (i:TypeInfo) (z:Value) (size b:Nat) (K:P.underlying t=some (.slice e)) (O:P.info? e=some i) (I:i.zero=some z)
  (k:i.size=size) (G:i.bytes=b) (D:z.cells.size=size) (E:0<size)
  (v:Value) (n:Nat) (C:List Value) (L:a.eval s=v) (y:w.ownsRow f e size v n C)
  (B:Nat) (A:Option Addr) (m c:Nat) (d:List Value) (J:a.eval x=.slice A m c) (M:Reads w B size A m d) (V:∀u∈d,u.oneCell'=true)
  (H:n+m<=maxLen) (g:(n+m)*b<=140737488355328) (l:f<=w.heap.size)
  (h:∀p q,q.ownsRow f e size p (n+m) (C++d)->w.grownBy q v.ownBlock->(p.ownBlock=v.ownBlock\/p.ownBlock=some w.heap.size)->wpList P r Q j (a.put o.dst p) q):wpList P r Q (o::j) a w:=
 wpList_plain F fun _ R=>jQ w s x t N f e i z size b K O I k G D E v n C L y B A m c d J M V H g l fun p q U T S=>R _ _ (h p q U T S)
end
end
section
open Go.RowKit
structure Fl where
 bl:List ByteArray
 a:Option Addr
 c:Nat
abbrev Fl.v (f:Fl):Value:=.agg #[.slice f.a f.bl.length f.c]
structure Fl.ok (f:Fl)(w:World):Prop where
 row:jK w f.a f.bl
 cap:f.bl.length<=f.c
theorem Fl.ok.below {f:Fl}{w w':World}(h:f.ok w)(a:Below w.heap.size w w'):f.ok w':=⟨h.row.below a,h.cap⟩
def Ded.cells (d:Ded):List Value:=[iv d.kind,iv d.at_,iv d.value]
abbrev Ded.v (d:Ded):Value:=.agg #[iv d.kind,iv d.at_,iv d.value]
structure ES (w:World)(A:Option Addr)(l:List Ded):Prop where
 row:Row Ded.cells 3 w A l
 len:l.length<=big
theorem ES.below {w w':World}{A:Option Addr}{l:List Ded}(h:ES w A l)(a:Below w.heap.size w w'):ES w' A l:=⟨h.row.below a,h.len⟩
end
section
open Go.RowKit
def u8v (b:UInt8):Value:=.int .u8 (b.toNat:Int)
def BytesAt (w:World)(g:Nat)(l:List UInt8):Prop:=
 ∃a:Array Value,w.heap[g]? =some (.cells a 5 (a.size,a.size+1))/\l.length<=a.size/\a.toList.take l.length=l.map u8v
section
variable {w w':World} {g:Nat} {l:List UInt8}
theorem BytesAt.cell (h:BytesAt w g l)(j:Nat)(a:j<l.length):w.cell? ⟨g,j,none⟩=some (.int .u8 ((l[j]'a).toNat:Int)):=by
 obtain⟨b,e,f,d⟩:=h
 have c:(b.toList.take l.length)[j]? =some (u8v (l[j]'a)):=by
  rw[d,List.getElem?_map,GY5 a];rfl
 rw[List.getElem?_take_of_lt a]at c
 simp only[World.cell?,e]
 simpa[u8v]using c
end
end
section
open Go.RowKit
theorem dA.more {w:World}{b b':Nat}{v:Value}{l:List ByteArray}(h:dA w b v l)(j:b'<=b):dA w b' v l:=by
 refine⟨h.1,?_⟩
 rcases h.2 with d|⟨g,c,a,i,k,f,e⟩
 ·exact .inl d
 ·exact .inr ⟨g,c,a,i,by omega,f,e⟩
end
section
open Go.RowKit
theorem dA.ne {w:World}{a:Nat}{v:Value}{l:List ByteArray}{O:Nat}{j:Array Value}{t:TypeId}{e:Nat×Nat}(h:dA w a v l)(b:w.heap[O]? =some (.cells j t e))(d:t≠9):v.ownBlock≠some O:=by
 intro c
 rcases h.2 with⟨rfl,_⟩|⟨g,k,i,rfl,_,f,_⟩
 ·cases c
 ·simp only[Value.ownBlock]at c
  have:g=O:=by simpa using c
  subst this
  rw[f]at b
  injection b with b
  injection b with _ h2 _
  exact d h2.symm
theorem dA.eT {w:World}{b:Nat}{v:Value}{l:List ByteArray}{O:Nat}{f:Array Value}{t:TypeId}{e:Nat×Nat}(h:dA w b v l)(d:w.heap[O]? =some (.cells f t e))(c:t≠9)(o:Nat)(x:Value):dA (w.setCell ⟨O,o,none⟩ x) b v l:=
 ownsRow_setCell_other (a:=⟨O,o,none⟩) h (h.ne d c) x
theorem dA.texts {w:World}{a:Nat}{A:Option Addr}{n c:Nat}{l:List ByteArray}(h:dA w a (.slice A n c) l)(f:bP l=0):jK w A l:=by
 obtain⟨m,k,e,d,i⟩:=h.form
 injection e with e1 e2 e3
 subst e1
 obtain⟨j,g⟩:=fP.1 f
 exact⟨d,by unfold big;omega,fun s b=>by rw[g s b];decide⟩
end
section
open Go.RowKit
structure Rt (w:World)(base:Nat)(f:Fl)(l:List ByteArray):Prop where
 own:dA w base (.slice f.a f.bl.length f.c) f.bl
 cap:f.bl.length<=f.c
 is:f.bl=l
end
section
open Go.RowKit
theorem Rt.ok {w:World}{a:Nat}{f:Fl}{l:List ByteArray}(h:Rt w a f l)(d:l=[]\/bP l=0):f.ok w:=by
 refine⟨?_,h.cap⟩
 have e:=h.is
 rcases d with rfl|g
 ·obtain⟨m,k,i,b,j⟩:=dA.form h.own
  injection i with e1 _ _
  rw[e]at b ⊢
  rw[e1]
  exact⟨b,Nat.zero_le _,fun s c=>by cases c⟩
 ·exact dA.texts h.own (by rw[e];exact g)
end
section
open Go.RowKit
def JSt (w:World)(B:Nat)(S:ByteArray)(i:Nat)(R:List ByteArray)(e:Nat):Prop:=
 ∃(A:Option Addr)(c:Nat),w.heap[B]? =some (.cells #[.string S,.int .i64 i,.slice A R.length c,.int .i64 e] 154 (0,0))/\dA w (B+1) (.slice A R.length c) R
end
section
open Go.RowKit
theorem JSt.below {w w':World}{B b:Nat}{S:ByteArray}{i:Nat}{R:List ByteArray}{e:Nat}(h:JSt w B S i R e)(a:Below b w w')(f:w.heap.size<=b):JSt w' B S i R e:=by
 obtain⟨A,c,d,g⟩:=h
 have:=(ZL d)
 exact⟨A,c,(a.block B (by omega)).trans d,g.below a f⟩
end
section
open Go.RowKit
def mZ (w:World)(a:Nat)(v:Value)(l:List Ded):Prop:=w.ownsRow a 60 3 v l.length (l.flatMap Ded.cells)
theorem mZ.row {w:World}{a:Nat}{A:Option Addr}{n c:Nat}{l:List Ded}(h:mZ w a (.slice A n c) l):Row Ded.cells 3 w A l:=by
 obtain⟨d,b,e⟩:=bG h
 injection e with e1 e2 e3
 subst e1 e2 e3
 exact Reads.of_own h
theorem mZ.below {w w':World}{a B:Nat}{v:Value}{l:List Ded}(h:mZ w a v l)(e:Below B w w')(m:w.heap.size<=B):mZ w' a v l:=by
 refine⟨h.1,?_⟩
 rcases h.2 with f|⟨g,c,b,k,j,d,i⟩
 ·exact .inl f
 ·refine .inr ⟨g,c,b,k,j,?_,i⟩
  have:g<w.heap.size:=(ZL d)
  rw[e.block g (by omega)];exact d
theorem mZ.eT {w:World}{b:Nat}{v:Value}{l:List Ded}{O:Nat}{k:Array Value}{t:TypeId}{f:Nat×Nat}(h:mZ w b v l)(c:w.heap[O]? =some (.cells k t f))(e:t≠60)(o:Nat)(x:Value):mZ (w.setCell ⟨O,o,none⟩ x) b v l:=by
 refine ownsRow_setCell_other (a:=⟨O,o,none⟩) h (fun d=>?_) x
 rcases h.2 with⟨rfl,_⟩|⟨g,m,j,rfl,_,i,_⟩
 ·cases d
 ·simp only[Value.ownBlock]at d
  have:g=O:=by simpa using d
  subst this
  rw[i]at c
  injection c with c
  injection c with _ h2 _
  exact e h2.symm
def PSt (w:World)(P:Nat)(D:List Ded):Prop:=
 ∃(A:Option Addr)(c:Nat),w.heap[P]? =some (.cells #[.slice A D.length c] 214 (0,0))/\mZ w (P+1) (.slice A D.length c) D
theorem PSt.below {w w':World}{P b:Nat}{D:List Ded}(h:PSt w P D)(a:Below b w w')(e:w.heap.size<=b):PSt w' P D:=by
 obtain⟨A,c,d,f⟩:=h
 have:=(ZL d)
 exact⟨A,c,(a.block P (by omega)).trans d,f.below a e⟩
theorem iH (a:Nat)(l:List UInt8):(jM a l).length<=l.length:=by
 induction l generalizing a with
 |nil=>exact GZ3 _
 |cons c l ih=>
  unfold jM
  have:=ih (a+1)
  split
  ·rw[GY8];omega
  ·rw[GY8,GY8];omega
end
section
open Go.RowKit
theorem mZ.more {w:World}{b b':Nat}{v:Value}{l:List Ded}(h:mZ w b v l)(j:b'<=b):mZ w b' v l:=by
 refine⟨h.1,?_⟩
 rcases h.2 with d|⟨g,c,a,i,k,f,e⟩
 ·exact .inl d
 ·exact .inr ⟨g,c,a,i,by omega,f,e⟩
def vD (w:World)(E:Int)(b:List Ded)(e:Ending)(a:World):Prop:=Below w.heap.size w a/\∃(A:Option Addr)(c:Nat)(D:List Ded),e=.returned (.tuple #[.slice A D.length c,.int .i64 E])/\mZ a w.heap.size (.slice A D.length c) D/\D=b
theorem vD.nil {w a:World}{E:Int}(h:Below w.heap.size w a):vD w E [] (.returned (.tuple #[.slice none 0 0,.int .i64 E])) a:=⟨h,none,0,[],rfl,World.ownsRow_nil _ _ _ _,rfl⟩
end
section
open Go.RowKit
theorem TT {f:List ByteArray}{s:List UInt8}(h:dF f s.length=0):
  bP (bT f (aW f s))=0/\(bT f (aW f s)).length=f.length/\gZ (bT f (aW f s))=0/\bQ (bT f (aW f s))=bQ f++[ofBytes s]/\0<(aW f s).length:=by
 obtain⟨k,r,j,e,g,b,c⟩:=Av h
 have a:=FO b g
 rw[<-c]at a
 obtain⟨d,i⟩:=qQ b.ok (l:=aW f s) (by rw[c];exact FM b)
 refine⟨d,i,?_,?_,?_⟩
 ·unfold gZ;rw[if_pos d,a]
 ·unfold bQ;rw[if_pos d,if_pos b.ok,a,g.load]
 ·rw[c];unfold CU;rw[GZ8,List.length_singleton];omega
end
section
open Go.RowKit
structure JInv (F0 F:List ByteArray)(R:List ByteArray)(D:List Ded)(k e:Nat):Prop where
 ok:bP F=0
 len:F.length=F0.length
 load:Re (flat F)=some (k,R,e)
 done:F=bT F0 D
 deeds:∀d∈D,eB F0.length d=0
 many:R.length<=k
 dl:D.length<=e+5*k
theorem EI {F R:List ByteArray}{k e:Nat}(h:Re (flat F)=some (k,R,e))(s:List UInt8):(aW F s).length<=s.length+5:=by
 unfold aW
 rw[h]
 show(CU e (128*F.length -5*(k+1)) s).length<=_
 unfold CU
 have c:=iH e s
 have b:=iH (128*F.length -5*(k+1)) (Sw e s.length)
 have a:(Sw e s.length).length=4:=rfl
 rw[GZ8,GZ8,List.length_singleton]
 omega
theorem JInv.next {l F R:List ByteArray}{D:List Ded}{k e:Nat}{s:ByteArray}(h:JInv l F R D k e)(f:dF F s.size=0):JInv l (bT F (aW F (bytesOf s))) (R++[s]) (D++aW F (bytesOf s)) (k+1) (e+s.size):=by
 rw[<-RB]at f
 obtain⟨o,n,_,_,_⟩:=TT f
 obtain⟨r,q,p,u,g,i,j⟩:=Av f
 have c:=g.load
 rw[h.load]at c
 simp only[Option.some.injEq,Prod.mk.injEq]at c
 obtain⟨rfl,rfl,rfl⟩:=c
 have b:=FO i g
 rw[<-j,wR,RB]at b
 refine⟨o,n.trans h.len,b,?_,?_,?_,?_⟩
 ·rw[mM,<-h.done]
 ·intro d a
  rcases List.mem_append.1 a with a|a
  ·exact h.deeds d a
  ·rw[<-h.len];rw[j]at a;exact FM i d a
 ·have:=h.many;rw[GZ8,List.length_singleton];omega
 ·have t:=h.dl
  have m:=EI h.load (bytesOf s)
  rw[RB]at m
  rw[GZ8];omega
theorem EW {w:World}{a size n:Nat}{e:TypeId}{v:Value}{d:List Value}(h:w.ownsRow a e size v n d){b:Nat}(c:v.ownBlock=some b):b<w.heap.size/\a<=b:=by
 rcases h.2 with⟨rfl,_⟩|⟨g,k,j,rfl,i,f,_⟩
 ·cases c
 ·have:g=b:=by simpa[Value.ownBlock]using c
  subst this
  exact⟨(ZL f),i⟩
theorem dA.grown {w e:World}{base:Nat}{v:Value}{l:List ByteArray}{row:Option Nat}(h:dA w base v l)(i:w.grownBy e row)(a:∀b,v.ownBlock=some b->row≠some b):dA e base v l:=by
 refine⟨h.1,?_⟩
 rcases h.2 with j|⟨g,d,c,rfl,m,f,k⟩
 ·exact .inl j
 ·refine .inr ⟨g,d,c,rfl,m,?_,k⟩
  rw[i.block g (ZL f) (fun h=>a g (by simp[Value.ownBlock]) h.symm)];exact f
theorem mZ.grown {w e:World}{base:Nat}{v:Value}{l:List Ded}{row:Option Nat}(h:mZ w base v l)(i:w.grownBy e row)(a:∀b,v.ownBlock=some b->row≠some b):mZ e base v l:=by
 refine⟨h.1,?_⟩
 rcases h.2 with j|⟨g,d,c,rfl,m,f,k⟩
 ·exact .inl j
 ·refine .inr ⟨g,d,c,rfl,m,?_,k⟩
  rw[i.block g (ZL f) (fun h=>a g (by simp[Value.ownBlock]) h.symm)];exact f
theorem GX {w f:World}{c size n:Nat}{e:TypeId}{v:Value}{l:List Value}(h:w.ownsRow c e size v n l)(m:w.grownBy f v.ownBlock){b:Nat}{k:Array Value}{t:TypeId}{j:Nat×Nat}(a:w.heap[b]? =some (.cells k t j))(d:t≠e):f.heap[b]? =some (.cells k t j):=by
 rw[m.block b (ZL a) (fun i=>?_)]
 ·exact a
 ·rcases h.2 with⟨rfl,_⟩|⟨g,q,p,rfl,_,o,_⟩
  ·cases i
  ·have:b=g:=by simpa[Value.ownBlock]using i
   subst this
   rw[o]at a
   injection a with a
   injection a with _ h5 _
   exact d h5.symm
end
end Go.Proofs.YtjiedaialianmaaGreat
