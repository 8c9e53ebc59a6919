import Derived.Test.YtjiedaialianmaaGreatA04
import Derived.Test.YtjiedaialianmaaGreatA06
set_option maxRecDepth 100000
set_option maxHeartbeats 8000000
namespace Go.Proofs.YtjiedaialianmaaGreat
section
open Go.RowKit
structure Only (B:Nat)(w w':World):Prop where
 os:w'.os=w.os
 tape:w'.tape=w.tape
 output:w'.output=w.output
 size:w.heap.size<=w'.heap.size
 block:∀k,k<w.heap.size->k≠B->w'.heap[k]? =w.heap[k]?
theorem Only.refl (B:Nat)(w:World):Only B w w:=⟨rfl,rfl,rfl,GZ3 _,fun _ _ _=>rfl⟩
theorem Only.trans {B:Nat}{a b c:World}(h:Only B a b)(k:Only B b c):Only B a c:=
 ⟨k.os.trans h.os,k.tape.trans h.tape,k.output.trans h.output,GY1 h.size k.size,fun i d e=>(k.block i (GY0 d h.size) e).trans (h.block i d e)⟩
theorem Only.set {B:Nat}{w:World}(o:Nat)(v:Value):Only B w (w.setCell ⟨B,o,none⟩ v):=
 ⟨rfl,rfl,rfl,by simp[World.setCell],fun k _ a=>Below.heap_setCell _ _ _ _ a⟩
theorem Only.below {B:Nat}{w w':World}(h:Only B w w')(b:B<=w.heap.size):Below B w w':=⟨h.os,h.tape,h.output,h.size,fun k a=>h.block k (by omega) (by omega)⟩
theorem Only.cell {B:Nat}{w a:World}(h:Only B w a)(c o:Nat)(d:c<w.heap.size)(b:c≠B):a.cell? ⟨c,o,none⟩=w.cell? ⟨c,o,none⟩:=World.cell?_of_block (h.block c d b)
theorem Only.frozen {B:Nat}{w a:World}(h:Only B w a)(c o:Nat)(d:c<w.heap.size)(b:c≠B):a.frozen? ⟨c,o,none⟩=w.frozen? ⟨c,o,none⟩:=World.frozen?_of_block (h.block c d b)
def Kp (ts:List TypeId)(w c:World):Prop:=∀(k:Nat)(b:Array Value)(t:TypeId)(a:Nat×Nat),w.heap[k]? =some (.cells b t a)->t ∉ ts->c.heap[k]? =some (.cells b t a)
theorem Kp.refl (ts:List TypeId)(w:World):Kp ts w w:=fun _ _ _ _ h _=>h
theorem Kp.trans {ts:List TypeId}{a b c:World}(h:Kp ts a b)(k:Kp ts b c):Kp ts a c:=fun i f t e g d=>k i f t e (h i f t e g d) d
theorem Kp.alloc {ts:List TypeId}{a b:World}(h:Kp ts a b)(o:Obj):Kp ts a (b.alloc o):=fun i f t e d c=>
 (heap_alloc_old b o (ZL (h i f t e d c))).trans (h i f t e d c)
theorem Only.kp {B:Nat}{w c:World}{l:Array Value}{t:TypeId}{j:Nat×Nat}(h:Only B w c)(f:w.heap[B]? =some (.cells l t j)){ts:List TypeId}(d:t∈ts):Kp ts w c:=fun i k m g a b=>by
 by_cases e:i=B
 ·subst e;rw[f]at a;injection a with a;injection a with _ h2 _;subst h2;exact absurd d b
 ·exact(h.block i (ZL a) e).trans a
theorem Kp.set {ts:List TypeId}{w:World}{b:Nat}{e:Array Value}{t:TypeId}{d:Nat×Nat}(c:w.heap[b]? =some (.cells e t d))(a:t∈ts)(o:Nat)(v:Value):Kp ts w (w.setCell ⟨b,o,none⟩ v):=
 (Only.set o v).kp c a
theorem Kp.grown {ts:List TypeId}{w c:World}{row:Option Nat}(k:w.grownBy c row)(j:∀g,row=some g->∃f t d,w.heap[g]? =some (.cells f t d)/\t∈ts):Kp ts w c:=fun i f t d b h=>by
 refine(k.block i (ZL b) fun e=>?_).trans b
 obtain⟨n,o,m,a,l⟩:=j i e.symm
 rw[b]at a;injection a with a;injection a with _ h3 _;subst h3;exact h l
theorem own_kp {ts:List TypeId}{w f:World}{a size n:Nat}{e:TypeId}{v:Value}{d:List Value}(h:w.ownsRow a e size v n d)(i:Kp ts w f)(j:e ∉ ts):f.ownsRow a e size v n d:=by
 refine⟨h.1,?_⟩
 rcases h.2 with k|⟨g,c,b,p,o,m,l⟩
 ·exact .inl k
 ·exact .inr ⟨g,c,b,p,o,i g _ _ _ m j,l⟩
theorem own_kind {w:World}{a size n:Nat}{e:TypeId}{v:Value}{i:List Value}(h:w.ownsRow a e size v n i):∀g,v.ownBlock=some g->∃c j,w.heap[g]? =some (.cells c e j):=by
 intro g d
 rcases h.2 with⟨rfl,_⟩|⟨l,k,f,rfl,_,b,_⟩
 ·simp[Value.ownBlock]at d
 ·simp[Value.ownBlock]at d
  subst d
  exact⟨f,_,b⟩
theorem heap_cell {w:World}{b:Nat}{a:Array Value}{t:TypeId}{c:Nat×Nat}(h:w.heap[b]? =some (.cells a t c))(o:Nat):w.cell? ⟨b,o,none⟩=a[o]?:=by simp[World.cell?,h]
theorem heap_free {w:World}{b:Nat}{a:Array Value}{t:TypeId}(h:w.heap[b]? =some (.cells a t (0,0)))(o:Nat):w.frozen? ⟨b,o,none⟩=false:=by simp[World.frozen?,h]
theorem Kp.mono {ts ts':List TypeId}{w a:World}(h:Kp ts w a)(c:∀t∈ts,t∈ts'):Kp ts' w a:=fun k g t f d b=>h k g t f d (fun e=>b (c t e))
theorem heap_ne {w:World}{a b:Nat}{k f:Array Value}{t g:TypeId}{j d:Nat×Nat}(h:w.heap[a]? =some (.cells k t j))(c:w.heap[b]? =some (.cells f g d))(i:t≠g):a≠b:=fun e=>by
 subst e;rw[h]at c;injection c with c;injection c with _ h2 _;exact i h2
theorem box_kp {ts:List TypeId}{b:Nat}{t:TypeId}{v:Value}{w a:World}(h:Boxed w b t v)(d:Kp ts w a)(c:t ∉ ts):Boxed a b t v:=d _ _ _ _ h c
theorem Tryz.infoExp :(Tryz.prog.info? 159).map (fun i=>(i.zero,i.size,i.bytes))=some (some (.agg #[.string ⟨#[]⟩,.int .i64 0]),2,24):=by kernel_rfl
def ExpOwn (w:World)(a:Nat)(v:Value)(l:List Exp):Prop:=w.ownsRow a 159 2 v l.length (l.flatMap Exp.cells)
theorem ExpOwn.row {w:World}{a:Nat}{v:Value}{l:List Exp}(h:ExpOwn w a v l):∃(A:Option Addr)(c:Nat),v=.slice A l.length c/\Row Exp.cells 2 w A l:=by
 rcases h.2 with⟨rfl,b⟩|⟨g,e,d,rfl,_⟩
 ·exact⟨none,0,by rw[b],⟨flat_length (enc:=Exp.cells) (k:=2) (fun _=>rfl) _,fun f=>by omega⟩⟩
 ·exact⟨_,_,rfl,Reads.of_own h⟩
theorem ExpOwn.nil (w:World)(a:Nat):ExpOwn w a (.slice none 0 0) []:=World.ownsRow_nil _ _ _ _
theorem append_Exp (W:World){g:Array Oper}{d:List Oper}{o:Oper}{a:Act}{Q:Exit->Act->World->Prop}(r:o.guard=none)(s y:Operand)
  (C:o.op=.call {callee:=.builtin .append,args:=#[s,y],argTypes:=#[22,22]}) (b:Nat) (v:Value) (l:List Exp) (x:Exp) (B:a.eval s=v)
  (A:a.eval y=.slice (some ⟨W.heap.size,0,none⟩) 1 1) (i:ExpOwn W b v l) (E:l.length<=1000000) (t:b<=W.heap.size)
  (h:∀k m,ExpOwn m b k (l++[x])->(W.alloc (.cells #[.string x.name,.int .i64 x.at_] 159)).grownBy m v.ownBlock->wpList Tryz.prog g Q d (a.put o.dst k) m):wpList Tryz.prog g Q (o::d) a (W.alloc (.cells #[.string x.name,.int .i64 x.at_] 159)):=by
 obtain⟨z,D,q,p,n⟩:=info_parts Tryz.infoExp
 refine wpList_append_own_at (W.alloc (.cells #[.string x.name,.int .i64 x.at_] 159)) r s y 22 C b 159 z (.agg #[.string ⟨#[]⟩,.int .i64 0]) 2 24 Tryz.underlying22 D q p n rfl (by decide) v l.length (l.flatMap Exp.cells) B (i.alloc _) ⟨W.heap.size,0,none⟩ 1 1 x.cells A rfl
  ?_ (by intro u c;simp only[Exp.cells,List.mem_cons,List.not_mem_nil,or_false]at c;rcases c with rfl|rfl<;>rfl) (by simp only[maxLen];omega) (by omega) (by simp;omega) ?_
 ·intro j u c
  match j,c with
  |0,c=>simp only[Exp.cells,GZ0,Option.some.injEq]at c;subst c;rw[add_zero_,World.cell?_alloc_new];rfl
  |1,c=>simp only[Exp.cells,GZ1,GZ0,Option.some.injEq]at c;subst c;rw[add_pos_ _ _ (by omega)];simp only[Nat.zero_add];rw[World.cell?_alloc_new];rfl
  |j+2,c=>simp[Exp.cells]at c
 intro k w e f _ _
 refine h k w ?_ f
 unfold ExpOwn
 simpa using e
theorem Tryz.infoImp :(Tryz.prog.info? 173).map (fun i=>(i.zero,i.size,i.bytes))=some (some (.agg #[.string ⟨#[]⟩,.string ⟨#[]⟩,.int .i64 0,.int .i64 0]),4,48):=by kernel_rfl
def ImpOwn (w:World)(a:Nat)(v:Value)(l:List Imp):Prop:=w.ownsRow a 173 4 v l.length (l.flatMap Imp.cells)
theorem ImpOwn.row {w:World}{a:Nat}{v:Value}{l:List Imp}(h:ImpOwn w a v l):∃(A:Option Addr)(c:Nat),v=.slice A l.length c/\Row Imp.cells 4 w A l:=by
 rcases h.2 with⟨rfl,b⟩|⟨g,e,d,rfl,_⟩
 ·exact⟨none,0,by rw[b],⟨flat_length (enc:=Imp.cells) (k:=4) (fun _=>rfl) _,fun f=>by omega⟩⟩
 ·exact⟨_,_,rfl,Reads.of_own h⟩
theorem ImpOwn.nil (w:World)(a:Nat):ImpOwn w a (.slice none 0 0) []:=World.ownsRow_nil _ _ _ _
theorem append_Imp (W:World){g:Array Oper}{d:List Oper}{o:Oper}{a:Act}{Q:Exit->Act->World->Prop}(r:o.guard=none)(s y:Operand)
  (C:o.op=.call {callee:=.builtin .append,args:=#[s,y],argTypes:=#[67,67]}) (c:Nat) (v:Value) (l:List Imp) (x:Imp) (B:a.eval s=v)
  (A:a.eval y=.slice (some ⟨W.heap.size,0,none⟩) 1 1) (i:ImpOwn W c v l) (E:l.length<=1000000) (t:c<=W.heap.size)
  (h:∀k m,ImpOwn m c k (l++[x])->(W.alloc (.cells #[.string x.mod,.string x.name,.int .i64 x.major,.int .i64 x.minor] 173)).grownBy m v.ownBlock->wpList Tryz.prog g Q d (a.put o.dst k) m):wpList Tryz.prog g Q (o::d) a (W.alloc (.cells #[.string x.mod,.string x.name,.int .i64 x.major,.int .i64 x.minor] 173)):=by
 obtain⟨z,D,q,p,n⟩:=info_parts Tryz.infoImp
 refine wpList_append_own_at (W.alloc (.cells #[.string x.mod,.string x.name,.int .i64 x.major,.int .i64 x.minor] 173)) r s y 67 C c 173 z (.agg #[.string ⟨#[]⟩,.string ⟨#[]⟩,.int .i64 0,.int .i64 0]) 4 48 Tryz.underlying67 D q p n rfl (by decide) v l.length (l.flatMap Imp.cells) B (i.alloc _) ⟨W.heap.size,0,none⟩ 1 1 x.cells A rfl
  ?_ (by intro u b;simp only[Imp.cells,List.mem_cons,List.not_mem_nil,or_false]at b;rcases b with rfl|rfl|rfl|rfl<;>rfl) (by simp only[maxLen];omega) (by omega) (by simp;omega) ?_
 ·intro j u b
  match j,b with
  |0,b=>simp only[Imp.cells,GZ0,Option.some.injEq]at b;subst b;rw[add_zero_,World.cell?_alloc_new];rfl
  |1,b=>simp only[Imp.cells,GZ1,GZ0,Option.some.injEq]at b;subst b;rw[add_pos_ _ _ (by omega)];simp only[Nat.zero_add];rw[World.cell?_alloc_new];rfl
  |2,b=>simp only[Imp.cells,GZ1,GZ0,Option.some.injEq]at b;subst b;rw[add_pos_ _ _ (by omega)];simp only[Nat.zero_add];rw[World.cell?_alloc_new];rfl
  |3,b=>simp only[Imp.cells,GZ1,GZ0,Option.some.injEq]at b;subst b;rw[add_pos_ _ _ (by omega)];simp only[Nat.zero_add];rw[World.cell?_alloc_new];rfl
  |j+4,b=>simp[Imp.cells]at b
 intro k w e f _ _
 refine h k w ?_ f
 unfold ImpOwn
 simpa using e
theorem Tryz.infoPat :(Tryz.prog.info? 180).map (fun i=>(i.zero,i.size,i.bytes))=some (some (.agg #[.int .i64 0,.int .i64 0,.int .i64 0,.int .i64 0]),4,32):=by kernel_rfl
def PatOwn (w:World)(a:Nat)(v:Value)(l:List Pat):Prop:=w.ownsRow a 180 4 v l.length (l.flatMap Pat.cells)
theorem PatOwn.row {w:World}{a:Nat}{v:Value}{l:List Pat}(h:PatOwn w a v l):∃(A:Option Addr)(c:Nat),v=.slice A l.length c/\Row Pat.cells 4 w A l:=by
 rcases h.2 with⟨rfl,b⟩|⟨g,e,d,rfl,_⟩
 ·exact⟨none,0,by rw[b],⟨flat_length (enc:=Pat.cells) (k:=4) (fun _=>rfl) _,fun f=>by omega⟩⟩
 ·exact⟨_,_,rfl,Reads.of_own h⟩
theorem PatOwn.nil (w:World)(a:Nat):PatOwn w a (.slice none 0 0) []:=World.ownsRow_nil _ _ _ _
theorem append_Pat (W:World){g:Array Oper}{d:List Oper}{o:Oper}{a:Act}{Q:Exit->Act->World->Prop}(r:o.guard=none)(s y:Operand)
  (C:o.op=.call {callee:=.builtin .append,args:=#[s,y],argTypes:=#[68,68]}) (c:Nat) (v:Value) (l:List Pat) (x:Pat) (B:a.eval s=v)
  (A:a.eval y=.slice (some ⟨W.heap.size,0,none⟩) 1 1) (i:PatOwn W c v l) (E:l.length<=1000000) (t:c<=W.heap.size)
  (h:∀k m,PatOwn m c k (l++[x])->(W.alloc (.cells #[.int .i64 x.kind,.int .i64 x.at_,.int .i64 x.sym,.int .i64 x.add] 180)).grownBy m v.ownBlock->wpList Tryz.prog g Q d (a.put o.dst k) m):wpList Tryz.prog g Q (o::d) a (W.alloc (.cells #[.int .i64 x.kind,.int .i64 x.at_,.int .i64 x.sym,.int .i64 x.add] 180)):=by
 obtain⟨z,D,q,p,n⟩:=info_parts Tryz.infoPat
 refine wpList_append_own_at (W.alloc (.cells #[.int .i64 x.kind,.int .i64 x.at_,.int .i64 x.sym,.int .i64 x.add] 180)) r s y 68 C c 180 z (.agg #[.int .i64 0,.int .i64 0,.int .i64 0,.int .i64 0]) 4 32 Tryz.underlying68 D q p n rfl (by decide) v l.length (l.flatMap Pat.cells) B (i.alloc _) ⟨W.heap.size,0,none⟩ 1 1 x.cells A rfl
  ?_ (by intro u b;simp only[Pat.cells,List.mem_cons,List.not_mem_nil,or_false]at b;rcases b with rfl|rfl|rfl|rfl<;>rfl) (by simp only[maxLen];omega) (by omega) (by simp;omega) ?_
 ·intro j u b
  match j,b with
  |0,b=>simp only[Pat.cells,GZ0,Option.some.injEq]at b;subst b;rw[add_zero_,World.cell?_alloc_new];rfl
  |1,b=>simp only[Pat.cells,GZ1,GZ0,Option.some.injEq]at b;subst b;rw[add_pos_ _ _ (by omega)];simp only[Nat.zero_add];rw[World.cell?_alloc_new];rfl
  |2,b=>simp only[Pat.cells,GZ1,GZ0,Option.some.injEq]at b;subst b;rw[add_pos_ _ _ (by omega)];simp only[Nat.zero_add];rw[World.cell?_alloc_new];rfl
  |3,b=>simp only[Pat.cells,GZ1,GZ0,Option.some.injEq]at b;subst b;rw[add_pos_ _ _ (by omega)];simp only[Nat.zero_add];rw[World.cell?_alloc_new];rfl
  |j+4,b=>simp[Pat.cells]at b
 intro k w e f _ _
 refine h k w ?_ f
 unfold PatOwn
 simpa using e
theorem results_cell_tmp {P:Program}{i:Func}{p u:Tmp}{b:TypeId}(h:i.results=#[.cell p b,.tmp u])(a:Array Value)(w:World)(g:Nat)(t:TypeId)(c:Array Value)(f:Nat×Nat)(d:TypeDesc)
  (k:a.getD p undef=.pointer (some ⟨g,0,none⟩)) (m:w.heap[g]? =some (.cells c t f))
  (j:P.underlying b=some d) (n:(match d with| .struct _| .array _ _=>true|_=>false)=true) (l:(P.info? b).map (·.size)=some c.size):
  (results i a).run P w=.ok (.tuple #[.agg c,a.getD u undef]) w:=by
 have e:a[p]?.getD undef=.pointer (some ⟨g,0,none⟩):=by simpa using k
 simp[results,h,e,asAddr,run_loadVar_row w g t b c f d m j n l]
theorem set7 {W:World}{b:Nat}{x o n m l k j:Value}{t:TypeId}(h:W.heap[b]? =some (.cells #[x,o,n,m,l,k,j] t (0,0)))(a c d e f g i:Value):
  (((((((W.setCell ⟨b,0,none⟩ a).setCell ⟨b,1,none⟩ c).setCell ⟨b,2,none⟩ d).setCell ⟨b,3,none⟩ e).setCell ⟨b,4,none⟩ f).setCell ⟨b,5,none⟩ g).setCell ⟨b,6,none⟩ i).heap[b]? =some (.cells #[a,c,d,e,f,g,i] t (0,0))/\
  Only b W (((((((W.setCell ⟨b,0,none⟩ a).setCell ⟨b,1,none⟩ c).setCell ⟨b,2,none⟩ d).setCell ⟨b,3,none⟩ e).setCell ⟨b,4,none⟩ f).setCell ⟨b,5,none⟩ g).setCell ⟨b,6,none⟩ i):=by
 have w:(W.setCell ⟨b,0,none⟩ a).heap[b]? =some (.cells #[a,o,n,m,l,k,j] t (0,0)):=heap_setCell_same W b 0 _ _ a h
 have v:((W.setCell ⟨b,0,none⟩ a).setCell ⟨b,1,none⟩ c).heap[b]? =some (.cells #[a,c,n,m,l,k,j] t (0,0)):=heap_setCell_same (W.setCell ⟨b,0,none⟩ a) b 1 _ _ c w
 have u:(((W.setCell ⟨b,0,none⟩ a).setCell ⟨b,1,none⟩ c).setCell ⟨b,2,none⟩ d).heap[b]? =some (.cells #[a,c,d,m,l,k,j] t (0,0)):=heap_setCell_same ((W.setCell ⟨b,0,none⟩ a).setCell ⟨b,1,none⟩ c) b 2 _ _ d v
 have s:((((W.setCell ⟨b,0,none⟩ a).setCell ⟨b,1,none⟩ c).setCell ⟨b,2,none⟩ d).setCell ⟨b,3,none⟩ e).heap[b]? =some (.cells #[a,c,d,e,l,k,j] t (0,0)):=heap_setCell_same (((W.setCell ⟨b,0,none⟩ a).setCell ⟨b,1,none⟩ c).setCell ⟨b,2,none⟩ d) b 3 _ _ e u
 have r:(((((W.setCell ⟨b,0,none⟩ a).setCell ⟨b,1,none⟩ c).setCell ⟨b,2,none⟩ d).setCell ⟨b,3,none⟩ e).setCell ⟨b,4,none⟩ f).heap[b]? =some (.cells #[a,c,d,e,f,k,j] t (0,0)):=heap_setCell_same ((((W.setCell ⟨b,0,none⟩ a).setCell ⟨b,1,none⟩ c).setCell ⟨b,2,none⟩ d).setCell ⟨b,3,none⟩ e) b 4 _ _ f s
 have q:((((((W.setCell ⟨b,0,none⟩ a).setCell ⟨b,1,none⟩ c).setCell ⟨b,2,none⟩ d).setCell ⟨b,3,none⟩ e).setCell ⟨b,4,none⟩ f).setCell ⟨b,5,none⟩ g).heap[b]? =some (.cells #[a,c,d,e,f,g,j] t (0,0)):=heap_setCell_same (((((W.setCell ⟨b,0,none⟩ a).setCell ⟨b,1,none⟩ c).setCell ⟨b,2,none⟩ d).setCell ⟨b,3,none⟩ e).setCell ⟨b,4,none⟩ f) b 5 _ _ g r
 have p:(((((((W.setCell ⟨b,0,none⟩ a).setCell ⟨b,1,none⟩ c).setCell ⟨b,2,none⟩ d).setCell ⟨b,3,none⟩ e).setCell ⟨b,4,none⟩ f).setCell ⟨b,5,none⟩ g).setCell ⟨b,6,none⟩ i).heap[b]? =some (.cells #[a,c,d,e,f,g,i] t (0,0)):=heap_setCell_same ((((((W.setCell ⟨b,0,none⟩ a).setCell ⟨b,1,none⟩ c).setCell ⟨b,2,none⟩ d).setCell ⟨b,3,none⟩ e).setCell ⟨b,4,none⟩ f).setCell ⟨b,5,none⟩ g) b 6 _ _ i q
 exact⟨p,((((((Only.set 0 a).trans (Only.set 1 c)).trans (Only.set 2 d)).trans (Only.set 3 e)).trans (Only.set 4 f)).trans (Only.set 5 g)).trans (Only.set 6 i)⟩
theorem own_same {w f:World}{a size n:Nat}{e:TypeId}{v:Value}{d:List Value}(h:w.ownsRow a e size v n d)(k:∀g,a<=g->g<w.heap.size->f.heap[g]? =w.heap[g]?):f.ownsRow a e size v n d:=by
 refine⟨h.1,?_⟩
 rcases h.2 with l|⟨g,c,b,o,j,i,m⟩
 ·exact .inl l
 ·exact .inr ⟨g,c,b,o,j,(k g j (ZL i)).trans i,m⟩
theorem mk_ok {W:World}{a:Nat}{m l:ByteArray}{r q:Int}{d:List Exp}{c:List Imp}{e:List Pat}{k i g:Option Addr}{j h f:Nat}(p:ExpOwn W a (.slice k d.length j) d)(o:ImpOwn W a (.slice i c.length h) c)(n:PatOwn W a (.slice g e.length f) e)
  (b:d.length<=big/\(∀x∈d,x.name.size<=big)/\c.length<=big/\(∀x∈c,x.mod.size<=big/\x.name.size<=big)/\e.length<=big/\m.size<=big/\l.size<=big):(⟨m,r,q,l,d,c,e,k,j,i,h,g,f⟩:Mod).ok W:=
 ⟨⟨Reads.of_own p,b.1,b.2.1⟩,⟨Reads.of_own o,b.2.2.1,b.2.2.2.1⟩,⟨Reads.of_own n,b.2.2.2.2.1⟩,b.2.2.2.2.2.1,b.2.2.2.2.2.2⟩
theorem zero_ok (W:World):zeroMod.ok W:=⟨⟨Row.nil,Nat.zero_le _,by simp[zeroMod]⟩,⟨Row.nil,Nat.zero_le _,by simp[zeroMod]⟩,⟨Row.nil,Nat.zero_le _⟩,Nat.zero_le _,Nat.zero_le _⟩
end
section
open Go.RowKit
theorem gY {W:World}{b:Nat}{n i g f:Value}{t:TypeId}(h:W.heap[b]? =some (.cells #[n,i,g,f] t (0,0)))(a c d e:Value):
  ((((W.setCell ⟨b,0,none⟩ a).setCell ⟨b,1,none⟩ c).setCell ⟨b,2,none⟩ d).setCell ⟨b,3,none⟩ e).heap[b]? =some (.cells #[a,c,d,e] t (0,0))/\Only b W ((((W.setCell ⟨b,0,none⟩ a).setCell ⟨b,1,none⟩ c).setCell ⟨b,2,none⟩ d).setCell ⟨b,3,none⟩ e):=by
 have m:(W.setCell ⟨b,0,none⟩ a).heap[b]? =some (.cells #[a,i,g,f] t (0,0)):=heap_setCell_same W b 0 _ _ a h
 have l:((W.setCell ⟨b,0,none⟩ a).setCell ⟨b,1,none⟩ c).heap[b]? =some (.cells #[a,c,g,f] t (0,0)):=heap_setCell_same (W.setCell ⟨b,0,none⟩ a) b 1 _ _ c m
 have k:(((W.setCell ⟨b,0,none⟩ a).setCell ⟨b,1,none⟩ c).setCell ⟨b,2,none⟩ d).heap[b]? =some (.cells #[a,c,d,f] t (0,0)):=heap_setCell_same ((W.setCell ⟨b,0,none⟩ a).setCell ⟨b,1,none⟩ c) b 2 _ _ d l
 have j:((((W.setCell ⟨b,0,none⟩ a).setCell ⟨b,1,none⟩ c).setCell ⟨b,2,none⟩ d).setCell ⟨b,3,none⟩ e).heap[b]? =some (.cells #[a,c,d,e] t (0,0)):=heap_setCell_same (((W.setCell ⟨b,0,none⟩ a).setCell ⟨b,1,none⟩ c).setCell ⟨b,2,none⟩ d) b 3 _ _ e k
 exact⟨j,((((Only.set 0 a).trans (Only.set 1 c)).trans (Only.set 2 d)).trans (Only.set 3 e))⟩
end
section
open Go.RowKit
theorem Iy :Holds 235:=⟨by kernel_rfl,by decide⟩
abbrev Wr (b:Nat)(l:List UInt8)(w:World):Prop:=Bld 235 b l w
theorem Eo (b g c k:Nat)(a:List Int)(l:List UInt8)(w:World)(h:Wr b l w)(I:w.heap[g]? =some (.cells (a.map iv).toArray 3 (0,0)))(z:g≠b)(G:k<=4)(F:l.length+a.length*4<=90000):
  Calls Tryz.prog 196 #[.pointer (some ⟨b,0,none⟩),.int .i64 k,.slice (some ⟨g,0,none⟩) a.length c] w fun e v=>(∃u,e=.returned u)/\Wr b (l++a.flatMap fun n=>digits n k) v/\Below b w v/\Kept b w v:=by
 have H:=Hp h
 have Z:=Hp I
 clear h I
 go_enter Tryz.func196,Tryz.ntmps196
 go_wp2_with fail
 go_loopw [10] (fun i wr=>∃(j:Nat),j<=a.length/\i=.int .i64 j/\Wr b (l++(a.take j).flatMap fun n=>digits n k) wr/\Below b w wr/\Kept b w wr) (fun i _=>a.length -(intOf i).toNat)
 case atStart=>exact⟨0,by omega,rfl,by simpa using H.out,GZ4 _ _,Lib.OthersKept.refl _ _ _⟩
 case round=>
  obtain⟨j,hj,rfl,y,L,o⟩:=hrel
  have C:=Hp y
  have O:=Hp L
  have N:=Hp o
  by_cases q:j<a.length
  ·have E:(j:Int)<a.length:=by omega
   have s:=o.heap Z.out z (by decide)
   have X:wr.cell? ⟨g,j,none⟩=some (.int .i64 a[j]):=by
    rw[Lib.cell_of_heap s]
    simp[q]
   have A:=Sm (f:=fun n=>digits n k) q
   have p:=kF (f:=fun n=>digits n k) (K:=4) (l:=a.take j) (fun x _=>by rw[digits_length];exact G)
   rw[GY6]at p
   have m:min j a.length=j:=by omega
   rw[m]at p
   obtain⟨n,D⟩:=Nm (a[j])
   rw[<-D]at X A
   have HE:=Hp A
   have J:=digits_length n k
   have R:=y.lt
   have V:=Hp (fun W=>Dt n k W G)
   have U:=Hp (fun W S=>jW 235 b Iy (l++(a.take j).flatMap fun n=>digits n k) ⟨(digits n k).toArray⟩ W S (by
    have:(⟨(digits n k).toArray⟩:ByteArray).size=k:=by show(digits n k).toArray.size=k;simpa using J
    rw[this,GZ8];omega))
   clear y L o s D A p m J
   go_wp2_with fail
   go_region_with (first|(go_at_call 240;refine(V.out _).mono ?_;rintro e P ⟨rfl,d⟩;have Q:wr.heap.size<=P.heap.size:=d.size;have B:=Hp (Bld.below (w:=wr.drew) C.out d))|(go_at_call 89;refine(U.out _ B.out).mono ?_;rintro e w3 ⟨⟨u,rfl⟩,M,t,r⟩))
   all_goals(
    have B3:=Hp ((O.drew.trans (d.mono (show b<=wr.heap.size by omega))).trans t)
    have Y:=Hp ((N.drew.trans (Kept.of_below d)).trans r)
    have H3:=Hp M
    clear t r M
    go_wp2_with fail
    go_roundw
    case rel=>exact⟨j+1,by omega,by go_num,by rw[HE.out,<-List.append_assoc];exact H3.out,B3.out,Y.out⟩
    case measure=>(simp[intOf];try omega))
  ·have T:a.take j=a:=List.take_of_length_le (by omega)
   rw[T]at C
   go_wp2_with fail
   go_end0
   exact⟨⟨_,rfl⟩,C.out,O.out,N.out⟩
theorem rH (b:Nat)(s:ByteArray)(l:List UInt8)(w:World)(h:Wr b l w)(o:l.length+s.size<=80000):
  Calls Tryz.prog 195 #[.pointer (some ⟨b,0,none⟩),.string s] w fun e f=>(∃u,e=.returned u)/\Wr b (l++bL s) f/\Below b w f/\Kept b w f:=by
 have t:=h.lt
 obtain⟨d,a⟩:=Nm (w.alloc (.cells #[.int .i64 s.size] 3))
 have c:Below w.heap.size w d:=by subst a;exact ZB
 have p:d.heap[w.heap.size]? =some (.cells #[.int .i64 s.size] 3 (0,0)):=by subst a;exact heap_alloc_new _ _
 have m:=a.symm
 have z:=Hp (Eo b w.heap.size 1 1 [(s.size:Int)] l d (h.below c) p (by omega) (by omega) (by simp;omega))
 have y:=Hp (fun W v=>jW 235 b Iy (l++[(s.size:Int)].flatMap fun n=>digits n 1) s W v (by
  simp only[List.flatMap_cons,List.flatMap_nil,List.append_nil,GZ8,digits_length];omega))
 have A:=Hp (show(l++[(s.size:Int)].flatMap fun n=>digits n 1)++s.data.toList=l++bL s by simp[bL])
 have r:=Hp c
 clear a c p h
 go_enter Tryz.func195,Tryz.ntmps195
 go_wp2_with (first|(go_at_call 196;refine(z.out).mono ?_;rintro e D ⟨⟨u,rfl⟩,q,k,i⟩;have B:=Hp q;clear q)|(go_at_call 89;refine(y.out _ B.out).mono ?_;rintro e C ⟨⟨u,rfl⟩,x,j,g⟩))
 go_end0
 exact⟨⟨_,rfl⟩,by rw[<-A.out];exact x,((r.mono (by omega)).trans k).trans j,((Kept.of_below r.out).trans i).trans g⟩
end
section
open Go.RowKit
theorem jH (b k:Nat)(n:Int)(l:List UInt8)(w:World)(h:Wr b l w)(j:k<=4)(g:l.length<=80000):
  Calls Tryz.prog 196 #[.pointer (some ⟨b,0,none⟩),.int .i64 k,.slice (some ⟨w.heap.size,0,none⟩) 1 1] (w.alloc (.cells #[.int .i64 n] 3)) fun e c=>(∃u,e=.returned u)/\Wr b (l++digits n k) c/\Below b w c/\Kept b w c:=by
 have a:Below w.heap.size w (w.alloc (.cells #[.int .i64 n] 3)):=ZB
 have m:=h.lt
 refine(Eo b w.heap.size 1 k [n] l _ (h.below a) (heap_alloc_new _ _) (by omega) j (by simp;omega)).mono ?_
 rintro e c ⟨i,o,f,d⟩
 refine⟨i,?_,(a.mono (by omega)).trans f,(Kept.of_below a).trans d⟩
 simpa using o
theorem Gt (b k:Nat)(n m:Int)(l:List UInt8)(w:World)(h:Wr b l w)(j:k<=4)(g:l.length<=80000):
  Calls Tryz.prog 196 #[.pointer (some ⟨b,0,none⟩),.int .i64 k,.slice (some ⟨w.heap.size,0,none⟩) 2 2] (w.alloc (.cells #[.int .i64 n,.int .i64 m] 3)) fun e c=>(∃u,e=.returned u)/\Wr b (l++digits n k++digits m k) c/\Below b w c/\Kept b w c:=by
 have a:Below w.heap.size w (w.alloc (.cells #[.int .i64 n,.int .i64 m] 3)):=ZB
 have o:=h.lt
 refine(Eo b w.heap.size 2 k [n,m] l _ (h.below a) (heap_alloc_new _ _) (by omega) j (by simp;omega)).mono ?_
 rintro e c ⟨i,p,f,d⟩
 refine⟨i,?_,(a.mono (by omega)).trans f,(Kept.of_below a).trans d⟩
 simpa using p
theorem nX {n:Nat}{b a:World}(c:Below (n+1) b a):∀o,a.cell? ⟨n,o,none⟩=b.cell? ⟨n,o,none⟩:=fun o=>c.cell (p:=⟨n,o,none⟩) (Nat.lt_succ_self n)
theorem Ug {i:Imp}(h:dP i=0):isName i.mod=true/\isName i.name=true/\0<=i.major/\i.major<=255/\0<=i.minor/\i.minor<=255:=by
 unfold dP at h
 by_cases a:isName i.mod=false\/isName i.name=false
 ·rw[if_pos a]at h;omega
 rw[if_neg a]at h
 by_cases b:i.major<0\/255<i.major\/i.minor<0\/255<i.minor
 ·rw[if_pos b]at h;omega
 simp only[not_or,Bool.not_eq_false]at a
 exact⟨a.1,a.2,by omega⟩
theorem kX :∀{l:List Imp}{a:List (ByteArray×ByteArray)},eP a l=0->∀x∈l,dP x=0
 |y::l,a,h,x,b=>by
  unfold eP at h
  by_cases d:dP y=1
  ·rw[if_pos d]at h;omega
  rw[if_neg d]at h
  split at h
  ·omega
  ·by_cases c:dP y=0
   ·rw[if_neg (by omega)]at h
    rcases List.mem_cons.1 b with rfl|b
    ·exact c
    ·exact kX h x b
   ·rw[if_pos c]at h;exact absurd h c
theorem uB {m:Mod}(h:aL m=0):m.name.size<=10/\m.text.size<=256/\m.ex.length<=6/\m.im.length<=6/\m.pa.length<=12/\(∀x∈m.ex,(eX x).length<=13)/\(∀x∈m.im,(eG x).length<=24):=by
 obtain⟨c,_,i,_,_,g,f,e,d,b,_⟩:=aY h
 refine⟨RZ c,i,g,f,e,fun x a=>?_,fun x a=>?_⟩
 ·have:=RZ (lJ d x a).1
  rw[lS];omega
 ·have:=Ug (kX b x a)
  have c:=RZ this.1
  have j:=RZ this.2.1
  rw[nW];omega
theorem uW {z a:Int}:∀{l:List Pat}{e:Int},Rp z a e l=0->∀p∈l,∃d,iM z a d p=0
 |p::l,e,h,q,b=>by
  unfold Rp at h
  by_cases c:iM z a e p=0
  ·rw[if_neg (by omega)]at h
   rcases List.mem_cons.1 b with rfl|b
   ·exact⟨e,c⟩
   ·exact uW h q b
  ·rw[if_pos c]at h;exact absurd h c
theorem AA {z b e:Int}{p:Pat}(h:iM z b e p=0):aK p.kind≠0/\ -1<=p.sym/\p.sym<b/\0<=p.add/\p.add<=65535/\0<=p.at_/\p.at_<=z -aK p.kind:=by
 unfold iM at h
 by_cases a:aK p.kind=0
 ·rw[if_pos a]at h;omega
 rw[if_neg a]at h
 split at h
 ·omega
 ·exact⟨a,by omega⟩
theorem DX {m:Mod}(h:aL m=0):Rp m.text.size m.im.length 0 m.pa=0:=by
 obtain⟨d,a,l,k,j,i,g,f,e,c,b⟩:=aY h
 unfold aL at h
 rw[if_neg (by simp[d,a]),if_neg (by omega),if_neg (by omega),if_neg (by omega),if_neg (by omega),if_neg (by omega)]at h
 exact h
theorem Gx {m:Mod}(h:aL m=0):∀p∈m.pa,-1<=p.sym/\p.sym<6:=fun p a=>by
 obtain⟨e,b⟩:=uW (DX h) p a
 have:=AA b
 have c:=(aY h).2.2.2.2.2.2.1
 omega
theorem Jg (m:Mod)(w:World)(hm:m.ok w)(he:aL m=0):
  Calls Tryz.prog 126 #[m.v] w fun e w'=>e=.returned (.string ⟨(dK m).toArray⟩)/\Below w.heap.size w w':=by
 obtain⟨b1,b2,b3,b4,b5,b6,b7⟩:=uB he
 obtain⟨w0,a1⟩:=Nm (w.alloc (.cells #[.string m.name,.int .i64 m.major,.int .i64 m.minor,.string m.text,.slice m.eA m.ex.length m.eC,.slice m.iA m.im.length m.iC,.slice m.pA m.pa.length m.pC] 70))
 obtain⟨O,e1,e2,e3,e4,e5,e6,hz,r⟩:=wE a1
 obtain⟨eA,a5⟩:=Nm m.eA
 obtain⟨iA,a3⟩:=Nm m.iA
 obtain⟨pA,a2⟩:=Nm m.pA
 rw[<-a5]at e4
 rw[<-a3]at e5
 rw[<-a2]at e6
 have e9:=Hp a5
 have e7:=Hp a3
 have d9:=Hp a2
 have f2:=a1.symm
 have f7:w.heap.size<w0.heap.size:=by omega
 have H0:=Hp r
 obtain⟨w1,L⟩:=Nm (w0.alloc (.cells #[.pointer none,.slice none 0 0] 235))
 have a8:Wr (w.heap.size+1) [] w1:=by
  have:=Lib.fresh_isBuilder 235 5 w0
  rw[hz]at this
  exact L▸this
 have D:Below (w.heap.size+1) w0 w1:=by rw[L];exact(GZ4 _ _).alloc (by omega) _
 have f1:=L.symm
 have HM:=Hp hm
 have R1:=Hp a8
 have B1:=Hp D
 have c1:=nX D
 have b8:dK m=dK m:=rfl
 have hN:m.name.data.toList.length=m.name.size:=by rw[Array.length_toList];rfl
 have hT:m.text.data.toList.length=m.text.size:=by rw[Array.length_toList];rfl
 clear a1 r L a8 D b8 hm a5 a3 a2
 go_enter Tryz.func126,Tryz.ntmps126
 go_wp2_with fail
 refine(rH (w.heap.size+1) m.name [] w1 R1.out (by simp;omega)).mono ?_
 rintro e w2 ⟨⟨u2,rfl⟩,h2,d0,d7⟩
 have B2:=Hp (B1.trans d0)
 have c2:=nX B2.out
 have R2:=Hp h2
 clear h2 d0 d7 c1
 go_wp2_with fail
 refine(Gt (w.heap.size+1) 1 m.major m.minor _ w2 R2.out (by omega) (by simp only[List.nil_append,aT];omega)).mono ?_
 rintro e w3 ⟨⟨u3,rfl⟩,h3,c8,d6⟩
 have B3:=Hp (B2.trans c8)
 have c3:=nX B3.out
 have R3:=Hp h3
 clear h3 c8 d6 c2
 go_wp2_with fail
 refine(jH (w.heap.size+1) 2 m.text.size _ w3 R3.out (by omega) (by simp only[List.nil_append,GZ8,digits_length,aT];omega)).mono ?_
 rintro e w4 ⟨⟨u4,rfl⟩,h4,c7,d5⟩
 have B4:=Hp (B3.trans c7)
 have c4:=nX B4.out
 have R4:=Hp h4
 clear h4 c7 d5 c3
 go_wp2_with fail
 go_region_with (go_at_call 89;refine(jW 235 (w.heap.size+1) Iy _ m.text w4.drew R4.out (by simp only[List.nil_append,GZ8,digits_length,aT];omega)).mono ?_;rintro e w5 ⟨⟨u5,rfl⟩,h5,c0,d4⟩)
 obtain⟨P,hP⟩:=Nm (kG m)
 have R5:=Hp (show Wr (w.heap.size+1) P w5 by rw[hP];simpa[kG]using h5)
 have f8:P.length<=280:=by rw[hP];unfold kG;simp only[GZ8,digits_length,aT,hT];omega
 have y:=Hp (show dK m=P++digits m.ex.length 1++m.ex.flatMap eX++digits m.im.length 1++m.im.flatMap eG++digits m.pa.length 1++m.pa.flatMap gB by rw[hP];rfl)
 have B5:=Hp (B4.drew.trans c0)
 have c5:=nX B5.out
 clear h5 c0 d4 c4 hP R4 R3 R2
 go_wp2_with fail
 refine(jH (w.heap.size+1) 1 m.ex.length _ w5 R5.out (by omega) (by omega)).mono ?_
 rintro e w6 ⟨⟨u6,rfl⟩,F,k,C⟩
 obtain⟨P1,a7⟩:=Nm (P++digits m.ex.length 1)
 have f5:P1.length<=281:=by rw[a7,GZ8,digits_length];omega
 rw[<-a7]at F y
 have R6:=Hp F
 have Y:=Hp (B5.trans k)
 have c6:=nX Y.out
 clear F k C c5 a7 R5
 go_wp2_with fail
 go_loopw [44] (fun i wr=>∃(j:Nat),j<=m.ex.length/\i=.int .i64 j/\Wr (w.heap.size+1) (P1++(m.ex.take j).flatMap eX) wr/\Below (w.heap.size+1) w0 wr) (fun i _=>m.ex.length -(intOf i).toNat)
 case atStart=>exact⟨0,by omega,rfl,by simpa using R6.out,Y.out⟩
 case round=>
  obtain⟨j,hj,rfl,u,r⟩:=hrel
  have B:=Hp r
  have z:=Hp u
  have b9:=u.lt
  have HX:=Hp (show Below w.heap.size w wr from H0.trans (r.mono (by omega)))
  have d:=kF (f:=eX) (K:=13) (l:=m.ex.take j) (fun x A=>b6 x (List.mem_of_mem_take A))
  rw[GY6]at d
  have c:(P1++(m.ex.take j).flatMap eX).length<=400:=by rw[GZ8];omega
  by_cases b:j<m.ex.length
  ·have S:(j:Int)<m.ex.length:=by omega
   obtain⟨ad,s,d1,h0,h1⟩:=mF HM.ex.1 HX.out j b
   obtain rfl:eA=some ad:=e9.trans s
   clear s
   have X:=Hp (Sm (f:=eX) b)
   have A:=b6 (m.ex[j]'b) (GZ9 _)
   obtain⟨x,n⟩:=Nm (m.ex[j]'b)
   rw[<-n]at h0 h1 X A
   rw[lS]at A
   obtain⟨Q,a⟩:=Nm (wr.alloc (.cells #[.string x.name,.int .i64 x.at_] 159))
   obtain⟨x0,x1,a0,g⟩:=Qz a
   have b0:Q.heap[wr.heap.size]? =some (.cells #[.string x.name,.int .i64 x.at_] 159 (0,0)):=a▸heap_alloc_new _ _
   have G:=Hp b0
   have R:=a.symm
   have RX:=Hp (z.below g)
   have BX:=Hp (B.trans (g.mono (by omega)))
   clear r u d n a b0 g
   go_wp2_with fail
   refine(rH (w.heap.size+1) x.name _ Q RX.out (by omega)).mono ?_
   rintro e J ⟨⟨u7,rfl⟩,W,q,o⟩
   have R7:=Hp W
   have B7:=Hp (BX.trans q)
   have a4:=o.heap G.out (by omega) (by decide)
   have y0:J.cell? ⟨wr.heap.size,0,none⟩=some (.string x.name):=by rw[Lib.cell_of_heap a4];rfl
   have y1:J.cell? ⟨wr.heap.size,1,none⟩=some (.int .i64 x.at_):=by rw[Lib.cell_of_heap a4];rfl
   clear W q o a4 x0 x1
   go_wp2_with fail
   refine(jH (w.heap.size+1) 2 x.at_ _ J R7.out (by omega) (by rw[GZ8,aT];omega)).mono ?_
   rintro e Z ⟨⟨u8,rfl⟩,V,p,t⟩
   have R8:=Hp V
   have B8:=Hp (B7.trans p)
   clear V p t y0 y1
   go_wp2_with fail
   go_roundw
   case rel=>exact⟨j+1,by omega,by go_num,by rw[X.out];have:=R8.out;simpa[eX]using this,B8.out⟩
   case measure=>(simp[intOf];try omega)
  ·have O:m.ex.take j=m.ex:=List.take_of_length_le (by omega)
   rw[O]at z c
   have c9:=nX B.out
   clear O d r u
   go_wp2_with fail
   refine(jH (w.heap.size+1) 1 m.im.length _ wr z.out (by omega) (by omega)).mono ?_
   rintro e w6 ⟨⟨u6,rfl⟩,F,k,C⟩
   obtain⟨P2,a6⟩:=Nm (P1++m.ex.flatMap eX++digits m.im.length 1)
   have f4:P2.length<=401:=by rw[a6,GZ8,digits_length];omega
   rw[<-a6]at F y
   have R6:=Hp F
   have Y:=Hp (B.trans k)
   have c6:=nX Y.out
   clear F k C c9 a6 z B c
   go_wp2_with fail
   go_loopw [67] (fun i wr=>∃(j:Nat),j<=m.im.length/\i=.int .i64 j/\Wr (w.heap.size+1) (P2++(m.im.take j).flatMap eG) wr/\Below (w.heap.size+1) w0 wr) (fun i _=>m.im.length -(intOf i).toNat)
   case atStart=>exact⟨0,by omega,rfl,by simpa using R6.out,Y.out⟩
   case round=>
    obtain⟨j,hj,rfl,u,r⟩:=hrel
    have B:=Hp r
    have z:=Hp u
    have b9:=u.lt
    have HX:=Hp (show Below w.heap.size w wr from H0.trans (r.mono (by omega)))
    have d:=kF (f:=eG) (K:=24) (l:=m.im.take j) (fun x A=>b7 x (List.mem_of_mem_take A))
    rw[GY6]at d
    have c:(P2++(m.im.take j).flatMap eG).length<=600:=by rw[GZ8];omega
    by_cases b:j<m.im.length
    ·have S:(j:Int)<m.im.length:=by omega
     obtain⟨ad,s,d1,h0,h1,h2,h3⟩:=TA HM.im.1 HX.out j b
     obtain rfl:iA=some ad:=e7.trans s
     have X:=Hp (Sm (f:=eG) b)
     have A:=b7 (m.im[j]'b) (GZ9 _)
     obtain⟨x,n⟩:=Nm (m.im[j]'b)
     rw[<-n]at h0 h1 h2 h3 X A
     rw[nW]at A
     obtain⟨Q,a⟩:=Nm (wr.alloc (.cells #[.string x.mod,.string x.name,.int .i64 x.major,.int .i64 x.minor] 173))
     obtain⟨x0,x1,x2,x3,a0,g⟩:=oJ a
     have G:=Hp (show Q.heap[wr.heap.size]? =some (.cells #[.string x.mod,.string x.name,.int .i64 x.major,.int .i64 x.minor] 173 (0,0)) from a▸heap_alloc_new _ _)
     have R:=a.symm
     have RX:=Hp (z.below g)
     have BX:=Hp (B.trans (g.mono (by omega)))
     clear r u d n a g s
     go_wp2_with fail
     refine(rH (w.heap.size+1) x.mod _ Q RX.out (by omega)).mono ?_
     rintro e J ⟨⟨u7,rfl⟩,W,q,o⟩
     have R7:=Hp W
     have B7:=Hp (BX.trans q)
     have I:=Hp (o.heap G.out (by omega) (by decide))
     have y1:J.cell? ⟨wr.heap.size,1,none⟩=some (.string x.name):=by rw[Lib.cell_of_heap I.out];rfl
     clear W q o x0 x1 x2 x3
     go_wp2_with fail
     refine(rH (w.heap.size+1) x.name _ J R7.out (by rw[GZ8,aT];omega)).mono ?_
     rintro e Z ⟨⟨u8,rfl⟩,V,p,t⟩
     have R8:=Hp V
     have B8:=Hp (B7.trans p)
     have H:=Hp (t.heap I.out (by omega) (by decide))
     have y2:Z.cell? ⟨wr.heap.size,2,none⟩=some (.int .i64 x.major):=by rw[Lib.cell_of_heap H.out];rfl
     have y3:Z.cell? ⟨wr.heap.size,3,none⟩=some (.int .i64 x.minor):=by rw[Lib.cell_of_heap H.out];rfl
     clear V p t y1
     go_wp2_with fail
     refine(Gt (w.heap.size+1) 1 x.major x.minor _ Z R8.out (by omega) (by rw[GZ8,GZ8,aT,aT];omega)).mono ?_
     rintro e w9 ⟨⟨u9,rfl⟩,h9,E,M⟩
     have R9:=Hp h9
     have B9:=Hp (B8.trans E)
     clear h9 E M y2 y3
     go_wp2_with fail
     go_roundw
     case rel=>exact⟨j+1,by omega,by go_num,by rw[X.out];have:=R9.out;simpa[eG]using this,B9.out⟩
     case measure=>(simp[intOf];try omega)
    ·have O:m.im.take j=m.im:=List.take_of_length_le (by omega)
     rw[O]at z c
     have c9:=nX B.out
     clear O d r u
     go_wp2_with fail
     refine(jH (w.heap.size+1) 1 m.pa.length _ wr z.out (by omega) (by omega)).mono ?_
     rintro e w6 ⟨⟨u6,rfl⟩,F,k,C⟩
     obtain⟨P3,N⟩:=Nm (P2++m.im.flatMap eG++digits m.pa.length 1)
     have f3:P3.length<=601:=by rw[N,GZ8,digits_length];omega
     have U:P3≠[]:=by rw[N];intro h;have:=congrArg List.length h;rw[GZ8,digits_length]at this;simp at this
     rw[<-N]at F y
     have R6:=Hp F
     have Y:=Hp (B.trans k)
     have c6:=nX Y.out
     have d3:=Hp U
     clear F k C c9 N z B c U
     go_wp2_with fail
     go_loopw [96] (fun i wr=>∃(j:Nat),j<=m.pa.length/\i=.int .i64 j/\Wr (w.heap.size+1) (P3++(m.pa.take j).flatMap gB) wr/\Below (w.heap.size+1) w0 wr) (fun i _=>m.pa.length -(intOf i).toNat)
     case atStart=>exact⟨0,by omega,rfl,by simpa using R6.out,Y.out⟩
     case round=>
      obtain⟨j,hj,rfl,u,r⟩:=hrel
      have B:=Hp r
      have z:=Hp u
      have b9:=u.lt
      have HX:=Hp (show Below w.heap.size w wr from H0.trans (r.mono (by omega)))
      have d:=kF (f:=gB) (K:=6) (l:=m.pa.take j) (fun x _=>by rw[lK];omega)
      rw[GY6]at d
      have c:(P3++(m.pa.take j).flatMap gB).length<=700:=by rw[GZ8];omega
      by_cases b:j<m.pa.length
      ·have S:(j:Int)<m.pa.length:=by omega
       obtain⟨ad,s,d1,h0,h1,h2,h3⟩:=qE HM.pa.1 HX.out j b
       obtain rfl:pA=some ad:=d9.trans s
       have X:=Hp (Sm (f:=gB) b)
       have A:=Gx he (m.pa[j]'b) (GZ9 _)
       obtain⟨x,n⟩:=Nm (m.pa[j]'b)
       rw[<-n]at h0 h1 h2 h3 X A
       have Q1:=Hp (show wrap64 (x.sym+1)=x.sym+1 from IntWalk.wrap64_in _ (by omega))
       clear A
       obtain⟨Q,a⟩:=Nm (wr.alloc (.cells #[.int .i64 x.kind,.int .i64 x.at_,.int .i64 x.sym,.int .i64 x.add] 180))
       obtain⟨x0,x1,x2,x3,a0,g⟩:=oJ a
       have G:=Hp (show Q.heap[wr.heap.size]? =some (.cells #[.int .i64 x.kind,.int .i64 x.at_,.int .i64 x.sym,.int .i64 x.add] 180 (0,0)) from a▸heap_alloc_new _ _)
       have R:=a.symm
       have RX:=Hp (z.below g)
       have BX:=Hp (B.trans (g.mono (by omega)))
       clear r u d n a g s a0
       go_wp2_with fail
       refine(jH (w.heap.size+1) 1 x.kind _ Q RX.out (by omega) (by omega)).mono ?_
       rintro e J ⟨⟨u7,rfl⟩,W,q,o⟩
       have R7:=Hp W
       have B7:=Hp (BX.trans q)
       have I:=Hp (o.heap G.out (by omega) (by decide))
       have y1:J.cell? ⟨wr.heap.size,1,none⟩=some (.int .i64 x.at_):=by rw[Lib.cell_of_heap I.out];rfl
       clear W q o x0 x1 x2 x3
       go_wp2_with fail
       refine(jH (w.heap.size+1) 2 x.at_ _ J R7.out (by omega) (by rw[GZ8,digits_length];omega)).mono ?_
       rintro e Z ⟨⟨u8,rfl⟩,V,p,t⟩
       have R8:=Hp V
       have B8:=Hp (B7.trans p)
       have H:=Hp (t.heap I.out (by omega) (by decide))
       have y2:Z.cell? ⟨wr.heap.size,2,none⟩=some (.int .i64 x.sym):=by rw[Lib.cell_of_heap H.out];rfl
       clear V p t y1
       go_wp2_with fail
       rw[Q1.out]
       refine(jH (w.heap.size+1) 1 (x.sym+1) _ Z R8.out (by omega) (by rw[GZ8,GZ8,digits_length,digits_length];omega)).mono ?_
       rintro e w9 ⟨⟨u9,rfl⟩,h9,E,M⟩
       have R9:=Hp h9
       have B9:=Hp (B8.trans E)
       have e8:=Hp (M.heap H.out (by omega) (by decide))
       have y3:w9.cell? ⟨wr.heap.size,3,none⟩=some (.int .i64 x.add):=by rw[Lib.cell_of_heap e8.out];rfl
       clear h9 E M y2
       go_wp2_with fail
       refine(jH (w.heap.size+1) 2 x.add _ w9 R9.out (by omega) (by rw[GZ8,GZ8,GZ8,digits_length,digits_length,digits_length];omega)).mono ?_
       rintro e f6 ⟨⟨u10,rfl⟩,d2,T,a9⟩
       have d8:=Hp d2
       have f0:=Hp (B9.trans T)
       clear d2 T a9 y3
       go_wp2_with fail
       go_roundw
       case rel=>exact⟨j+1,by omega,by go_num,by rw[X.out];have:=d8.out;simpa[gB]using this,f0.out⟩
       case measure=>(simp[intOf];try omega)
      ·have O:m.pa.take j=m.pa:=List.take_of_length_le (by omega)
       rw[O]at z c
       clear O d r u
       go_wp2_with fail
       refine(GN 235 (w.heap.size+1) _ wr z.out (by intro h;exact d3.out (List.append_eq_nil_iff.1 h).1)).mono ?_
       rintro e w6 ⟨rfl,k⟩
       go_wp2_with fail
       go_ret
       exact⟨by rw[y.out];rfl,H0.trans ((B.trans k).mono (by omega))⟩
end
section
open Go.RowKit
def Rd (B:Nat)(a:Rest)(w:World):Prop:=w.heap[B]? =some (.cells #[.string (sof (left a)),.bool a.isNone] 188 (0,0))
theorem Rd.lt {B:Nat}{a:Rest}{w:World}(h:Rd B a w):B<w.heap.size:=(ZL h)
theorem Rd.cells {B:Nat}{a:Rest}{w:World}(h:Rd B a w):w.cell? ⟨B,0,none⟩=some (.string (sof (left a)))/\w.cell? ⟨B,1,none⟩=some (.bool a.isNone)/\w.frozen? ⟨B,0,none⟩=false/\w.frozen? ⟨B,1,none⟩=false:=by
 unfold Rd at h
 refine⟨?_,?_,?_,?_⟩<;>simp[World.cell?,World.frozen?,h]
theorem kH (l:List UInt8):(sof l).size=l.length:=by show l.toArray.size=_;simp
theorem Tw (l:List UInt8)(a b:Nat):(sof l).extract a b=sof ((l.take b).drop a):=by
 refine ba_eq ?_
 rw[Lib.extract_data]
 simp[List.drop_take]
theorem VI (B:Nat)(a:Rest)(n:Nat)(w:World)(h:Rd B a w)(l:(left a).length<=big)(_hn:n<=100000):
  Calls Tryz.prog 129 #[.pointer (some ⟨B,0,none⟩),.int .i64 n] w fun e i=>e=.returned (.string (sof (txt n a).1))/\Rd B (txt n a).2 i/\Only B w i:=by
 obtain⟨t,r,q,p⟩:=h.cells
 have H:=Hp h
 unfold big at l
 have k:=kH (left a)
 by_cases j:(left a).length<n
 ·have d:((left a).length:Int)<n:=by omega
  have b:txt n a=([],none):=by
   cases a with
   |none=>rfl
   |some s=>exact wN j
  have c:=Hp b
  clear h b
  go_enter Tryz.func129,Tryz.ntmps129
  go_wp2_with fail
  go_ret
  refine⟨by rw[c.out];rfl,?_,(Only.set 0 _).trans (Only.set 1 _)⟩
  rw[c.out]
  unfold Rd
  have g:=heap_setCell_same w B 0 _ _ (.string ⟨#[]⟩) H.out
  have f:=heap_setCell_same _ B 1 _ _ (.bool true) g
  rw[f]
  rfl
 ·have d:decide (((left a).length:Int)<n)=false:=by simp;omega
  have o:(n:Int)<=(left a).length:=by omega
  have b:(txt n a).1=(left a).take n/\left (txt n a).2=(left a).drop n/\(txt n a).2.isNone=a.isNone:=by
   cases a with
   |none=>exact⟨by simp[txt,left],by simp[txt,left],rfl⟩
   |some s=>rw[oU (show¬s.length<n from j)];exact⟨rfl,rfl,rfl⟩
  have c:=Hp b
  clear h b
  go_enter Tryz.func129,Tryz.ntmps129
  go_wp2_with fail
  go_ret
  obtain⟨g,f,m⟩:=c.out
  refine⟨?_,?_,Only.set 0 _⟩
  ·show Ending.returned (.string ((sof (left a)).extract 0 n))=_
   rw[Tw,g]
   simp
  ·unfold Rd
   rw[f,m,heap_setCell_same w B 0 _ _ _ H.out,Tw]
   simp[List.take_of_length_le]
theorem Ia (n:Nat)(a:Rest):(txt n a).1.length<=n:=by
 rcases lI n a with h|h
 ·omega
 ·rw[h.1];simp
theorem eY (B:Nat)(a:Rest)(k:Nat)(w:World)(h:Rd B a w)(u:(left a).length<=big)(v:1<=k)(x:k<=4):
  Calls Tryz.prog 128 #[.pointer (some ⟨B,0,none⟩),.int .i64 k] w fun e o=>e=.returned (.int .i64 (aI k a).1)/\Rd B (aI k a).2 o/\Only B w o:=by
 have m:=Hp (VI B a k w h u (by omega))
 have b:=lI k a
 have f:=Ia k a
 have l:(aI k a).1=num (txt k a).1:=rfl
 have j:(aI k a).2=(txt k a).2:=rfl
 rw[l,j]
 generalize txt k a=T at*
 obtain⟨t,s⟩:=T
 simp only at m b f l j ⊢
 clear l j h
 have c:=kH t
 rcases b with b|⟨rfl,rfl⟩
 ·have i:=Hp (fun W=>QL (sof t) 0 k W (by rw[c];omega) (by rw[c];exact pU (by omega) (by omega) (by omega) (by omega)))
  have p:((sof t).data.toList.drop 0).take k=t:=by simp[<-b]
  rw[p]at i
  change Hid (∀W,Calls _ _ #[.string (sof t),.int .i64 0,.int .i64 k] W _)at i
  clear p b f
  go_enter Tryz.func128,Tryz.ntmps128
  go_wp2_with (first|(go_at_call 129;refine(m.out).mono ?_;rintro e r ⟨rfl,g,d⟩;have n:=Hp g;clear g)|(go_at_call 197;with_reducible refine(i.out _).mono ?_;rintro e q ⟨rfl,rfl⟩))
  go_ret
  exact⟨rfl,n.out,d⟩
 ·have i:=Hp (fun W=>Q6 (sof []) 0 k W (by rw[c];simp) (by
   rw[c];unfold eQ;rw[if_neg (by omega),if_pos (by simp;omega)];omega))
  clear f
  go_enter Tryz.func128,Tryz.ntmps128
  go_wp2_with (first|(go_at_call 129;refine(m.out).mono ?_;rintro e r ⟨rfl,g,d⟩;have n:=Hp g;clear g)|(go_at_call 197;with_reducible refine(i.out _).mono ?_;rintro e q ⟨rfl,rfl⟩))
  go_ret
  exact⟨rfl,n.out,d⟩
theorem rJ (B:Nat)(a:Rest)(w:World)(h:Rd B a w)(l:(left a).length<=big):
  Calls Tryz.prog 127 #[.pointer (some ⟨B,0,none⟩)] w fun e j=>e=.returned (.string (sof (nam a).1))/\Rd B (nam a).2 j/\Only B w j:=by
 have i:=Hp (eY B a 1 w h l (by omega) (by omega))
 have r:=(dZ 1 a (by omega)).1
 have c:=Ru a
 have b:(left (aI 1 a).2).length<=big:=dB 1 l
 have o:nam a=txt (aI 1 a).1.toNat (aI 1 a).2:=rfl
 rw[o]
 generalize aI 1 a=T at*
 obtain⟨n,d⟩:=T
 simp only at i r c b ⊢
 obtain⟨k,rfl⟩:∃k:Nat,n=k:=⟨n.toNat,by omega⟩
 have s:=Hp (fun W q=>VI B d k W q b (by omega))
 have p:((k:Int)).toNat=k:=by omega
 rw[p]
 change Hid (Calls _ _ #[_,.int .i64 1] w _)at i
 clear h o p
 go_enter Tryz.func127,Tryz.ntmps127
 go_wp2_with (first|(go_at_call 128;refine(i.out).mono ?_;rintro e x ⟨rfl,c,g⟩;have u:=Hp c;clear c)|(go_at_call 129;refine(s.out _ u.out).mono ?_;rintro e v ⟨rfl,m,f⟩;have t:=Hp m;clear m))
 go_ret
 exact⟨rfl,t.out,g.trans f⟩
end
end Go.Proofs.YtjiedaialianmaaGreat
