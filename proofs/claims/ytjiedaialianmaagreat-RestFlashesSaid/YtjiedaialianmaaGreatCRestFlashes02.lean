import Derived.Test.YtjiedaialianmaaGreatCParts03
import Derived.Test.YtjiedaialianmaaGreatCRestFlashes01
import Derived.Test.YtjiedaialianmaaGreatKTiny
open Go
namespace Go.Proofs.YtjiedaialianmaaGreat
open Go.RowKit Go.Lib
theorem er_capR {w:World} {base size n c:Nat} {e:TypeId} {A:Option Addr} {xs:List Value} (h:w.ownsRow base e size (.slice A n c) n xs):n<=c:=by
 rcases h.2 with⟨e1,e2⟩|⟨g,cap,cur,e1,_,_,hc,_⟩
 ·omega
 ·injection e1 with _ _ e3;omega
theorem wpList_exps (W:World) {ops:Array Oper} {rest:List Oper} {o:Oper} {a:Act} {Q:Exit->Act->World->Prop} (hgd:o.guard=none) (s x:Operand)
  (ho:o.op=.call {callee:=.builtin .append,args:=#[s,x],argTypes:=#[22,22]}) (base:Nat) (v:Value) (l0:List Exp) (hs:a.eval s=v) (hown:ExpOwn W base v l0)
  (A:Option Addr) (c:Nat) (l1:List Exp) (hx:a.eval x=.slice A l1.length c) (hr:Row Exp.cells 2 W A l1) (hlen:l0.length+l1.length<=5864062014700) (hbase:base<=W.heap.size)
  (h:∀v' w',ExpOwn w' base v' (l0++l1)->Below base W w'->wpList Tryz.prog ops Q rest (a.put o.dst v') w'):wpList Tryz.prog ops Q (o::rest) a W:=by
 obtain⟨i0,hi,hz0,hz1,hz2⟩:=info_parts Tryz.infoExp
 refine eO W hgd s x 22 ho base 159 i0 (.agg #[.string ⟨#[]⟩,.int .i64 0]) 2 24 Tryz.underlying22 hi hz0 hz1 hz2 rfl (by decide) v l0.length (l0.flatMap Exp.cells) hs hown W.heap.size A l1.length c (l1.flatMap Exp.cells) hx hr
  (fun u hu=>by obtain⟨y,_,hy⟩:=List.mem_flatMap.1 hu;simp only[Exp.cells,List.mem_cons,List.not_mem_nil,or_false]at hy;rcases hy with rfl|rfl<;>rfl) (by simp only[maxLen];omega) (by omega) hbase ?_
 intro v' w' h1 h2 _
 exact h v' w' (by unfold ExpOwn;rw[List.length_append,List.flatMap_append];exact h1) ((Below.refl base W).grown h2 hbase (iW hown))
theorem ExpOwn.empty (w:World) (base:Nat) (hb:base<=w.heap.size):ExpOwn (w.alloc (.cells #[] 159)) base (.slice (some ⟨w.heap.size,0,none⟩) 0 0) []:=World.ownsRow_made w #[] 0 hb (Nat.zero_le _) rfl
end Go.Proofs.YtjiedaialianmaaGreat
