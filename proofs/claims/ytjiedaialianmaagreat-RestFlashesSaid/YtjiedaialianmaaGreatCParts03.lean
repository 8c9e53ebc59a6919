import Derived.Test.YtjiedaialianmaaGreatBPlRe01
import Derived.Test.YtjiedaialianmaaGreatKTiny
namespace Go.Proofs.YtjiedaialianmaaGreat
section
open Go.RowKit
theorem aP.empty (w:World) (base:Nat) (hb:base<=w.heap.size):aP (w.alloc (.cells #[] 83)) base (.slice (some ⟨w.heap.size,0,none⟩) 0 0) []:=World.ownsRow_made w #[] 0 hb (Nat.zero_le _) rfl
end
section
open Go
open Go.ChangeShapes Go.WideShapes Go.ChangeAt Go.RowKit Go.WideMaps Go.WideElems Go.Lib
theorem wp_errs (W:World) {o:Oper} {a:Act} {K:Act->World->Prop} {Q:Exit->Act->World->Prop} (s x:Operand)
  (ho:o.op=.call {callee:=.builtin .append,args:=#[s,x],argTypes:=#[34,34]}) (base:Nat) (v:Value) (l0:List Int) (hs:a.eval s=v) (hown:dN W base v l0)
  (B:Nat) (A:Option Addr) (c:Nat) (l1:List Int) (hx:a.eval x=.slice A l1.length c) (hr:dN W B (.slice A l1.length c) l1) (hlen:l0.length+l1.length<=1000000) (hbase:base<=W.heap.size)
  (h:∀v' w',dN w' base v' (l0++l1)->Below base W w'->W.grownBy w' v.ownBlock->K (a.put o.dst v') w'):o.wp Tryz.prog a W K Q:=by
 obtain⟨i0,hi,hz0,hz1,hz2⟩:=info_parts Tryz.Pb
 refine jQ W s x 34 ho base 30 i0 (.int .i64 0) 1 8 Tryz.underlying34 hi hz0 hz1 hz2 rfl (by decide) v l0.length (l0.map iv) hs hown W.heap.size A l1.length c (l1.map iv) hx (Reads.of_own hr) (by intro u hu;obtain⟨n,_,rfl⟩:=List.mem_map.1 hu;rfl) (by simp only[maxLen];omega) (by omega) hbase ?_
 intro v' w' h1 h2 _
 exact h v' w' (by unfold dN;simpa using h1) ((Below.refl base W).grown h2 hbase (iW hown)) h2
theorem wpList_errs (W:World) {ops:Array Oper} {rest:List Oper} {o:Oper} {a:Act} {Q:Exit->Act->World->Prop} (hw:Region.wanted o (yielded ops a.tmps)=true) (s x:Operand)
  (ho:o.op=.call {callee:=.builtin .append,args:=#[s,x],argTypes:=#[34,34]}) (base:Nat) (v:Value) (l0:List Int) (hs:a.eval s=v) (hown:dN W base v l0)
  (B:Nat) (A:Option Addr) (c:Nat) (l1:List Int) (hx:a.eval x=.slice A l1.length c) (hr:dN W B (.slice A l1.length c) l1) (hlen:l0.length+l1.length<=1000000) (hbase:base<=W.heap.size)
  (h:∀v' w',dN w' base v' (l0++l1)->Below base W w'->W.grownBy w' v.ownBlock->wpList Tryz.prog ops Q rest (a.put o.dst v') w'):wpList Tryz.prog ops Q (o::rest) a W:=by
 unfold wpList
 rw[if_pos hw]
 exact .inl (wp_errs W s x ho base v l0 hs hown B A c l1 hx hr hlen hbase h)
theorem dN.empty (w:World) (base:Nat) (hb:base<=w.heap.size):dN (w.alloc (.cells #[] 30)) base (.slice (some ⟨w.heap.size,0,none⟩) 0 0) []:=World.ownsRow_made w #[] 0 hb (Nat.zero_le _) rfl
end
end Go.Proofs.YtjiedaialianmaaGreat
