import Derived.Test.YtjiedaialianmaaGreatA24
import Derived.Test.YtjiedaialianmaaGreatKTiny
namespace Go.Proofs.YtjiedaialianmaaGreat
section
open Go
theorem play_len' (k:Krn) (F:List ByteArray) (cs:List Cm):(fD k F cs).2.1.length<=cs.length:=by
 unfold fD
 by_cases h:40<cs.length
 ·rw[if_pos h];exact Nat.zero_le _
 ·rw[if_neg h]
  by_cases h2:S9 k F≠0
  ·rw[if_pos h2];exact Nat.zero_le _
  ·rw[if_neg h2];exact BS cs
end
section
open Go.ChangeShapes Go.WideShapes Go.ChangeAt Go.RowKit Go.WideMaps Go.WideElems
theorem Row.take {α:Type} {enc:α->List Value} {k:Nat} {w:World} {A:Option Addr} {l:List α} (hk:∀x,(enc x).length=k) (h:Row enc k w A l) (i:Nat):Row enc k w A (l.take i):=by
 refine⟨flat_length hk _,fun hn=>?_⟩
 rw[List.length_take]at hn
 obtain⟨ad,e,hb,hc⟩:=h.2 (by omega)
 refine⟨ad,e,hb,fun j u hu=>hc j u ?_⟩
 conv=>lhs;rw[<-List.take_append_drop i l]
 rw[List.flatMap_append,List.getElem?_append_left]
 ·exact hu
 ·exact(List.getElem?_eq_some_iff.1 hu).1
theorem Row.drop {α:Type} {enc:α->List Value} {k:Nat} {w:World} {ad:Addr} {l:List α} (hk:∀x,(enc x).length=k) (h:Row enc k w (some ad) l) (i:Nat):Row enc k w (some (ad.add (i*k))) (l.drop i):=by
 refine⟨flat_length hk _,fun hn=>?_⟩
 rw[List.length_drop]at hn
 obtain⟨ad',e,hb,hc⟩:=h.2 (by omega)
 obtain rfl:=Option.some.inj e
 refine⟨_,rfl,by rw[aA];exact hb,fun j u hu=>?_⟩
 rw[VJ]
 refine hc _ u ?_
 conv=>lhs;rw[<-List.take_append_drop i l]
 have hl:((l.take i).flatMap enc).length=i*k:=by rw[flat_length hk,List.length_take];congr 1;omega
 rw[List.flatMap_append,List.getElem?_append_right (by omega),hl,show i*k+j -i*k=j by omega]
 exact hu
theorem Row.zero {α:Type} {enc:α->List Value} {k:Nat} {w:World} {A:Option Addr} {l:List α} (hk:∀x,(enc x).length=k) (h:l.length=0):Row enc k w A l:=⟨flat_length hk _,fun hn=>by omega⟩
end
section
open Go
open Go.ChangeShapes Go.WideShapes Go.ChangeAt Go.RowKit Go.WideMaps Go.WideElems Go.Lib
theorem cmds_cap {H:Type} {enc:TypeId×Value->H} {w:World} {base:Nat} {spare:Nat->Bool} {held:Bool} {A:Option Addr} {len cap:Nat} {d:DataW H} {p:List MemPlace}
  (h:DataW.Trod enc Tryz.prog w base spare held 25 (.slice A len cap) d p):len<=cap/\cap<=maxLen:=by
 obtain⟨fuel,hf⟩:=h
 rcases Go.Deep.open_slice Tryz.underlying25 hf with⟨e1,_⟩|⟨a,len',cap',m,n',D,Pl,e1,_,hl,hc,_⟩
 ·simp only[Value.cells,List.cons.injEq,and_true]at e1
  injection e1 with _ h1 h2
  subst h1 h2
  exact⟨Nat.le_refl _,Nat.zero_le _⟩
 ·simp only[Value.cells,List.cons.injEq,and_true]at e1
  injection e1 with _ h1 h2
  subst h1 h2
  exact⟨hl,hc⟩
theorem nE.take {w:World} {A:Option Addr} {l:List Cm} (h:nE w A l) (n:Nat):nE w A (l.take n):=
 ⟨Row.take (enc:=Cm.cells) (k:=9) (fun _=>rfl) h.row n,by have:=h.len;rw[List.length_take];omega,fun x hx=>h.each x (List.mem_of_mem_take hx)⟩
theorem nE.drop {w:World} {A:Option Addr} {l:List Cm} (h:nE w A l) (c n:Nat) (hc:l.length<=c):nE w (if c=n then A else Option.map (fun x:Addr=>x.add (n*9)) A) (l.drop n):=by
 refine⟨?_,by have:=h.len;rw[List.length_drop];omega,fun x hx=>h.each x (List.mem_of_mem_drop hx)⟩
 by_cases e:(l.drop n).length=0
 ·exact Row.zero (enc:=Cm.cells) (k:=9) (fun _=>rfl) e
 ·rw[List.length_drop]at e
  rw[if_neg (by omega)]
  obtain⟨ad,e1,_⟩:=h.row.2 (by omega)
  subst e1
  exact Row.drop (enc:=Cm.cells) (k:=9) (fun _=>rfl) h.row n
def PlayCut (w1:World) (F:List ByteArray) (es:List Int) (c:Int) (p v e:Value) (wx:World):Prop:=
 ∃(f':Fl) (eA:Option Addr) (ec B:Nat),p=.pointer (some ⟨B,0,none⟩)/\v=.slice eA es.length ec/\e=.int .i64 c/\wx.heap[B]? =some (.cells #[.slice f'.a f'.bl.length f'.c] 29 (0,0))/\w1.heap.size<=B/\Rt wx w1.heap.size f' F/\dN wx w1.heap.size (.slice eA es.length ec) es/\Below w1.heap.size w1 wx
end
end Go.Proofs.YtjiedaialianmaaGreat
