import Derived.Test.YtjiedaialianmaaGreatCParts02
import Derived.Test.YtjiedaialianmaaGreatKTiny
open Go
namespace Go.Proofs.YtjiedaialianmaaGreat
open Go.ChangeShapes Go.WideShapes Go.ChangeAt Go.RowKit Go.WideMaps Go.WideElems Go.Lib
theorem play_fresh {w1 w9:World} {F:List ByteArray} {es:List Int} {c:Int} {f':Fl} {eA:Option Addr} {ec:Nat} (hb:Below w1.heap.size w1 w9) (hr:Rt w9 w1.heap.size f' F) (ho:dN w9 w1.heap.size (.slice eA es.length ec) es):
  PlayCut w1 F es c (.pointer (some ⟨w9.heap.size,0,none⟩)) (.slice eA es.length ec) (.int .i64 c) (w9.alloc (.cells #[.slice f'.a f'.bl.length f'.c] 29)):=by
 have ha:Below w9.heap.size w9 (w9.alloc (.cells #[.slice f'.a f'.bl.length f'.c] 29)):=(Below.refl _ _).alloc (Nat.le_refl _) _
 exact⟨f',eA,ec,_,rfl,rfl,rfl,heap_alloc_new _ _,hb.size,hr.keep (Kp.of_below (ts:=[]) ha) (by simp),aO ho ha,hb.trans (ha.mono hb.size)⟩
theorem play_there {w1 w9:World} {F:List ByteArray} {es:List Int} {c:Int} {f':Fl} {eA:Option Addr} {ec B:Nat} {x:Value} (hz:w9.heap[B]? =some (.cells #[x] 29 (0,0))) (hB:w1.heap.size<=B) (hb:Below w1.heap.size w1 w9) (hr:Rt w9 w1.heap.size f' F) (ho:dN w9 w1.heap.size (.slice eA es.length ec) es):
  PlayCut w1 F es c (.pointer (some ⟨B,0,none⟩)) (.slice eA es.length ec) (.int .i64 c) (w9.setCell ⟨B,0,none⟩ (.slice f'.a f'.bl.length f'.c)):=by
 have hk:Kp [29] w9 (w9.setCell ⟨B,0,none⟩ (.slice f'.a f'.bl.length f'.c)):=Kp.set hz (by simp) 0 _
 exact⟨f',eA,ec,_,rfl,rfl,rfl,heap_setCell_same w9 _ 0 _ _ _ hz,hB,hr.keep hk (by decide),own_kp ho hk (by decide),hb.setCell (p:=⟨B,0,none⟩) hB _⟩
end Go.Proofs.YtjiedaialianmaaGreat
