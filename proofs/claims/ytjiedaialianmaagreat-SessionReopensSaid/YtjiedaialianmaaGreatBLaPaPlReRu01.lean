import Derived.Test.YtjiedaialianmaaGreatA10
namespace Go.Proofs.YtjiedaialianmaaGreat
section
open Go.ChangeShapes Go.WideShapes Go.ChangeAt Go.RowKit Go.Deep
section
variable {H:Type} {enc:TypeId×Value->H} {w:World} {base:Nat} {spare:Nat->Bool} {held:Bool} {n:Nat} {c:Value} {cs:List Value} {y:DataW H×List MemPlace}
theorem Tryz.yK :Tryz.prog.cellsOf 24=3:=by kernel_rfl
end
end
section
set_option maxRecDepth 100000
set_option maxHeartbeats 2000000
open Go.RowKit
theorem iT (k:Krn)(w:World)(h:k.ok w):
  Calls Tryz.prog 17 #[k.v] w fun e w'=>e=.returned (.int .i64 (bJ k))/\Below w.heap.size w w':=by
 obtain⟨⟨hr,hl,hs⟩⟩:=h
 have HR:=Hp hr
 have HS:=Hp hs
 have HL:=Hp hl
 unfold big at hl
 obtain⟨w0,hw0⟩:=Nm (w.alloc (.cells #[.int .i64 k.major,.int .i64 k.minor,.slice k.eA k.ex.length k.eC] 24))
 obtain⟨g0,g1,g2,hz,hb0⟩:=uE hw0
 have hz0:w.heap.size<w0.heap.size:=by omega
 have H0:=Hp hb0
 have hw0':=hw0.symm
 clear hw0 hb0 hr hs
 obtain⟨E,hE⟩:=Nm (bJ k)
 rw[<-hE]
 have hke:bJ k=if k.major<0\/255<k.major\/k.minor<0\/255<k.minor then 3 else if 8<k.ex.length then 2 else eF [] 4096 k.ex:=rfl
 rw[hke]at hE
 clear hke
 have c3:=Hp (oP k.eA k.eC k.ex 4096 w0 ⟨HR.below H0.out,HL.out,HS.out⟩ (by omega) (by unfold big;omega))
 by_cases t1:0<=k.major/\k.major<=255
 ·have c1:=Hp (fun W=>bK k.major 0 255 W t1.1 t1.2)
  by_cases t2:0<=k.minor/\k.minor<=255
  ·have c2:=Hp (fun W=>bK k.minor 0 255 W t2.1 t2.2)
   rw[if_neg (by omega)]at hE
   clear t1 t2
   by_cases t3:8<k.ex.length
   ·rw[if_pos t3]at hE
    have t3':(8:Int)<k.ex.length:=by omega
    clear t3
    go_enter Tryz.func17,Tryz.ntmps17
    go_wp2_with (first|(go_at_call 75;(with_reducible refine(c1.out _).mono ?_);rintro e w' ⟨rfl,rfl⟩)|(go_at_call 75;(with_reducible refine(c2.out _).mono ?_);rintro e w' ⟨rfl,rfl⟩))
    go_ret
    exact⟨aC hE.symm,H0.out⟩
   ·rw[if_neg t3]at hE
    have t3':decide ((8:Int)<k.ex.length)=false:=by simp;omega
    clear t3
    go_enter Tryz.func17,Tryz.ntmps17
    go_wp2_with (first|(go_at_call 75;(with_reducible refine(c1.out _).mono ?_);rintro e w' ⟨rfl,rfl⟩)|(go_at_call 75;(with_reducible refine(c2.out _).mono ?_);rintro e w' ⟨rfl,rfl⟩)|(go_at_call 76;(with_reducible refine(c3.out).mono ?_);rintro e w3 ⟨rfl,hb3⟩))
    go_ret
    exact⟨aC hE.symm,H0.trans (hb3.mono (by omega))⟩
  ·have c2:=Hp (fun W=>RQ k.minor 0 255 W (by omega))
   rw[if_pos (by omega)]at hE
   clear t1 t2
   go_enter Tryz.func17,Tryz.ntmps17
   go_wp2_with (first|(go_at_call 75;(with_reducible refine(c1.out _).mono ?_);rintro e w' ⟨rfl,rfl⟩)|(go_at_call 75;(with_reducible refine(c2.out _).mono ?_);rintro e w' ⟨rfl,rfl⟩))
   go_ret
   exact⟨aC hE.symm,H0.out⟩
 ·have c1:=Hp (fun W=>RQ k.major 0 255 W (by omega))
  rw[if_pos (by omega)]at hE
  clear t1
  go_enter Tryz.func17,Tryz.ntmps17
  go_wp2_with (first|(go_at_call 75;(with_reducible refine(c1.out _).mono ?_);rintro e w' ⟨rfl,rfl⟩))
  go_ret
  exact⟨aC hE.symm,H0.out⟩
end
end Go.Proofs.YtjiedaialianmaaGreat
