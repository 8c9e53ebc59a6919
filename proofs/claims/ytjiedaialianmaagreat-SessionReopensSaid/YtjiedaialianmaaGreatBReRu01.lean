import Derived.Test.YtjiedaialianmaaGreatA19
set_option maxRecDepth 100000
set_option maxHeartbeats 4000000
namespace Go.Proofs.YtjiedaialianmaaGreat
open Go.RowKit Go.Lib
theorem SE (E:Int)(k k':Krn)(A A':Option Addr)(c c':Nat)(l l':List Plc)(w:World)(hk:k.ok w)(h:aU w A l)(hk':k'.ok w)(h':aU w A' l')(hs:E=0->k.bare=k'.bare/\aD l=aD l')(hn:E≠0->k.bare=Rk/\l=[]):
  Calls Tryz.prog 43 #[rgV k A l c,.int .i64 E,.int .i64 E,rgV k' A' l' c'] w fun e w'=>e=.returned (.bool true)/\Below w.heap.size w w':=by
 obtain⟨w0,hw0⟩:=Nm (w.alloc (.cells #[.int .i64 k.major,.int .i64 k.minor,.slice k.eA k.ex.length k.eC,.slice A l.length c] 39))
 obtain⟨g0,g1,g2,g3,hz0,hb0⟩:=oJ hw0
 obtain⟨x0,hx0⟩:=Nm (w0.alloc (.cells #[.int .i64 k'.major,.int .i64 k'.minor,.slice k'.eA k'.ex.length k'.eC,.slice A' l'.length c'] 39))
 obtain⟨f0,f1,f2,f3,hzx,hbx⟩:=oJ hx0
 rw[hz0]at f0 f1 f2 f3
 have k0:=(hbx.cell (p:=⟨w.heap.size,0,none⟩) (by simp;omega)).trans g0
 have k1:=(hbx.cell (p:=⟨w.heap.size,1,none⟩) (by simp;omega)).trans g1
 have k2:=(hbx.cell (p:=⟨w.heap.size,2,none⟩) (by simp;omega)).trans g2
 have k3:=(hbx.cell (p:=⟨w.heap.size,3,none⟩) (by simp;omega)).trans g3
 have HX:=Hp (hb0.trans (hbx.mono hb0.size))
 have hw0':=hw0.symm
 by_cases t:E=0
 ·obtain⟨e1,e2⟩:=hs t
  have c1:=Hp (fun W(hb:Below w.heap.size w W)=>Rw k k' A A' c c' l l' W (hk.below hb) (h.below hb) (hk'.below hb) (h'.below hb) e1 e2)
  have hx0':=hx0.symm
  subst t
  clear hw0 hx0 hb0 hbx hk h hk' h' hzx g0 g1 g2 g3 hs hn e1 e2
  go_enter Tryz.func43,Tryz.ntmps43
  go_wp2_with fail
  refine(c1.out _ HX.out).mono ?_;rintro e w1 ⟨rfl,hb1⟩
  have HB1:=Hp (HX.trans (hb1.mono HX.size))
  clear hb1
  go_wp2_with fail
  go_ret
  exact⟨by simp,HB1.out⟩
 ·obtain⟨e1,rfl⟩:=hn t
  have t':(E != 0)=true:=by simp[t]
  obtain⟨z0,hz⟩:=Nm (w0.alloc (.cells #[.int .i64 0,.int .i64 0,.slice none 0 0,.slice none 0 0] 39))
  obtain⟨n0,n1,n2,n3,hzz,hbz⟩:=oJ hz
  have HZ:=Hp (hb0.trans (hbz.mono hb0.size))
  rw[hz0]at n0 n1 n2 n3
  have z0':=(hbz.cell (p:=⟨w.heap.size,0,none⟩) (by simp;omega)).trans g0
  have z1':=(hbz.cell (p:=⟨w.heap.size,1,none⟩) (by simp;omega)).trans g1
  have z2':=(hbz.cell (p:=⟨w.heap.size,2,none⟩) (by simp;omega)).trans g2
  have z3':=(hbz.cell (p:=⟨w.heap.size,3,none⟩) (by simp;omega)).trans g3
  simp only[List.length_nil]at z3'
  have c1:=Hp (show∀W,Below w.heap.size w W->Calls Tryz.prog 22 #[rgV k A [] c,.agg #[.int .i64 0,.int .i64 0,.slice none 0 0,.slice none 0 0]] W fun e w'=>e=.returned (.bool true)/\Below W.heap.size W w' from
   fun W hb=>Rw k Rk A none c 0 [] [] W (hk.below hb) (h.below hb) (Sg W) ⟨Row.nil,Nat.zero_le _,by simp⟩ e1 rfl)
  have hz':=hz.symm
  have hx0':=Hp hx0.symm
  clear hw0 hx0 hb0 hbx hk h hk' h' hzx g0 g1 g2 g3 hs hn e1 f0 f1 f2 f3 k0 k1 k2 k3 HX hz hbz t
  simp only[List.length_nil]at hw0'
  go_enter Tryz.func43,Tryz.ntmps43
  go_wp2_with fail
  refine(c1.out _ HZ.out).mono ?_;rintro e w1 ⟨rfl,hb1⟩
  have HB1:=Hp (HZ.trans (hb1.mono HZ.size))
  clear hb1
  go_wp2_with fail
  go_ret
  exact⟨by simp,HB1.out⟩
end Go.Proofs.YtjiedaialianmaaGreat
