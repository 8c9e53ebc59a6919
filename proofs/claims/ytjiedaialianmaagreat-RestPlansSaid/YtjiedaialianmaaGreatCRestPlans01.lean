import Derived.Test.YtjiedaialianmaaGreatA21
import Derived.Test.YtjiedaialianmaaGreatCRestPlans08
set_option maxRecDepth 100000
set_option maxHeartbeats 8000000
namespace Go.Proofs.YtjiedaialianmaaGreat
section
open Go.ChangeShapes Go.WideShapes Go.ChangeAt Go.RowKit Go.Deep
section
variable {H:Type} {enc:TypeId×Value->H} {w:World} {base:Nat} {spare:Nat->Bool} {held:Bool} {r:Reach} {b0:Nat} {v:Value} {d:DataW H} {p:List MemPlace}
theorem Tryz.CX :Tryz.prog.cellsOf 39=4:=by kernel_rfl
theorem Tryz.FL :Tryz.prog.cellsOf 37=1:=by kernel_rfl
end
end
section
open Go.RowKit
theorem QP {W:World}{b:Nat}{A q p o n m l j:Value}{t:TypeId}(h:W.heap[b]? =some (.cells #[A,q,p,o,n,m,l,j] t (0,0)))(a c d e f g i k:Value):
  ((((((((W.setCell ⟨b,0,none⟩ a).setCell ⟨b,1,none⟩ c).setCell ⟨b,2,none⟩ d).setCell ⟨b,3,none⟩ e).setCell ⟨b,4,none⟩ f).setCell ⟨b,5,none⟩ g).setCell ⟨b,6,none⟩ i).setCell ⟨b,7,none⟩ k).heap[b]? =some (.cells #[a,c,d,e,f,g,i,k] t (0,0))/\Only b W ((((((((W.setCell ⟨b,0,none⟩ a).setCell ⟨b,1,none⟩ c).setCell ⟨b,2,none⟩ d).setCell ⟨b,3,none⟩ e).setCell ⟨b,4,none⟩ f).setCell ⟨b,5,none⟩ g).setCell ⟨b,6,none⟩ i).setCell ⟨b,7,none⟩ k):=by
 have z:(W.setCell ⟨b,0,none⟩ a).heap[b]? =some (.cells #[a,q,p,o,n,m,l,j] t (0,0)):=heap_setCell_same W b 0 _ _ a h
 have y:((W.setCell ⟨b,0,none⟩ a).setCell ⟨b,1,none⟩ c).heap[b]? =some (.cells #[a,c,p,o,n,m,l,j] t (0,0)):=heap_setCell_same (W.setCell ⟨b,0,none⟩ a) b 1 _ _ c z
 have x:(((W.setCell ⟨b,0,none⟩ a).setCell ⟨b,1,none⟩ c).setCell ⟨b,2,none⟩ d).heap[b]? =some (.cells #[a,c,d,o,n,m,l,j] t (0,0)):=heap_setCell_same ((W.setCell ⟨b,0,none⟩ a).setCell ⟨b,1,none⟩ c) b 2 _ _ d y
 have w:((((W.setCell ⟨b,0,none⟩ a).setCell ⟨b,1,none⟩ c).setCell ⟨b,2,none⟩ d).setCell ⟨b,3,none⟩ e).heap[b]? =some (.cells #[a,c,d,e,n,m,l,j] t (0,0)):=heap_setCell_same (((W.setCell ⟨b,0,none⟩ a).setCell ⟨b,1,none⟩ c).setCell ⟨b,2,none⟩ d) b 3 _ _ e x
 have v:(((((W.setCell ⟨b,0,none⟩ a).setCell ⟨b,1,none⟩ c).setCell ⟨b,2,none⟩ d).setCell ⟨b,3,none⟩ e).setCell ⟨b,4,none⟩ f).heap[b]? =some (.cells #[a,c,d,e,f,m,l,j] t (0,0)):=heap_setCell_same ((((W.setCell ⟨b,0,none⟩ a).setCell ⟨b,1,none⟩ c).setCell ⟨b,2,none⟩ d).setCell ⟨b,3,none⟩ e) b 4 _ _ f w
 have u:((((((W.setCell ⟨b,0,none⟩ a).setCell ⟨b,1,none⟩ c).setCell ⟨b,2,none⟩ d).setCell ⟨b,3,none⟩ e).setCell ⟨b,4,none⟩ f).setCell ⟨b,5,none⟩ g).heap[b]? =some (.cells #[a,c,d,e,f,g,l,j] t (0,0)):=heap_setCell_same (((((W.setCell ⟨b,0,none⟩ a).setCell ⟨b,1,none⟩ c).setCell ⟨b,2,none⟩ d).setCell ⟨b,3,none⟩ e).setCell ⟨b,4,none⟩ f) b 5 _ _ g v
 have s:(((((((W.setCell ⟨b,0,none⟩ a).setCell ⟨b,1,none⟩ c).setCell ⟨b,2,none⟩ d).setCell ⟨b,3,none⟩ e).setCell ⟨b,4,none⟩ f).setCell ⟨b,5,none⟩ g).setCell ⟨b,6,none⟩ i).heap[b]? =some (.cells #[a,c,d,e,f,g,i,j] t (0,0)):=heap_setCell_same ((((((W.setCell ⟨b,0,none⟩ a).setCell ⟨b,1,none⟩ c).setCell ⟨b,2,none⟩ d).setCell ⟨b,3,none⟩ e).setCell ⟨b,4,none⟩ f).setCell ⟨b,5,none⟩ g) b 6 _ _ i u
 have r:((((((((W.setCell ⟨b,0,none⟩ a).setCell ⟨b,1,none⟩ c).setCell ⟨b,2,none⟩ d).setCell ⟨b,3,none⟩ e).setCell ⟨b,4,none⟩ f).setCell ⟨b,5,none⟩ g).setCell ⟨b,6,none⟩ i).setCell ⟨b,7,none⟩ k).heap[b]? =some (.cells #[a,c,d,e,f,g,i,k] t (0,0)):=heap_setCell_same (((((((W.setCell ⟨b,0,none⟩ a).setCell ⟨b,1,none⟩ c).setCell ⟨b,2,none⟩ d).setCell ⟨b,3,none⟩ e).setCell ⟨b,4,none⟩ f).setCell ⟨b,5,none⟩ g).setCell ⟨b,6,none⟩ i) b 7 _ _ k s
 exact⟨r,((((((((Only.set 0 a).trans (Only.set 1 c)).trans (Only.set 2 d)).trans (Only.set 3 e)).trans (Only.set 4 f)).trans (Only.set 5 g)).trans (Only.set 6 i)).trans (Only.set 7 k))⟩
end
section
open Go.RowKit Go.Lib
def NU :Plc:=⟨jB,0⟩
theorem IL (W:World):jB.ok W:=⟨⟨Row.nil,Nat.zero_le _,by simp[jB]⟩,⟨Row.nil,Nat.zero_le _,by simp[jB]⟩,⟨Row.nil,Nat.zero_le _⟩,Nat.zero_le _,Nat.zero_le _⟩
def jZ (k:Krn)(l:List Plc)(a:ByteArray):Int:=if aZ k l≠0 then aZ k l else if idxOf (named a) l<0 then 5 else 0
def E8 (k:Krn)(l:List Plc)(b:ByteArray)(W:World)(a:Nat)(X:Plc):Prop:=
 (jZ k l b≠0->X=NU)/\(jZ k l b=0->∀j(c:j<l.length),idxOf (named b) l=j->X.first=l[j].first/\gI X.m l[j].m/\X.m.own W a)/\X.m.ok W
theorem JR {W:World}{b:Nat}{j i g f e d c a:Value}{t:TypeId}(h:W.heap[b]? =some (.cells #[j,i,g,f,e,d,c,a] t (0,0))):
  (W.cell? ⟨b,0,none⟩=some j/\W.cell? ⟨b,1,none⟩=some i/\W.cell? ⟨b,2,none⟩=some g/\W.cell? ⟨b,3,none⟩=some f/\W.cell? ⟨b,4,none⟩=some e/\W.cell? ⟨b,5,none⟩=some d/\W.cell? ⟨b,6,none⟩=some c/\W.cell? ⟨b,7,none⟩=some a)/\
  (W.frozen? ⟨b,0,none⟩=false/\W.frozen? ⟨b,1,none⟩=false/\W.frozen? ⟨b,2,none⟩=false/\W.frozen? ⟨b,3,none⟩=false/\W.frozen? ⟨b,4,none⟩=false/\W.frozen? ⟨b,5,none⟩=false/\W.frozen? ⟨b,6,none⟩=false/\W.frozen? ⟨b,7,none⟩=false):=
 ⟨⟨heap_cell h 0,heap_cell h 1,heap_cell h 2,heap_cell h 3,heap_cell h 4,heap_cell h 5,heap_cell h 6,heap_cell h 7⟩,heap_free h 0,heap_free h 1,heap_free h 2,heap_free h 3,heap_free h 4,heap_free h 5,heap_free h 6,heap_free h 7⟩
theorem Dp (k:Krn)(A:Option Addr)(c:Nat)(l:List Plc)(o:ByteArray)(w:World)(hk:k.ok w)(h:aU w A l):
  Calls Tryz.prog 54 #[rgV k A l c,.string o] w fun e w'=>(∃X:Plc,e=.returned (.tuple #[X.v,.int .i64 (jZ k l o)])/\E8 k l o w' w.heap.size X)/\Below w.heap.size w w':=by
 obtain⟨w0,L⟩:=Nm (w.alloc (.cells #[.int .i64 k.major,.int .i64 k.minor,.slice k.eA k.ex.length k.eC,.slice A l.length c] 39))
 obtain⟨g0,g1,g2,g3,a5,O⟩:=oJ L
 obtain⟨Q,s⟩:=Nm (w0.alloc (.cells #[.string ⟨#[]⟩,.int .i64 0,.int .i64 0,.string ⟨#[]⟩,.slice none 0 0,.slice none 0 0,.slice none 0 0,.int .i64 0] 83))
 have hR:Q.heap[w.heap.size+1]? =some (.cells #[.string ⟨#[]⟩,.int .i64 0,.int .i64 0,.string ⟨#[]⟩,.slice none 0 0,.slice none 0 0,.slice none 0 0,.int .i64 0] 83 (0,0)):=by rw[s,<-a5];exact heap_alloc_new w0 _
 have n:Below w0.heap.size w0 Q:=s▸ZB
 have S:Q.heap.size=w.heap.size+2:=by rw[s];simp;omega
 have f0:=(n.cell (p:=⟨w.heap.size,0,none⟩) (by simp;omega)).trans g0
 have f1:=(n.cell (p:=⟨w.heap.size,1,none⟩) (by simp;omega)).trans g1
 have f2:=(n.cell (p:=⟨w.heap.size,2,none⟩) (by simp;omega)).trans g2
 have f3:=(n.cell (p:=⟨w.heap.size,3,none⟩) (by simp;omega)).trans g3
 have D:=Hp (O.trans (n.mono O.size))
 have HR:=Hp hR
 have HZ:=Hp S
 have b2:=L.symm
 have b1:=s.symm
 have c1:=Hp (fun W(P:Below w.heap.size w W)=>jE k A c l W (hk.below P) (h.below P))
 have c2:=Hp (fun W(P:Below w.heap.size w W)=>SY A c l o W (h.row.below P) h.len)
 have HP:=Hp h
 have R:w.heap.size<Q.heap.size:=by omega
 have r:w.heap.size+1<Q.heap.size:=by omega
 clear L s O n hR S hk h g0 g1 g2 g3
 obtain⟨E,q⟩:=Nm (jZ k l o)
 rw[<-q]
 unfold jZ at q
 have HF:=Hp (show∀(W:World)(b:Nat)(X:Plc),E8 k l o W b X↔E8 k l o W b X from fun _ _ _=>Iff.rfl)
 by_cases z:aZ k l=0
 ·rw[if_neg (by omega)]at q
  rw[z]at c1
  rcases gW (named o) l with⟨I,Z⟩|⟨j,hj,I,Z⟩
  ·rw[I]at q c2
   rw[if_pos (by omega)]at q
   have u:=Hp (show jZ k l o≠0 by unfold jZ;rw[if_neg (by omega),I,if_pos (by omega)];omega)
   clear I Z HF z
   go_enter Tryz.func54,Tryz.ntmps54
   go_wp2_with (first
    |(go_at_call 23;(with_reducible refine(c1.out _ D.out).mono ?_);rintro e w1 ⟨rfl,a⟩
      have f:=Hp (D.trans (a.mono D.size))
      have k3:=(a.cell (p:=⟨w.heap.size,3,none⟩) R).trans f3
      have t:=Hp ((a.block (w.heap.size+1) r).trans HR)
      clear a)
    |(go_at_call 124;(with_reducible refine(c2.out _ f.out).mono ?_);rintro e w2 ⟨rfl,g⟩
      have x:=Hp (f.trans (g.mono f.size))
      have d:=Hp ((g.block (w.heap.size+1) (ZL t)).trans t)
      obtain⟨⟨r0,r1,r2,r3,r4,r5,r6,r7⟩,q0,q1,q2,q3,q4,q5,q6,q7⟩:=JR d.out
      clear g))
   obtain⟨V,B⟩:=QP d.out (.string ⟨#[]⟩) (.int .i64 0) (.int .i64 0) (.string ⟨#[]⟩) (.slice none 0 0) (.slice none 0 0) (.slice none 0 0) (.int .i64 0)
   refine bodyPost_ret (results_cell_tmp rfl _ _ (w.heap.size+1) 83 _ (0,0) _ rfl V Tryz.underlying83 rfl Tryz.T9) rfl ?_
   refine⟨⟨NU,by rw[q];rfl,fun _=>rfl,fun e=>absurd e u.out,IL _⟩,x.trans ((B.below (by have:=(ZL d.out);omega)).mono (by omega))⟩
  ·rw[I]at q c2
   rw[if_neg (by omega)]at q
   have u:=Hp (show jZ k l o=0 by unfold jZ;rw[if_neg (by omega),I,if_neg (by omega)])
   have HJ:=Hp I
   have hm:=Uc (Sz z).1 l[j] (GZ9 _)
   have U:=HP.len
   unfold big at U
   have b3:(j:Int)<l.length:=by omega
   have KJ:=Hp (fun W(a6:Below w.heap.size w W)=>RS HP.row a6 j hj)
   have hx:=HP.each l[j] (GZ9 _)
   have a0:=Hp (show∀J(M:J<l.length),idxOf (named o) l=J->l[J]=l[j] from fun J M h2=>by
    have:J=j:=by omega
    subst this;rfl)
   obtain⟨y,hy⟩:=Nm (l[j]'hj)
   simp only[<-hy]at hm KJ hx a0
   have cO:=Hp (fun W(P:Below w.heap.size w W)=>Ei y.m W (hx.below P) (xQ hm.1))
   have a8:=Hp hx
   obtain⟨ad,rfl,b4,_⟩:=KJ.out _ (GZ4 _ _)
   clear I Z HF z hm hx hy
   go_enter Tryz.func54,Tryz.ntmps54
   go_wp2_with (first
    |(go_at_call 23;(with_reducible refine(c1.out _ D.out).mono ?_);rintro e w1 ⟨rfl,a⟩
      have f:=Hp (D.trans (a.mono D.size))
      have k3:=(a.cell (p:=⟨w.heap.size,3,none⟩) R).trans f3
      have a4:w.heap.size<w1.heap.size:=(by have:=a.size;omega)
      have t:=Hp ((a.block (w.heap.size+1) r).trans HR)
      clear a)
    |(go_at_call 124;(with_reducible refine(c2.out _ f.out).mono ?_);rintro e w2 ⟨rfl,g⟩
      have x:=Hp (f.trans (g.mono f.size))
      have m3:=(g.cell (p:=⟨w.heap.size,3,none⟩) a4).trans k3
      have d:=Hp ((g.block (w.heap.size+1) (ZL t)).trans t)
      obtain⟨_,ea,_,p0,p1,p2,p3,p4,p5,p6,p7⟩:=KJ.out _ x.out
      obtain rfl:=GY3 ea
      clear g))
   obtain⟨w3,K⟩:=Nm (w2.alloc (.cells #[.string y.m.name,.int .i64 y.m.major,.int .i64 y.m.minor,.string y.m.text,.slice y.m.eA y.m.ex.length y.m.eC,.slice y.m.iA y.m.im.length y.m.iC,.slice y.m.pA y.m.pa.length y.m.pC,.int .i64 y.first] 83))
   rw[<-K]
   obtain⟨d0,d1,d2,d3,d4,d5,d6,d7,T,N⟩:=zH K
   have G:=Hp (x.trans (N.mono x.size))
   have Y:w3.heap[w.heap.size+1]? =_:=(N.block (w.heap.size+1) (ZL d.out)).trans d.out
   have a2:=Hp Y
   have a7:=Hp T
   clear K N Y T m3 k3 p0 p1 p2 p3 p4 p5 p6 p7 f0 f1 f2 f3
   go_region_with (first
    |(go_at_call 125;(with_reducible refine(cO.out _ G.out.drew).mono ?_);rintro e w4 ⟨⟨i,rfl,hs,B⟩,C⟩
      have b0:=Hp (G.drew.trans (C.mono G.size))
      have n7:=(C.cell (p:=⟨w2.heap.size,7,none⟩) (by have:=a7.out;simp;omega)).trans d7
      have F:=Hp ((C.block (w.heap.size+1) (ZL a2)).trans a2)
      obtain⟨⟨r0,r1,r2,r3,r4,r5,r6,r7⟩,q0,q1,q2,q3,q4,q5,q6,q7⟩:=JR F.out
      have a1:=Hp hs
      have a9:=Hp B
      clear C hs B))
   all_goals(
    go_wp2_with fail
    obtain⟨V,B⟩:=QP F.out (.string i.name) (.int .i64 i.major) (.int .i64 i.minor) (.string i.text) (.slice i.eA i.ex.length i.eC) (.slice i.iA i.im.length i.iC) (.slice i.pA i.pa.length i.pC) (.int .i64 y.first)
    refine bodyPost_ret (results_cell_tmp rfl _ _ (w.heap.size+1) 83 _ (0,0) _ rfl V Tryz.underlying83 rfl Tryz.T9) rfl ?_
    have H:i.own _ w.heap.size:=(a9.kp (B.kp F.out (ts:=[83]) (by simp)) (by decide) (by decide) (by decide)).le G.size
    refine⟨⟨⟨i,y.first⟩,by rw[q];rfl,fun e=>absurd u.out e,fun _ J M Z=>by rw[a0.out J M Z];exact⟨rfl,a1.out,H⟩,H.ok a1.out a8.out⟩,b0.trans ((B.below (GY2 (ZL F.out))).mono (by omega))⟩)
 ·rw[if_pos z]at q
  have a3:(aZ k l != 0)=true:=by simp[z]
  have u:=Hp (show jZ k l o≠0 by unfold jZ;rw[if_pos z];exact z)
  rw[<-q]at c1 a3
  clear c2 HF z q
  go_enter Tryz.func54,Tryz.ntmps54
  go_wp2_with (first
   |(go_at_call 23;(with_reducible refine(c1.out _ D.out).mono ?_);rintro e w1 ⟨rfl,a⟩
     have f:=Hp (D.trans (a.mono D.size))
     have d:=Hp ((a.block (w.heap.size+1) r).trans HR)
     obtain⟨⟨r0,r1,r2,r3,r4,r5,r6,r7⟩,q0,q1,q2,q3,q4,q5,q6,q7⟩:=JR d.out
     clear a))
  obtain⟨V,B⟩:=QP d.out (.string ⟨#[]⟩) (.int .i64 0) (.int .i64 0) (.string ⟨#[]⟩) (.slice none 0 0) (.slice none 0 0) (.slice none 0 0) (.int .i64 0)
  refine bodyPost_ret (results_cell_tmp rfl _ _ (w.heap.size+1) 83 _ (0,0) _ rfl V Tryz.underlying83 rfl Tryz.T9) rfl ?_
  refine⟨⟨NU,rfl,fun _=>rfl,fun e=>absurd e u.out,IL _⟩,f.trans ((B.below (by have:=(ZL d.out);omega)).mono (by omega))⟩
end
section
open Go
open Go.ChangeShapes Go.WideShapes Go.ChangeAt Go.RowKit Go.WideMaps Go.WideElems Go.Deep
theorem Tryz.bytesExp :Tryz.prog.bytesOf 159=24:=by kernel_rfl
end
section
open Go
open Go.ChangeShapes Go.WideShapes Go.ChangeAt Go.RowKit Go.WideMaps Go.WideElems Go.Deep
theorem Tryz.bytesImp :Tryz.prog.bytesOf 173=48:=by kernel_rfl
theorem Tryz.bytesPat :Tryz.prog.bytesOf 180=32:=by kernel_rfl
theorem Tryz.bytesPlcR :Tryz.prog.bytesOf 83=128:=by kernel_rfl
structure ModFit (m:Mod):Prop where
 ex:m.ex.length*24<=big
 im:m.im.length*48<=big
 pa:m.pa.length*32<=big
structure RgFit (k:Krn)(l:List Plc):Prop where
 ex:k.ex.length*24<=big
 len:l.length*128<=big
 each:∀x∈l,ModFit x.m
section
variable {H:Type} {enc:TypeId×Value->H} {w:World} {base:Nat} {spare:Nat->Bool} {held:Bool} {n:Nat} {c:Value} {cs:List Value} {y:DataW H×List MemPlace} {A:Option Addr} {len cap:Nat}
theorem exps_fit (h:DataW.trod enc Tryz.prog w base spare held n 22 [.slice A len cap]=some y)(hF:Fits Tryz.prog 22 y.1):len*24<=big:=by
 rcases Go.Deep.open_slice Tryz.underlying22 h with⟨c,f⟩|⟨a,d,g,m,i,D,o,c,_,k,_,j,f,l⟩
 ·simp only[List.cons.injEq,and_true]at c
  injection c with _ b h2
  rw[b]
  exact Nat.zero_le _
 ·simp only[List.cons.injEq,and_true]at c
  injection c with _ b h2
  rw[b]
  have e:=congrArg Prod.fst f
  simp only at e
  rw[e]at hF
  have b:=(VR Tryz.underlying22 hF).1
  rw[Cq,Tryz.bytesExp]at b
  simp only[List.length_map,List.length_range]at b
  omega
theorem imps_fit (h:DataW.trod enc Tryz.prog w base spare held n 67 [.slice A len cap]=some y)(hF:Fits Tryz.prog 67 y.1):len*48<=big:=by
 rcases Go.Deep.open_slice Tryz.underlying67 h with⟨c,f⟩|⟨a,d,g,m,i,D,o,c,_,k,_,j,f,l⟩
 ·simp only[List.cons.injEq,and_true]at c
  injection c with _ b h2
  rw[b]
  exact Nat.zero_le _
 ·simp only[List.cons.injEq,and_true]at c
  injection c with _ b h2
  rw[b]
  have e:=congrArg Prod.fst f
  simp only at e
  rw[e]at hF
  have b:=(VR Tryz.underlying67 hF).1
  rw[Cq,Tryz.bytesImp]at b
  simp only[List.length_map,List.length_range]at b
  omega
theorem pats_fit (h:DataW.trod enc Tryz.prog w base spare held n 68 [.slice A len cap]=some y)(hF:Fits Tryz.prog 68 y.1):len*32<=big:=by
 rcases Go.Deep.open_slice Tryz.underlying68 h with⟨c,f⟩|⟨a,d,g,m,i,D,o,c,_,k,_,j,f,l⟩
 ·simp only[List.cons.injEq,and_true]at c
  injection c with _ b h2
  rw[b]
  exact Nat.zero_le _
 ·simp only[List.cons.injEq,and_true]at c
  injection c with _ b h2
  rw[b]
  have e:=congrArg Prod.fst f
  simp only at e
  rw[e]at hF
  have b:=(VR Tryz.underlying68 hF).1
  rw[Cq,Tryz.bytesPat]at b
  simp only[List.length_map,List.length_range]at b
  omega
theorem plcs_fit (h:DataW.trod enc Tryz.prog w base spare held n 37 [.slice A len cap]=some y)(hF:Fits Tryz.prog 37 y.1):len*128<=big:=by
 rcases Go.Deep.open_slice Tryz.underlying37 h with⟨c,f⟩|⟨a,d,g,m,i,D,o,c,_,k,_,j,f,l⟩
 ·simp only[List.cons.injEq,and_true]at c
  injection c with _ b h2
  rw[b]
  exact Nat.zero_le _
 ·simp only[List.cons.injEq,and_true]at c
  injection c with _ b h2
  rw[b]
  have e:=congrArg Prod.fst f
  simp only at e
  rw[e]at hF
  have b:=(VR Tryz.underlying37 hF).1
  rw[Cq,Tryz.bytesPlcR]at b
  simp only[List.length_map,List.length_range]at b
  omega
theorem trod_modF (G:cs.length=7)(h:DataW.trod enc Tryz.prog w base spare held n 70 cs=some y)(hF:Fits Tryz.prog 70 y.1):∃m:Mod,cs=m.cells/\m.ok w/\ModFit m:=by
 obtain⟨a,b,c,d,e,f,g,rfl⟩:=Qj G
 have i:=SV Tryz.underlying70 (by kernel_rfl) rfl h
 obtain⟨_,_,M,O⟩:=i 0 _ _ rfl rfl
 obtain⟨_,_,L,T⟩:=i 1 _ _ rfl rfl
 obtain⟨_,_,K,S⟩:=i 2 _ _ rfl rfl
 obtain⟨_,_,J,N⟩:=i 3 _ _ rfl rfl
 obtain⟨_,_,l,q⟩:=i 4 _ _ rfl rfl
 obtain⟨_,_,k,p⟩:=i 5 _ _ rfl rfl
 obtain⟨_,_,j,o⟩:=i 6 _ _ rfl rfl
 obtain⟨s,rfl,E⟩:=nD M
 obtain⟨z,rfl⟩:=SI L
 obtain⟨u,rfl⟩:=SI K
 obtain⟨t,rfl,D⟩:=nD J
 obtain⟨R,P,Q,rfl,I⟩:=Ud l (q hF)
 obtain⟨C,A,B,rfl,H⟩:=Kt k (p hF)
 obtain⟨x,r,v,rfl,F⟩:=MJ j (o hF)
 exact⟨⟨s,z,u,t,P,A,r,R,Q,C,B,x,v⟩,rfl,⟨I,H,F,E (O hF),D (N hF)⟩,exps_fit l (q hF),imps_fit k (p hF),pats_fit j (o hF)⟩
theorem trod_plcF (r:cs.length=8)(h:DataW.trod enc Tryz.prog w base spare held n 83 cs=some y)(hF:Fits Tryz.prog 83 y.1):∃x:Plc,cs=x.cells/\x.m.ok w/\ModFit x.m:=by
 obtain⟨c,k,_,rfl,_,e,o⟩:=DataW.trod_struct Tryz.underlying83 h
 have p:DataW.trod enc Tryz.prog w base spare held k 70 ((cs.drop 0).take (Tryz.prog.cellsOf 70))=c[0]?:=o 0 _ rfl
 have f:DataW.trod enc Tryz.prog w base spare held k 3 ((cs.drop 7).take (Tryz.prog.cellsOf 3))=c[1]?:=o 1 _ rfl
 rw[Tryz.yZ]at p
 rw[Tryz.Ff]at f
 obtain⟨i,g,rfl⟩:∃i g,c=[i,g]:=by
  match c,e with| [a,b],_=>exact⟨a,b,rfl⟩
 obtain⟨m,l,d⟩:=trod_modF (by simp[r]) p (oW Tryz.underlying83 hF (j:=0) rfl rfl)
 rw[lL cs 7 (by omega)]at f
 obtain⟨z,q⟩:=SI f
 refine⟨⟨m,z⟩,?_,d⟩
 rw[List.drop_zero]at l
 have:cs=cs.take 7++cs.drop 7:=(List.take_append_drop 7 cs).symm
 rw[this,l,GY4 (by omega),q,List.drop_eq_nil_of_le (by omega)]
 rfl
theorem trod_plcsF (h:DataW.trod enc Tryz.prog w base spare held n 37 [c]=some y)(hF:Fits Tryz.prog 37 y.1):∃(A:Option Addr)(l:List Plc)(cap:Nat),c=.slice A l.length cap/\aU w A l/\l.length*128<=big/\∀x∈l,ModFit x.m:=by
 obtain⟨A,l,cap,e,j,b,i⟩:=open_row Plc.cells 8 (fun _=>rfl) (by omega) (fun x=>x.m.ok w/\ModFit x.m) Tryz.underlying37 (by decide+kernel) (by kernel_rfl) (fun _ _ _ f d g=>trod_plcF f d g) h hF
 subst e
 exact⟨A,l,cap,rfl,⟨i,j,fun x a=>(b x a).1⟩,plcs_fit h hF,fun x a=>(b x a).2⟩
end
section
variable {H:Type} {enc:TypeId×Value->H} {w:World} {base:Nat} {spare:Nat->Bool} {held:Bool} {r:Reach} {b0:Nat} {v:Value} {d:DataW H} {p:List MemPlace}
theorem open_ModuleF (f:Value.okWide Tryz.prog w r b0 70 v)(h:DataW.Trod enc Tryz.prog w base spare held 70 v d p)(hF:Fits Tryz.prog 70 d):∃m:Mod,v=m.v/\m.ok w/\ModFit m:=by
 obtain⟨cs,rfl,a⟩:=okWide_struct Tryz.underlying70 f
 obtain⟨c,g⟩:=h
 obtain⟨m,e,b⟩:=trod_modF (cs:=cs.toList) (by rw[Array.length_toList,a,Tryz.yZ]) g hF
 obtain⟨l⟩:=cs
 exact⟨m,by simp only at e;rw[e];rfl,b⟩
theorem open_RegistryF (F:Value.okWide Tryz.prog w r b0 39 v)(h:DataW.Trod enc Tryz.prog w base spare held 39 v d p)(hF:Fits Tryz.prog 39 d):
  ∃(k:Krn)(A:Option Addr)(l:List Plc)(cap:Nat),v=.agg #[.int .i64 k.major,.int .i64 k.minor,.slice k.eA k.ex.length k.eC,.slice A l.length cap]/\k.ok w/\aU w A l/\RgFit k l:=by
 obtain⟨cs,rfl,n⟩:=okWide_struct Tryz.underlying39 F
 obtain⟨C,J⟩:=h
 obtain⟨l⟩:=cs
 obtain⟨a,b,c,e,rfl⟩:=O5 (l:=l) (by have:=n.trans Tryz.CX;simpa using this)
 obtain⟨g,s,_,L,_,o,t⟩:=DataW.trod_struct Tryz.underlying39 J
 have B:DataW.trod enc Tryz.prog w base spare held s 24 (([a,b,c,e].drop 0).take (Tryz.prog.cellsOf 24))=g[0]?:=t 0 _ rfl
 have y:DataW.trod enc Tryz.prog w base spare held s 37 (([a,b,c,e].drop 3).take (Tryz.prog.cellsOf 37))=g[1]?:=t 1 _ rfl
 rw[Tryz.yK]at B
 rw[Tryz.FL]at y
 obtain⟨m,i,rfl⟩:∃m i,g=[m,i]:=by
  match g,o with| [a,b],_=>exact⟨a,b,rfl⟩
 have q:d=.agg [m.1,i.1]:=congrArg Prod.fst L
 rw[q]at hF
 have D:=oW Tryz.underlying39 hF (j:=0) rfl rfl
 have O:=oW Tryz.underlying39 hF (j:=1) rfl rfl
 have f:=SV Tryz.underlying24 (by kernel_rfl) rfl B
 obtain⟨_,_,N,U⟩:=f 0 _ _ rfl rfl
 obtain⟨_,_,M,T⟩:=f 1 _ _ rfl rfl
 obtain⟨_,_,x,E⟩:=f 2 _ _ rfl rfl
 obtain⟨z,rfl⟩:=SI N
 obtain⟨u,rfl⟩:=SI M
 obtain⟨R,P,Q,rfl,K⟩:=Ud x (E D)
 obtain⟨A,l,cap,S,I,G,H⟩:=trod_plcsF y O
 subst S
 exact⟨⟨z,u,P,R,Q⟩,A,l,cap,rfl,⟨K⟩,I,exps_fit x (E D),G,H⟩
end
end
section
open Go
theorem count_put :∀(l:List Bool)(i:Nat),l[i]? =some false->(l.set i true).count false+1=l.count false
 | [],i,h=>by simp at h
 |x::l,0,h=>by
  simp only[GZ0,Option.some.injEq]at h
  subst h
  simp
 |x::l,i+1,h=>by
  have:=count_put l i (by simpa using h)
  rw[GZ6,List.count_cons,List.count_cons]
  omega
theorem open_at {L:Array Bool}{i:Nat}(h:L.getD i true=false):L.toList[i]? =some false:=by
 rw[Array.getElem?_toList]
 cases e:L[i]? with
 |none=>rw[Array.getD_eq_getD_getElem?,e]at h;cases h
 |some b=>rw[Array.getD_eq_getD_getElem?,e]at h;rw[<-h];rfl
def edgesBack (a:Array Oper):Bool:=(List.range a.size).all fun i=>((a[i]?).map fun o=>o.after.toList.all fun e=>decide (e.on<i)).getD true
theorem back_at {a:Array Oper}(h:edgesBack a=true){i:Nat}{o:Oper}(b:a[i]? =some o){e:Edge}(d:e∈o.after):e.on<i:=by
 have c:=(ZL b)
 have:=List.all_eq_true.1 h i (List.mem_range.2 c)
 rw[b]at this
 simp only[Option.map_some,Option.getD_some,List.all_eq_true,decide_eq_true_eq]at this
 exact this e (by simpa using d)
theorem all_up {a:Array Oper}{c:Region.Mode}{L:Array Bool}(h:edgesBack a=true)(j:L.size=a.size)(f:Region.ready c a L=[]):∀i,i<a.size->L.getD i false=true:=by
 intro i
 induction i using Nat.strongRecOn with
 |ind i ih=>
  intro b
  cases e:L.getD i false with
  |true=>rfl
  |false=>
   have g:L.getD i true=false:=by
    rw[Array.getD_eq_getD_getElem?,Array.getElem?_eq_getElem (by omega)]at e ⊢
    exact e
   have:i∈Region.ready c a L:=mem_ready.2 ⟨g,a[i],Array.getElem?_eq_getElem b,fun x d _=>ih x.on (back_at h (Array.getElem?_eq_getElem b) d) (Nat.lt_trans (back_at h (Array.getElem?_eq_getElem b) d) b)⟩
   rw[f]at this
   cases this
theorem wpAny_inv {P:Program}{d:Region.Mode}{b:Array Oper}{Q:Exit->Act->World->Prop}(I:Array Bool->Act->World->Prop)(g:edgesBack b=true)(e:∀L a w,I L a w->L.size=b.size)
  (l:∀i L a w,i∈Region.ready d b L->I L a w->wpOp P b Q i (I (L.setIfInBounds i true)) a w) (f:∀L a w,I L a w->(∀i,i<b.size->L.getD i false=true)->Q .normal a w):
  ∀(n:Nat)(L:Array Bool)(a:Act)(w:World),L.toList.count false<=n->I L a w->wpAny P d b Q n L a w
 |0,L,a,w,hc,h=>by
  have c:Region.ready d b L=[]:=by
   refine List.eq_nil_iff_forall_not_mem.2 fun j o=>?_
   have q:=open_at (mem_ready.1 o).1
   have p:false∈L.toList:=List.mem_of_getElem? q
   have:=List.count_pos_iff.2 p
   omega
  exact⟨c,f L a w h (all_up g (e L a w h) c)⟩
 |n+1,L,a,w,hc,h=>⟨fun c=>f L a w h (all_up g (e L a w h) c),fun i k=>
   wpOp_mono (fun s m r=>wpAny_inv I g e l f n _ s m (by
    have:=count_put L.toList i (open_at (mem_ready.1 k).1)
    rw[Array.toList_setIfInBounds]
    omega) r) (l i L a w k h)⟩
theorem wpAny_inv0 {P:Program}{d:Region.Mode}{b:Array Oper}{Q:Exit->Act->World->Prop}{n:Nat}{L:Array Bool}{a:Act}{w:World}(I:Act->Array Bool->Act->World->Prop)(k:edgesBack b=true)(e:∀L c w,I a L c w->L.size=b.size)
  (g:∀i L c w,i∈Region.ready d b L->I a L c w->wpOp P b Q i (I a (L.setIfInBounds i true)) c w) (f:∀L c w,I a L c w->(∀i,i<b.size->L.getD i false=true)->Q .normal c w)
  (j:L.toList.count false<=n) (h:I a L a w):wpAny P d b Q n L a w:=wpAny_inv (I a) k e g f n L a w j h
theorem wpOp_if {P:Program}{b:Array Oper}{Q:Exit->Act->World->Prop}{i:Nat}{o:Oper}{K:Act->World->Prop}{a:Act}{w:World}(d:b[i]? =some o)
  (h:if Region.wanted o (yielded b a.tmps)=true then Oper.wp P o a w K Q else K (a.put o.dst undef) w):wpOp P b Q i K a w:=by
 unfold wpOp
 rw[d]
 show if Region.wanted o (yielded b a.tmps)=true then _ else _
 split
 ·rename_i c
  rw[if_pos c]at h
  exact .inl h
 ·rename_i c
  rw[if_neg c]at h
  exact h
theorem wpOp_gen {P:Program}{b:Array Oper}{Q:Exit->Act->World->Prop}{i:Nat}{K:Act->World->Prop}{a:Act}{w:World}(h:∀c:Act->World->Prop,c=K->wpOp P b Q i c a w):wpOp P b Q i K a w:=h K rfl
theorem up_of {c:Region.Mode}{a:Array Oper}{i:Nat}{L:Array Bool}(h:i∈Region.ready c a L){o:Oper}(d:a[i]? =some o){e:Edge}(f:e∈o.after)(g:Region.binds c e=true):L.getD e.on false=true:=by
 obtain⟨_,k,b,j⟩:=mem_ready.1 h
 rw[d]at b
 injection b with e1
 subst e1
 exact j e f g
theorem wpOp_at {P:Program}{l t:List Oper}{Q:Exit->Act->World->Prop}{i:Nat}{o:Oper}{K:Act->World->Prop}{a:Act}{w:World}(b:l.drop i=o::t)
  (h:if Region.wanted o (yielded l.toArray a.tmps)=true then Oper.wp P o a w K Q else K (a.put o.dst undef) w):wpOp P l.toArray Q i K a w:=
 wpOp_if (by rw[GZ2,<-List.head?_drop,b];rfl) h
theorem up_at {b:Region.Mode}{l t:List Oper}{i:Nat}{o:Oper}{L:Array Bool}(h:i∈Region.ready b l.toArray L)(d:l.drop i=o::t)(j:Nat)(c:(o.after.toList.any fun e=>e.on==j&&Region.binds b e)=true):L.getD j false=true:=by
 obtain⟨e,f,a⟩:=List.any_eq_true.1 c
 simp only[Bool.and_eq_true,beq_iff_eq]at a
 obtain⟨rfl,a⟩:=a
 exact up_of h (o:=o) (by rw[GZ2,<-List.head?_drop,d];rfl) (by simpa using f) a
end
section
open Go
open Go.RowKit Go.Lib
theorem run_made {P:Program}(w:World)(t s e:TypeId)(i:TypeInfo)(z:Value)(size f:Nat)(v:P.underlying t=some (.slice e))(C:P.info? e=some i)(G:i.zero=some z)
  (l:i.size=size) (D:i.bytes=f) (u:z.cells.size=size) (x:0<size)
  (d b:Nat) (K:w.heap[b]? =some (.cells #[] e (0,0))) (E:d<=b) (n:d<=w.heap.size)
  (B:Nat) (A:Option Addr) (m c:Nat) (g:List Value) (y:Reads w B size A m g) (L:m<=maxLen) (h:m*f<=140737488355328):
  ∃r o,(Builtin.append_ #[t,t] s #[.slice (some ⟨b,0,none⟩) 0 0,.slice A m c]).run P w=.ok r o/\o.ownsRow d e size r m g/\Below w.heap.size w o:=by
 have j:w.ownsRow d e size (.slice (some ⟨b,0,none⟩) 0 0) 0 []:=⟨by simp,.inr ⟨b,0,#[],rfl,E,K,GZ3 _,Nat.zero_le _,by simp,by simp⟩⟩
 rcases Nat.eq_zero_or_pos m with rfl|M
 ·have H:g=[]:=GY9 (by simpa using y.1)
  subst H
  refine⟨.slice (some ⟨b,0,none⟩) 0 0,w,?_,j,GZ4 _ _⟩
  cases A with
  |none=>exact wX w d t s e i size v C _ 0 [] j c
  |some a=>simp[Builtin.append_,run_underlying v,sizeOf,typeInfo,C,Builtin.lenOf,Builtin.firstCells,loadCells,loadCellsFrom,storeCells]
 ·obtain⟨N,rfl,_,J⟩:=y.2 M
  obtain⟨r,o,p,F,q⟩:=run_append_arg_grows (P:=P) w t s e i z size f v C G l D u x ⟨b,0,none⟩ 0 0 [] (by simp) (by simp) N m c g y.1 J (by omega) (by omega) (by simpa using h)
  rw[Nat.zero_add,List.nil_append]at F
  exact⟨r,o,p,RH F n,⟨q.os,q.tape,q.output,q.size,fun k I=>q.block k I (by simp)⟩⟩
theorem step_made {P:Program}(w:World){p:Array Oper}{o:Oper}{a:Act}{K:Act->World->Prop}{Q:Exit->Act->World->Prop}{E:Prop}(y:o.guard=none)(s x:Operand)(t:TypeId)
  (N:o.op=.call {callee:=.builtin .append,args:=#[s,x],argTypes:=#[t,t]})
  (e:TypeId) (i:TypeInfo) (z:Value) (size d:Nat) (J:P.underlying t=some (.slice e)) (O:P.info? e=some i) (G:i.zero=some z)
  (k:i.size=size) (C:i.bytes=d) (u:z.cells.size=size) (v:0<size)
  (f b:Nat) (L:a.eval s=.slice (some ⟨b,0,none⟩) 0 0) (R:w.heap[b]? =some (.cells #[] e (0,0))) (D:f<=b) (l:f<=w.heap.size)
  (B:Nat) (A:Option Addr) (m c:Nat) (g:List Value) (H:a.eval x=.slice A m c) (M:Reads w B size A m g) (F:m<=maxLen) (j:m*d<=140737488355328)
  (h:∀r n,n.ownsRow f e size r m g->Below w.heap.size w n->K (a.put o.dst r) n):
  if Region.wanted o (yielded p a.tmps)=true then Oper.wp P o a w K Q else E:=by
 have I:Region.wanted o (yielded p a.tmps)=true:=by simp[Region.wanted,y]
 rw[if_pos I]
 obtain⟨r,n,q,T,S⟩:=run_made (P:=P) w t o.type e i z size d J O G k C u v f b R D l B A m c g M F j
 unfold Oper.wp execOp
 simp only[N,resolve,invoke,builtin,Sem.run_bind,Sem.run_pure,Result.andThen_ok,List.map_toArray,List.map_cons,List.map_nil,L,H,q]
 exact h r n T S
theorem wpList_made {P:Program}(w:World){q:Array Oper}{k:List Oper}{o:Oper}{a:Act}{Q:Exit->Act->World->Prop}(C:o.guard=none)(s x:Operand)(t:TypeId)
  (M:o.op=.call {callee:=.builtin .append,args:=#[s,x],argTypes:=#[t,t]})
  (e:TypeId) (i:TypeInfo) (z:Value) (size d:Nat) (I:P.underlying t=some (.slice e)) (N:P.info? e=some i) (G:i.zero=some z)
  (l:i.size=size) (D:i.bytes=d) (v:z.cells.size=size) (y:0<size)
  (f b:Nat) (J:a.eval s=.slice (some ⟨b,0,none⟩) 0 0) (O:w.heap[b]? =some (.cells #[] e (0,0))) (E:f<=b) (n:f<=w.heap.size)
  (B:Nat) (A:Option Addr) (m c:Nat) (g:List Value) (H:a.eval x=.slice A m c) (L:Reads w B size A m g) (F:m<=maxLen) (j:m*d<=140737488355328)
  (h:∀u p,p.ownsRow f e size u m g->Below w.heap.size w p->wpList P q Q k (a.put o.dst u) p):wpList P q Q (o::k) a w:=by
 refine wpList_plain C fun K R=>?_
 obtain⟨u,p,r,T,S⟩:=run_made (P:=P) w t o.type e i z size d I N G l D v y f b O E n B A m c g L F j
 unfold Oper.wp execOp
 simp only[M,resolve,invoke,builtin,Sem.run_bind,Sem.run_pure,Result.andThen_ok,List.map_toArray,List.map_cons,List.map_nil,J,H,r]
 exact R _ _ (h u p T S)
structure CpSt where
 (l0 l1 l2 l3 l4 l5 l6 l7 l8 l9 l10 l11 l12 l13 l14 l15 l16 l17:Bool)
 (t3 t4 t5 t6 t7 t8 t9 t10 t11 t12 t13 t14 t15 t16 t17:Value)
def CpSt.L (s:CpSt):Array Bool:=#[s.l0,s.l1,s.l2,s.l3,s.l4,s.l5,s.l6,s.l7,s.l8,s.l9,s.l10,s.l11,s.l12,s.l13,s.l14,s.l15,s.l16,s.l17]
def CpSt.a (s:CpSt)(u:Value)(b r:Nat)(c:List Deferred):Act:={tmps:=#[u,.pointer (some ⟨b,0,none⟩),.pointer (some ⟨r,0,none⟩),s.t3,s.t4,s.t5,s.t6,s.t7,s.t8,s.t9,s.t10,s.t11,s.t12,s.t13,s.t14,s.t15,s.t16,s.t17,undef],defers:=c}
structure CpOk (m:Mod)(w:World)(s:CpSt)(W:World):Prop where
 f4:s.l1=true->s.t4=.pointer (some ⟨w.heap.size,4,none⟩)
 v5:s.l2=true->s.t5=.slice m.eA m.ex.length m.eC
 b3:s.l0=true->∃b,s.t3=.slice (some ⟨b,0,none⟩) 0 0/\w.heap.size+2<=b/\W.heap[b]? =some (.cells #[] 159 (0,0))
 o6:s.l3=true->∃A c,s.t6=.slice A m.ex.length c/\ExpOwn W (w.heap.size+2) (.slice A m.ex.length c) m.ex
 f8:s.l5=true->s.t8=.pointer (some ⟨w.heap.size,5,none⟩)
 v9:s.l6=true->s.t9=.slice m.iA m.im.length m.iC
 b7:s.l4=true->∃b,s.t7=.slice (some ⟨b,0,none⟩) 0 0/\w.heap.size+2<=b/\W.heap[b]? =some (.cells #[] 173 (0,0))
 o10:s.l7=true->∃A c,s.t10=.slice A m.im.length c/\ImpOwn W (w.heap.size+2) (.slice A m.im.length c) m.im
 f12:s.l9=true->s.t12=.pointer (some ⟨w.heap.size,6,none⟩)
 v13:s.l10=true->s.t13=.slice m.pA m.pa.length m.pC
 b11:s.l8=true->∃b,s.t11=.slice (some ⟨b,0,none⟩) 0 0/\w.heap.size+2<=b/\W.heap[b]? =some (.cells #[] 180 (0,0))
 o14:s.l11=true->∃A c,s.t14=.slice A m.pa.length c/\PatOwn W (w.heap.size+2) (.slice A m.pa.length c) m.pa
 f15:s.l12=true->s.t15=.pointer (some ⟨w.heap.size,4,none⟩)
 d13:s.l13=true->s.l2=true
 e13:s.l13=true->s.l3=true
 f16:s.l14=true->s.t16=.pointer (some ⟨w.heap.size,5,none⟩)
 d15:s.l15=true->s.l6=true
 e15:s.l15=true->s.l7=true
 f17:s.l16=true->s.t17=.pointer (some ⟨w.heap.size,6,none⟩)
 d17:s.l17=true->s.l10=true
 e17:s.l17=true->s.l11=true
 box:W.heap[w.heap.size]? =some (.cells #[.string m.name,.int .i64 m.major,.int .i64 m.minor,.string m.text,cond s.l13 s.t6 (.slice m.eA m.ex.length m.eC),cond s.l15 s.t10 (.slice m.iA m.im.length m.iC),cond s.l17 s.t14 (.slice m.pA m.pa.length m.pC)] 70 (0,0))
 res:W.heap[w.heap.size+1]? =some (.cells #[.string ⟨#[]⟩,.int .i64 0,.int .i64 0,.string ⟨#[]⟩,.slice none 0 0,.slice none 0 0,.slice none 0 0] 70 (0,0))
 bel:Below w.heap.size w W
section
variable {m:Mod} {w:World} {s:CpSt} {W W':World}
theorem cpExt (h:CpOk m w s W)(a:Below W.heap.size W W'):CpOk m w s W':=
 {h with b3:=fun e=>(h.b3 e).imp fun b q=>⟨q.1,q.2.1,(a.block b (ZL q.2.2)).trans q.2.2⟩,o6:=fun e=>(h.o6 e).imp fun _=>Exists.imp fun _ q=>⟨q.1,aO q.2 a⟩,b7:=fun e=>(h.b7 e).imp fun b q=>⟨q.1,q.2.1,(a.block b (ZL q.2.2)).trans q.2.2⟩,o10:=fun e=>(h.o10 e).imp fun _=>Exists.imp fun _ q=>⟨q.1,aO q.2 a⟩,b11:=fun e=>(h.b11 e).imp fun b q=>⟨q.1,q.2.1,(a.block b (ZL q.2.2)).trans q.2.2⟩,o14:=fun e=>(h.o14 e).imp fun _=>Exists.imp fun _ q=>⟨q.1,aO q.2 a⟩,box:=(a.block _ (ZL h.box)).trans h.box,res:=(a.block _ (ZL h.res)).trans h.res,bel:=h.bel.trans (a.mono h.bel.size)}
theorem cps0 (h:CpOk m w s W):CpOk m w {s with l0:=true,t3:=.slice (some ⟨W.heap.size,0,none⟩) 0 0} (W.alloc (.cells #[] 159)):=
 have a:=cpExt h (ZB:Below W.heap.size W (W.alloc (.cells #[] 159)))
 {a with b3:=fun _=>⟨_,rfl,(ZL h.res),heap_alloc_new W _⟩}
theorem cps1 (h:CpOk m w s W):CpOk m w {s with l1:=true,t4:=.pointer (some ⟨w.heap.size,4,none⟩)} W:={h with f4:=fun _=>rfl}
theorem cps2 (h:CpOk m w s W):CpOk m w {s with l2:=true,t5:=.slice m.eA m.ex.length m.eC} W:={h with v5:=fun _=>rfl,d13:=fun _=>rfl}
theorem cps3 (h:CpOk m w s W){A:Option Addr}{c:Nat}(d:ExpOwn W' (w.heap.size+2) (.slice A m.ex.length c) m.ex)(e:Below W.heap.size W W')(b:s.l13=false):CpOk m w {s with l3:=true,t6:=.slice A m.ex.length c} W':=
 have a:=cpExt h e
 {a with o6:=fun _=>⟨A,c,rfl,d⟩,e13:=fun _=>rfl,box:=by have:=a.box;rw[b]at this ⊢;exact this}
theorem cps4 (h:CpOk m w s W):CpOk m w {s with l4:=true,t7:=.slice (some ⟨W.heap.size,0,none⟩) 0 0} (W.alloc (.cells #[] 173)):=
 have a:=cpExt h (ZB:Below W.heap.size W (W.alloc (.cells #[] 173)))
 {a with b7:=fun _=>⟨_,rfl,(ZL h.res),heap_alloc_new W _⟩}
theorem cps5 (h:CpOk m w s W):CpOk m w {s with l5:=true,t8:=.pointer (some ⟨w.heap.size,5,none⟩)} W:={h with f8:=fun _=>rfl}
theorem cps6 (h:CpOk m w s W):CpOk m w {s with l6:=true,t9:=.slice m.iA m.im.length m.iC} W:={h with v9:=fun _=>rfl,d15:=fun _=>rfl}
theorem cps7 (h:CpOk m w s W){A:Option Addr}{c:Nat}(d:ImpOwn W' (w.heap.size+2) (.slice A m.im.length c) m.im)(e:Below W.heap.size W W')(b:s.l15=false):CpOk m w {s with l7:=true,t10:=.slice A m.im.length c} W':=
 have a:=cpExt h e
 {a with o10:=fun _=>⟨A,c,rfl,d⟩,e15:=fun _=>rfl,box:=by have:=a.box;rw[b]at this ⊢;exact this}
theorem cps8 (h:CpOk m w s W):CpOk m w {s with l8:=true,t11:=.slice (some ⟨W.heap.size,0,none⟩) 0 0} (W.alloc (.cells #[] 180)):=
 have a:=cpExt h (ZB:Below W.heap.size W (W.alloc (.cells #[] 180)))
 {a with b11:=fun _=>⟨_,rfl,(ZL h.res),heap_alloc_new W _⟩}
theorem cps9 (h:CpOk m w s W):CpOk m w {s with l9:=true,t12:=.pointer (some ⟨w.heap.size,6,none⟩)} W:={h with f12:=fun _=>rfl}
theorem cps10 (h:CpOk m w s W):CpOk m w {s with l10:=true,t13:=.slice m.pA m.pa.length m.pC} W:={h with v13:=fun _=>rfl,d17:=fun _=>rfl}
theorem cps11 (h:CpOk m w s W){A:Option Addr}{c:Nat}(d:PatOwn W' (w.heap.size+2) (.slice A m.pa.length c) m.pa)(e:Below W.heap.size W W')(b:s.l17=false):CpOk m w {s with l11:=true,t14:=.slice A m.pa.length c} W':=
 have a:=cpExt h e
 {a with o14:=fun _=>⟨A,c,rfl,d⟩,e17:=fun _=>rfl,box:=by have:=a.box;rw[b]at this ⊢;exact this}
theorem cps12 (h:CpOk m w s W):CpOk m w {s with l12:=true,t15:=.pointer (some ⟨w.heap.size,4,none⟩)} W:={h with f15:=fun _=>rfl}
theorem cps13 (h:CpOk m w s W)(i:s.l2=true)(d:s.l3=true):CpOk m w {s with l13:=true} (W.setCell ⟨w.heap.size,4,none⟩ s.t6):=
 have a:Only w.heap.size W (W.setCell ⟨w.heap.size,4,none⟩ s.t6):=Only.set 4 _
 {h with b3:=fun e=>(h.b3 e).imp fun b q=>⟨q.1,q.2.1,(a.block b (ZL q.2.2) (by have:=q.2.1;omega)).trans q.2.2⟩,o6:=fun e=>(h.o6 e).imp fun _=>Exists.imp fun _ q=>⟨q.1,own_same q.2 fun g f c=>a.block g c (by omega)⟩,b7:=fun e=>(h.b7 e).imp fun b q=>⟨q.1,q.2.1,(a.block b (ZL q.2.2) (by have:=q.2.1;omega)).trans q.2.2⟩,o10:=fun e=>(h.o10 e).imp fun _=>Exists.imp fun _ q=>⟨q.1,own_same q.2 fun g f c=>a.block g c (by omega)⟩,b11:=fun e=>(h.b11 e).imp fun b q=>⟨q.1,q.2.1,(a.block b (ZL q.2.2) (by have:=q.2.1;omega)).trans q.2.2⟩,o14:=fun e=>(h.o14 e).imp fun _=>Exists.imp fun _ q=>⟨q.1,own_same q.2 fun g f c=>a.block g c (by omega)⟩,d13:=fun _=>i,e13:=fun _=>d,box:=heap_setCell_same W w.heap.size 4 _ _ _ h.box,res:=(a.block _ (ZL h.res) (by omega)).trans h.res,bel:=h.bel.trans (a.below (GY2 (ZL h.box)))}
theorem cps14 (h:CpOk m w s W):CpOk m w {s with l14:=true,t16:=.pointer (some ⟨w.heap.size,5,none⟩)} W:={h with f16:=fun _=>rfl}
theorem cps15 (h:CpOk m w s W)(i:s.l6=true)(d:s.l7=true):CpOk m w {s with l15:=true} (W.setCell ⟨w.heap.size,5,none⟩ s.t10):=
 have a:Only w.heap.size W (W.setCell ⟨w.heap.size,5,none⟩ s.t10):=Only.set 5 _
 {h with b3:=fun e=>(h.b3 e).imp fun b q=>⟨q.1,q.2.1,(a.block b (ZL q.2.2) (by have:=q.2.1;omega)).trans q.2.2⟩,o6:=fun e=>(h.o6 e).imp fun _=>Exists.imp fun _ q=>⟨q.1,own_same q.2 fun g f c=>a.block g c (by omega)⟩,b7:=fun e=>(h.b7 e).imp fun b q=>⟨q.1,q.2.1,(a.block b (ZL q.2.2) (by have:=q.2.1;omega)).trans q.2.2⟩,o10:=fun e=>(h.o10 e).imp fun _=>Exists.imp fun _ q=>⟨q.1,own_same q.2 fun g f c=>a.block g c (by omega)⟩,b11:=fun e=>(h.b11 e).imp fun b q=>⟨q.1,q.2.1,(a.block b (ZL q.2.2) (by have:=q.2.1;omega)).trans q.2.2⟩,o14:=fun e=>(h.o14 e).imp fun _=>Exists.imp fun _ q=>⟨q.1,own_same q.2 fun g f c=>a.block g c (by omega)⟩,d15:=fun _=>i,e15:=fun _=>d,box:=heap_setCell_same W w.heap.size 5 _ _ _ h.box,res:=(a.block _ (ZL h.res) (by omega)).trans h.res,bel:=h.bel.trans (a.below (GY2 (ZL h.box)))}
theorem cps16 (h:CpOk m w s W):CpOk m w {s with l16:=true,t17:=.pointer (some ⟨w.heap.size,6,none⟩)} W:={h with f17:=fun _=>rfl}
theorem cps17 (h:CpOk m w s W)(i:s.l10=true)(d:s.l11=true):CpOk m w {s with l17:=true} (W.setCell ⟨w.heap.size,6,none⟩ s.t14):=
 have a:Only w.heap.size W (W.setCell ⟨w.heap.size,6,none⟩ s.t14):=Only.set 6 _
 {h with b3:=fun e=>(h.b3 e).imp fun b q=>⟨q.1,q.2.1,(a.block b (ZL q.2.2) (by have:=q.2.1;omega)).trans q.2.2⟩,o6:=fun e=>(h.o6 e).imp fun _=>Exists.imp fun _ q=>⟨q.1,own_same q.2 fun g f c=>a.block g c (by omega)⟩,b7:=fun e=>(h.b7 e).imp fun b q=>⟨q.1,q.2.1,(a.block b (ZL q.2.2) (by have:=q.2.1;omega)).trans q.2.2⟩,o10:=fun e=>(h.o10 e).imp fun _=>Exists.imp fun _ q=>⟨q.1,own_same q.2 fun g f c=>a.block g c (by omega)⟩,b11:=fun e=>(h.b11 e).imp fun b q=>⟨q.1,q.2.1,(a.block b (ZL q.2.2) (by have:=q.2.1;omega)).trans q.2.2⟩,o14:=fun e=>(h.o14 e).imp fun _=>Exists.imp fun _ q=>⟨q.1,own_same q.2 fun g f c=>a.block g c (by omega)⟩,d17:=fun _=>i,e17:=fun _=>d,box:=heap_setCell_same W w.heap.size 6 _ _ _ h.box,res:=(a.block _ (ZL h.res) (by omega)).trans h.res,bel:=h.bel.trans (a.below (GY2 (ZL h.box)))}
end
theorem copiedModule_any (m:Mod)(w:World)(h:m.ok w)(hf:ModFit m):
  Calls Tryz.prog 50 #[m.v] w fun e M=>(∃V,e=.returned V.v/\gI V m/\V.own M w.heap.size)/\Below w.heap.size w M:=by
 obtain⟨I,B⟩:=Nm (w.alloc (.cells #[.string m.name,.int .i64 m.major,.int .i64 m.minor,.string m.text,.slice m.eA m.ex.length m.eC,.slice m.iA m.im.length m.iC,.slice m.pA m.pa.length m.pC] 70))
 obtain⟨T,z⟩:=Nm (I.alloc (.cells #[.string ⟨#[]⟩,.int .i64 0,.int .i64 0,.string ⟨#[]⟩,.slice none 0 0,.slice none 0 0,.slice none 0 0] 70))
 have R:I.heap[w.heap.size]? =some (.cells #[.string m.name,.int .i64 m.major,.int .i64 m.minor,.string m.text,.slice m.eA m.ex.length m.eC,.slice m.iA m.im.length m.iC,.slice m.pA m.pa.length m.pC] 70 (0,0)):=by rw[B];exact heap_alloc_new w _
 have l:I.heap.size=w.heap.size+1:=by rw[B];simp
 have J:T.heap[w.heap.size]? =some (.cells #[.string m.name,.int .i64 m.major,.int .i64 m.minor,.string m.text,.slice m.eA m.ex.length m.eC,.slice m.iA m.im.length m.iC,.slice m.pA m.pa.length m.pC] 70 (0,0)):=by rw[z,heap_alloc_old I _ (by omega)];exact R
 have C:T.heap[w.heap.size+1]? =some (.cells #[.string ⟨#[]⟩,.int .i64 0,.int .i64 0,.string ⟨#[]⟩,.slice none 0 0,.slice none 0 0,.slice none 0 0] 70 (0,0)):=by rw[z,<-l];exact heap_alloc_new I _
 have P:Below w.heap.size w T:=by rw[z,B];exact(ZB).alloc (by simp) _
 have HE:=Hp h.ex.1
 have HI:=Hp h.im.1
 have HP:=Hp h.pa.1
 have Z:=Hp (show CpOk m w ⟨false,false,false,false,false,false,false,false,false,false,false,false,false,false,false,false,false,false,undef,undef,undef,undef,undef,undef,undef,undef,undef,undef,undef,undef,undef,undef,undef⟩ T.drew from
  {f4:=fun e=>no_ft e,v5:=fun e=>no_ft e,b3:=fun e=>no_ft e,o6:=fun e=>no_ft e,f8:=fun e=>no_ft e,v9:=fun e=>no_ft e,b7:=fun e=>no_ft e,o10:=fun e=>no_ft e,f12:=fun e=>no_ft e,v13:=fun e=>no_ft e,b11:=fun e=>no_ft e,o14:=fun e=>no_ft e,f15:=fun e=>no_ft e,d13:=fun e=>no_ft e,e13:=fun e=>no_ft e,f16:=fun e=>no_ft e,d15:=fun e=>no_ft e,e15:=fun e=>no_ft e,f17:=fun e=>no_ft e,d17:=fun e=>no_ft e,e17:=fun e=>no_ft e,box:=J,res:=C,bel:=P.drew})
 have K:=Hp hf
 have HZ:=Hp l
 have a2:=B.symm
 have a1:=z.symm
 clear B z R J C l P h hf
 go_enter Tryz.func50,Tryz.ntmps50
 go_upto_region 1 with fail
 refine wp_region_any (by kernel_rfl) ?_
 refine wpAny_inv (fun L a W=>∃s:CpSt,CpOk m w s W/\L=s.L/\a=s.a m.v w.heap.size I.heap.size []) (by kernel_rfl) ?_ ?_ ?_ _ _ _ _ (by decide) ⟨_,Z.out,rfl,rfl⟩
 ·rintro L a W ⟨s,_,rfl,_⟩;rfl
 ·rintro i L a W f ⟨s,d,rfl,rfl⟩
  have D:i<18:=by
   obtain⟨_,o,U,_⟩:=mem_ready.1 f
   exact(ZL U)
  refine wpOp_gen fun KK Q=>?_
  have j:=Hp Q
  clear Q
  match i,D,f,j with
  |0,_,f,j=>
   refine wpOp_at rfl ?_
   simp only[CpSt.a]
   go_simp
   rw[j.out];exact⟨_,cps0 d,rfl,rfl⟩
  |1,_,f,j=>
   refine wpOp_at rfl ?_
   simp only[CpSt.a]
   go_simp
   rw[j.out];exact⟨_,cps1 d,rfl,rfl⟩
  |2,_,f,j=>
   have q:=d.f4 (up_at f rfl 1 (by kernel_rfl))
   have c:W.cell? ⟨w.heap.size,4,none⟩=some (.slice m.eA m.ex.length m.eC):=by
    have u:=heap_cell d.box 4
    have r:s.l13=false:=by
     cases t:s.l13 with
     |false=>rfl
     |true=>exact((d.d13 t).symm.trans (mem_ready.1 f).1)
    rw[r]at u
    exact u
   refine wpOp_at rfl ?_
   simp only[CpSt.a,q]
   go_simp
   rw[j.out];exact⟨_,cps2 d,rfl,by simp only[CpSt.a,q]⟩
  |3,_,f,j=>
   obtain⟨b,F,p,E⟩:=d.b3 (up_at f rfl 0 (by kernel_rfl))
   have N:=d.v5 (up_at f rfl 2 (by kernel_rfl))
   have r:s.l13=false:=by
    cases t:s.l13 with
    |false=>rfl
    |true=>exact((d.e13 t).symm.trans (mem_ready.1 f).1)
   refine wpOp_at rfl ?_
   obtain⟨O,D,l,y,x⟩:=info_parts Tryz.infoExp
   refine step_made W rfl (.tmp 3) (.tmp 5) 22 rfl 159 O _ 2 24 Tryz.underlying22 D l y x rfl (by decide) (w.heap.size+2) b F E p (ZL d.res) W.heap.size m.eA m.ex.length m.eC (m.ex.flatMap Exp.cells) N (Row.below HE.out d.bel) (by have:=K.ex;unfold big at this;simp only[maxLen];omega) (by have:=K.ex;unfold big at this;omega) ?_
   intro v' M H S
   obtain⟨A,c,rfl⟩:=bG H
   rw[j.out];exact⟨_,cps3 d H S r,rfl,rfl⟩
  |4,_,f,j=>
   refine wpOp_at rfl ?_
   simp only[CpSt.a]
   go_simp
   rw[j.out];exact⟨_,cps4 d,rfl,rfl⟩
  |5,_,f,j=>
   refine wpOp_at rfl ?_
   simp only[CpSt.a]
   go_simp
   rw[j.out];exact⟨_,cps5 d,rfl,rfl⟩
  |6,_,f,j=>
   have q:=d.f8 (up_at f rfl 5 (by kernel_rfl))
   have c:W.cell? ⟨w.heap.size,5,none⟩=some (.slice m.iA m.im.length m.iC):=by
    have u:=heap_cell d.box 5
    have r:s.l15=false:=by
     cases t:s.l15 with
     |false=>rfl
     |true=>exact((d.d15 t).symm.trans (mem_ready.1 f).1)
    rw[r]at u
    exact u
   refine wpOp_at rfl ?_
   simp only[CpSt.a,q]
   go_simp
   rw[j.out];exact⟨_,cps6 d,rfl,by simp only[CpSt.a,q]⟩
  |7,_,f,j=>
   obtain⟨b,F,p,E⟩:=d.b7 (up_at f rfl 4 (by kernel_rfl))
   have N:=d.v9 (up_at f rfl 6 (by kernel_rfl))
   have r:s.l15=false:=by
    cases t:s.l15 with
    |false=>rfl
    |true=>exact((d.e15 t).symm.trans (mem_ready.1 f).1)
   refine wpOp_at rfl ?_
   obtain⟨O,D,l,y,x⟩:=info_parts Tryz.infoImp
   refine step_made W rfl (.tmp 7) (.tmp 9) 67 rfl 173 O _ 4 48 Tryz.underlying67 D l y x rfl (by decide) (w.heap.size+2) b F E p (ZL d.res) W.heap.size m.iA m.im.length m.iC (m.im.flatMap Imp.cells) N (Row.below HI.out d.bel) (by have:=K.im;unfold big at this;simp only[maxLen];omega) (by have:=K.im;unfold big at this;omega) ?_
   intro v' M H S
   obtain⟨A,c,rfl⟩:=bG H
   rw[j.out];exact⟨_,cps7 d H S r,rfl,rfl⟩
  |8,_,f,j=>
   refine wpOp_at rfl ?_
   simp only[CpSt.a]
   go_simp
   rw[j.out];exact⟨_,cps8 d,rfl,rfl⟩
  |9,_,f,j=>
   refine wpOp_at rfl ?_
   simp only[CpSt.a]
   go_simp
   rw[j.out];exact⟨_,cps9 d,rfl,rfl⟩
  |10,_,f,j=>
   have q:=d.f12 (up_at f rfl 9 (by kernel_rfl))
   have c:W.cell? ⟨w.heap.size,6,none⟩=some (.slice m.pA m.pa.length m.pC):=by
    have u:=heap_cell d.box 6
    have r:s.l17=false:=by
     cases t:s.l17 with
     |false=>rfl
     |true=>exact((d.d17 t).symm.trans (mem_ready.1 f).1)
    rw[r]at u
    exact u
   refine wpOp_at rfl ?_
   simp only[CpSt.a,q]
   go_simp
   rw[j.out];exact⟨_,cps10 d,rfl,by simp only[CpSt.a,q]⟩
  |11,_,f,j=>
   obtain⟨b,F,p,E⟩:=d.b11 (up_at f rfl 8 (by kernel_rfl))
   have N:=d.v13 (up_at f rfl 10 (by kernel_rfl))
   have r:s.l17=false:=by
    cases t:s.l17 with
    |false=>rfl
    |true=>exact((d.e17 t).symm.trans (mem_ready.1 f).1)
   refine wpOp_at rfl ?_
   obtain⟨O,D,l,y,x⟩:=info_parts Tryz.infoPat
   refine step_made W rfl (.tmp 11) (.tmp 13) 68 rfl 180 O _ 4 32 Tryz.underlying68 D l y x rfl (by decide) (w.heap.size+2) b F E p (ZL d.res) W.heap.size m.pA m.pa.length m.pC (m.pa.flatMap Pat.cells) N (Row.below HP.out d.bel) (by have:=K.pa;unfold big at this;simp only[maxLen];omega) (by have:=K.pa;unfold big at this;omega) ?_
   intro v' M H S
   obtain⟨A,c,rfl⟩:=bG H
   rw[j.out];exact⟨_,cps11 d H S r,rfl,rfl⟩
  |12,_,f,j=>
   refine wpOp_at rfl ?_
   simp only[CpSt.a]
   go_simp
   rw[j.out];exact⟨_,cps12 d,rfl,rfl⟩
  |13,_,f,j=>
   have q:=d.f15 (up_at f rfl 12 (by kernel_rfl))
   obtain⟨A,c,p,_⟩:=d.o6 (up_at f rfl 3 (by kernel_rfl))
   have c:=heap_cell d.box 4
   have cf:=heap_free d.box 4
   have G:=cps13 d (up_at f rfl 2 (by kernel_rfl)) (up_at f rfl 3 (by kernel_rfl))
   rw[p]at G
   refine wpOp_at rfl ?_
   simp only[CpSt.a,q,p]
   go_simp
   rw[j.out];exact⟨_,G,rfl,by simp only[CpSt.a,q]⟩
  |14,_,f,j=>
   refine wpOp_at rfl ?_
   simp only[CpSt.a]
   go_simp
   rw[j.out];exact⟨_,cps14 d,rfl,rfl⟩
  |15,_,f,j=>
   have q:=d.f16 (up_at f rfl 14 (by kernel_rfl))
   obtain⟨A,c,p,_⟩:=d.o10 (up_at f rfl 7 (by kernel_rfl))
   have c:=heap_cell d.box 5
   have cf:=heap_free d.box 5
   have G:=cps15 d (up_at f rfl 6 (by kernel_rfl)) (up_at f rfl 7 (by kernel_rfl))
   rw[p]at G
   refine wpOp_at rfl ?_
   simp only[CpSt.a,q,p]
   go_simp
   rw[j.out];exact⟨_,G,rfl,by simp only[CpSt.a,q]⟩
  |16,_,f,j=>
   refine wpOp_at rfl ?_
   simp only[CpSt.a]
   go_simp
   rw[j.out];exact⟨_,cps16 d,rfl,rfl⟩
  |17,_,f,j=>
   have q:=d.f17 (up_at f rfl 16 (by kernel_rfl))
   obtain⟨A,c,p,_⟩:=d.o14 (up_at f rfl 11 (by kernel_rfl))
   have c:=heap_cell d.box 6
   have cf:=heap_free d.box 6
   have G:=cps17 d (up_at f rfl 10 (by kernel_rfl)) (up_at f rfl 11 (by kernel_rfl))
   rw[p]at G
   refine wpOp_at rfl ?_
   simp only[CpSt.a,q,p]
   go_simp
   rw[j.out];exact⟨_,G,rfl,by simp only[CpSt.a,q]⟩
  |n+18,D,_,_=>exact absurd D (by omega)
 ·rintro L a W ⟨s,d,rfl,rfl⟩ k
  obtain⟨A1,k1,F,u⟩:=d.o6 (k 3 (by decide))
  obtain⟨A2,k2,p,r⟩:=d.o10 (k 7 (by decide))
  obtain⟨A3,k3,E,t⟩:=d.o14 (k 11 (by decide))
  have J:=d.box
  rw[show s.l13=true from k 13 (by decide),show s.l15=true from k 15 (by decide),show s.l17=true from k 17 (by decide),F,p,E]at J
  simp only[cond_true]at J
  have HB:=Hp d.bel
  have H1:=Hp u
  have H2:=Hp r
  have H3:=Hp t
  have Y:=Hp (ZL d.res)
  have C:=d.res
  rw[<-HZ.out]at C
  obtain⟨a3,e0,e1,e2,e3,e4,e5,e6,_,_,_⟩:=VH J
  obtain⟨a0,r0,r1,r2,r3,r4,r5,r6,g4,g5,g6⟩:=VH C
  have g0:=heap_free C 0
  have g1:=heap_free C 1
  have g2:=heap_free C 2
  have g3:=heap_free C 3
  clear d k F p E u r t J C
  simp only[CpSt.a]
  go_wp2_with fail
  obtain⟨hg,U⟩:=set7 a0.out (.string m.name) (.int .i64 m.major) (.int .i64 m.minor) (.string m.text) (.slice A1 m.ex.length k1) (.slice A2 m.im.length k2) (.slice A3 m.pa.length k3)
  refine bodyPost_ret (results_cell_row rfl _ _ I.heap.size 70 _ (0,0) _ rfl hg Tryz.underlying70 rfl Tryz.PG) rfl ?_
  have hz:=HZ.out
  have X:∀g,w.heap.size+2<=g->g<W.heap.size->_=W.heap[g]?:=fun g u r=>U.block g r (by omega)
  exact⟨⟨⟨m.name,m.major,m.minor,m.text,m.ex,m.im,m.pa,A1,k1,A2,k2,A3,k3⟩,rfl,⟨rfl,rfl,rfl,rfl,rfl,rfl,rfl⟩,⟨RH (own_same H1.out X) (by omega),RH (own_same H2.out X) (by omega),RH (own_same H3.out X) (by omega)⟩⟩,HB.trans ((U.below (by have:=Y.out;omega)).mono (by omega))⟩
end
end Go.Proofs.YtjiedaialianmaaGreat
