import Derived.Test.YtjiedaialianmaaGreatA11
import Derived.Test.YtjiedaialianmaaGreatA12
import Derived.Lib.AppendZerosOnto
import Derived.Shelf.Spec.SlicesInsert
set_option maxRecDepth 100000
set_option maxHeartbeats 4000000
namespace Go.Proofs.YtjiedaialianmaaGreat
section
open Go.RowKit Go.Lib Go.Sort
open Gs (Tx)
theorem TR.ne {w:World}{base k:Nat}{v:Value}{ss:List Tx}(h:TR w base v ss)(hk:k<base):v.ownBlock≠some k:=fun e=>by have:=(h.lt k e).1;omega
theorem heap_put {w:World}{g q:Nat}{cur:Array Value}{e:TypeId}{fr:Nat×Nat}(d:Array (List UInt8))(hb:w.heap[g]? =some (.cells cur e fr)):
  (putRow encStr (Sort.ahead w q) g 0 d).heap[g]? =some (.cells (putCells encStr 0 d cur) e fr):=by
 simp[putRow,mapBlock,Sort.ahead,Array.getElem?_modify,hb,onCells]
theorem Tm :∀(l:List Tx)(i:Nat),l.eraseIdx i=l.take i++l.drop (i+1)
 | [],i=>by simp
 |x::l,0=>by simp
 |x::l,i+1=>by simp[Tm l i]
theorem Lr {w:World}{base c i:Nat}{A:Option Addr}{ss:List Tx}(h:TR w base (.slice A ss.length c) ss)(hi:i<ss.length):
  Calls Tryz.prog 162 #[.slice A ss.length c,.int .i64 i,.int .i64 (i+1)] w fun e w'=>e=.returned (.slice A (ss.eraseIdx i).length c)/\TR w' base (.slice A (ss.eraseIdx i).length c) (ss.eraseIdx i)/\w.grownBy w' (Value.slice A ss.length c).ownBlock:=by
 have ho:=h.own
 have hv:Value.slice A ss.length c≠ .slice none 0 0:=by intro e;injection e with _ e2 _;omega
 obtain⟨g,cap,hv',hbg,hgl,hncap,hcm,hlen,hH⟩:=Lib.holds_of_ownsRow ho hv
 injection hv' with hA _ hcc
 subst hA hcc
 unfold maxLen at hcm
 have hn:(ss.eraseIdx i).length=ss.length -1:=by rw[List.length_eraseIdx,if_pos hi]
 refine(Tryz.slices_Delete_string g 0 c i (i+1) ss w hH hncap (by omega) (by omega) (by omega)).mono ?_
 rintro e w' ⟨rfl,q,rfl⟩
 refine⟨by rw[hn,show i+1 -i=1 by omega],?_,yF _⟩
 rcases ho.2 with⟨h0,_⟩|⟨g',cap',cur,hv',hbase,hb,h1,h2,h3,h4⟩
 ·exact absurd h0 hv
 ·injection hv' with hA' _ hc'
  injection hA' with hA'
  injection hA' with hg' _ _
  subst hg' hc'
  refine TR.of_own (n:=(ss.eraseIdx i).length) ⟨by simp,.inr ⟨g,c,_,rfl,hbase,heap_put _ hb,by omega,h2,by simp[putCells,h3],?_⟩⟩
  have hs:ss.take i++ss.drop (i+1)++List.replicate (i+1 -i) []=ss.eraseIdx i++[[]]:=by rw[Tm,show i+1 -i=1 by omega];rfl
  rw[hs,Nat.mul_one]
  have ht:=take_putCells cur (ss.eraseIdx i++[[]]) (by simp;omega)
  have h5:=congrArg (List.take (ss.eraseIdx i).length) ht
  rw[List.take_take,Nat.min_eq_left (by simp)]at h5
  rw[h5,List.map_append]
  rw[List.take_append_of_le_length (by simp),List.take_of_length_le (by simp)]
theorem OH (r:Tx->Tx->Bool)(left:List Tx)(x:Tx):Gs.free r left x=!(left.any (r x)):=by
 unfold Gs.free
 induction left with
 |nil=>rfl
 |cons y l ih=>rw[List.all_cons,List.any_cons,ih];cases r x y<;>rfl
theorem VQ {α:Type}(q:α->Bool):∀(l:List α),idxOf q l=if l.findIdx q<l.length then(l.findIdx q:Int)else-1
 | []=>rfl
 |x::l=>by
  unfold idxOf
  rw[List.findIdx_cons]
  by_cases h:q x=true
  ·simp[h]
  ·have h':q x=false:=by simpa using h
   have ih:=VQ q l
   rw[if_neg h,h']
   simp only[cond_false,GY8]
   by_cases k:l.findIdx q<l.length
   ·rw[if_pos k]at ih
    rw[ih,if_neg (by omega),if_pos (by omega)];rfl
   ·rw[if_neg k]at ih
    rw[ih,if_pos (by omega),if_neg (by omega)]
theorem Gl (A:Option Addr)(c:Nat)(l:List Plc)(L X:Nat)(x y:Tx)(w:World)(h:aU w A l)(hc:w.cell? ⟨L,0,none⟩=some (.slice A l.length c))(hd:w.cell? ⟨X,0,none⟩=some (.string (bs x)))(hx:x∈txs l):
  Calls Tryz.prog 160 (#[.string (bs y)]++ #[.pointer (some ⟨L,0,none⟩),.pointer (some ⟨X,0,none⟩)]) w fun e w'=>e=.returned (.bool (nU l x y))/\Below w.heap.size w w':=by
 have c1:=Hp (BU A c l (bs x) (bs y) w h (by rw[Nh];exact hx))
 simp only[Nh]at c1
 generalize nU l x y=d at*
 clear h hx
 go_enter Tryz.func160,Tryz.ntmps160
 go_wp2_with (first|(go_at_call 161;(with_reducible refine(c1.out).mono ?_);rintro e w1 ⟨rfl,hb1⟩))
 go_ret
 exact⟨rfl,hb1⟩
theorem FZ (A:Option Addr)(c:Nat)(l:List Plc)(B L:Nat)(lA:Option Addr)(lC:Nat)(left:List Tx)(x:Tx)(w:World)(h:aU w A l)(hc:w.cell? ⟨L,0,none⟩=some (.slice A l.length c))
  (hd:w.cell? ⟨B,0,none⟩=some (.slice lA left.length lC)) (hr:Hl w lA left) (hl:left.length<=big) (hx:x∈txs l) (hL:L<w.heap.size):
  Calls Tryz.prog 158 (#[.string (bs x)]++ #[.pointer (some ⟨B,0,none⟩),.pointer (some ⟨L,0,none⟩)]) w fun e w'=>e=.returned (.bool (Gs.free (nU l) left x))/\Below w.heap.size w w':=by
 obtain⟨w0,hw0⟩:=Nm (w.alloc (.cells #[.string (bs x)] 9))
 obtain⟨hc0,hz0,hb0⟩:=Ui hw0
 have c1:=Hp (Jb lA lC left 160 #[.pointer (some ⟨L,0,none⟩),.pointer (some ⟨w.heap.size,0,none⟩)] (nU l x) w0 (enters_of Tryz.func160 (by kernel_rfl) rfl) (hr.below hb0) hl
  (fun y _ W hb=>Gl A c l L w.heap.size x y W ((h.below hb0).below hb) ((hb.cell (by simp;omega)).trans ((hb0.cell hL).trans hc)) ((hb.cell (by simp;omega)).trans hc0) hx))
 have hB:B<w.heap.size:=World.block_lt_of_cell? _ _ hd
 have d0:=(hb0.cell (p:=⟨B,0,none⟩) hB).trans hd
 have H0:=Hp hb0
 have hw0':=hw0.symm
 rw[OH]
 generalize left.any (nU l x)=b at*
 clear hw0 hb0 h hr hc hd hx hz0 hl
 go_enter Tryz.func158,Tryz.ntmps158
 go_wp2_with (go_at_call 159;refine(c1.out).mono ?_;rintro e w2 ⟨rfl,hb2⟩)
 go_ret
 exact⟨rfl,H0.trans (hb2.mono H0.size)⟩
def PW (w':World)(base:Nat)(e:Ending)(o:Option (List Tx)):Prop:=∃v,e=.returned (.tuple #[v,.bool o.isSome])/\TR w' base v (o.getD [])
theorem TR.Qp {w w':World}{base B:Nat}{v:Value}{ss:List Tx}(h:TR w base v ss)(hb:Below B w w')(hlt:∀g,v.ownBlock=some g->g<B):TR w' base v ss:=by
 refine⟨h.1,?_⟩
 rcases h.2 with h0|⟨g,cap,cur,e1,e2,e3,e4⟩
 ·exact .inl h0
 ·refine .inr ⟨g,cap,cur,e1,e2,?_,e4⟩
  rw[hb.block g (hlt g (by rw[e1];rfl))];exact e3
structure Pz (l:List Plc)(base B base2:Nat)(w:World)(v:Value)(left out:List Tx)(wr:World):Prop where
 ord:Gs.order (nU l) left.length left out=rT l
 out_:TR wr base2 v out
 box:∃u,Boxed wr B 27 u/\TR wr base u left/\(∀g,u.ownBlock=some g->g<B)
 mem:∀x∈left,x∈txs l
 len:out.length+left.length<=8
 bel:Below base w wr
theorem Jj (r:Tx->Tx->Bool)(left out:List Tx)(h:left=[]):Gs.order r left.length left out=some out:=by subst h;rfl
theorem Kv (r:Tx->Tx->Bool)(left out:List Tx)(h:left≠[]):Gs.order r left.length left out=if left.findIdx (Gs.free r left)<left.length then Gs.order r (left.length -1) (left.eraseIdx (left.findIdx (Gs.free r left))) (out++[left.getD (left.findIdx (Gs.free r left)) []])else none:=by
 obtain⟨n,hn⟩:∃n,left.length=n+1:=by
  cases left with
  |nil=>exact absurd rfl h
  |cons x l=>exact⟨l.length,rfl⟩
 rw[hn,Gs.order,hn];rfl
theorem Ii (A:Option Addr)(c:Nat)(l:List Plc)(w:World)(h:aU w A l)(h8:l.length<=8):
  Calls Tryz.prog 87 #[.slice A l.length c] w fun e w'=>PW w' w.heap.size e (rT l)/\Below w.heap.size w w':=by
 obtain⟨w0,hw0⟩:=Nm (w.alloc (.cells #[.slice A l.length c] 37))
 obtain⟨hc0,hz0,hb0⟩:=Ui hw0
 have c1:=Hp (Dn A c l w0 (h.row.below hb0) h8)
 have HP:=Hp h
 have H0:=Hp hb0
 have HC0:=Hp hc0
 have HZ0:=Hp hz0
 have hTl:=Hp (show(Gs.Sd (txs l)).length=l.length by rw[Ew,eZ])
 have hw0':=hw0.symm
 clear h hb0 hw0 hz0
 go_enter Tryz.func87,Tryz.ntmps87
 go_wp2_with (go_at_call 156;refine(c1.out).mono ?_;rintro e w1 ⟨⟨v,rfl,ht1⟩,hb1⟩;obtain⟨lA,lC,rfl,_⟩:=ht1.form;have HT:=Hp ht1;have HB1:=Hp hb1;clear ht1 hb1)
 have hS0:Pz l w0.heap.size w1.heap.size (w1.heap.size+1) w0 (.slice none 0 0) (Gs.Sd (txs l)) [] (w1.alloc (.cells #[.slice lA (Gs.Sd (txs l)).length lC] 27)):=
  ⟨by rw[hTl.out];rfl,TR.nil _ _,⟨_,Boxed.new _ _ _,HT.alloc _,fun g hg=>(HT.lt g hg).2⟩,fun x hx=>by rwa [Gs.Kj]at hx,
   by rw[hTl.out];simpa using h8,HB1.alloc HB1.size _⟩
 have HS0:=Hp hS0
 have HLB:=Hp (show w.heap.size<w1.heap.size by have h1:=HZ0.out;have h2:=HB1.size;omega)
 clear hS0
 go_loopg [5] (Gs.Sd (txs l)).length (fun gf v wr=>∃left out,left.length=gf/\Pz l w0.heap.size w1.heap.size (w1.heap.size+1) w0 v left out wr)
 case atStart=>exact⟨_,_,rfl,HS0.out⟩
 case round=>
  obtain⟨left,out,hlen,hS⟩:=hrel
  have HS:=Hp hS
  have HB:=Hp hS.bel
  obtain⟨u,hbox,htl,hlow⟩:=hS.box
  obtain⟨uA,uC,rfl,hrow⟩:=htl.form
  have b0:=hbox.cell
  have b1:=hbox.frozen
  have HX:=Hp hbox
  have HTL:=Hp htl
  have HLOW:=Hp hlow
  have HROW:=Hp hrow
  have hz0:=HZ0.out
  have hcl:=(HB.cell (p:=⟨w.heap.size,0,none⟩) (by simp;omega)).trans HC0.out
  have hLw:w.heap.size<wr.heap.size:=by have:=HB.size;omega
  have HBW:=Hp (H0.trans (HB.mono H0.size))
  have HLN:=Hp hlen
  have hBw:=hbox.lt
  clear hS htl hlow hrow hz0 hlen
  by_cases hne:left=[]
  ·subst hne
   have e1:=Hp (HS.ord.symm.trans (Jj _ _ out rfl))
   go_wp2_with fail
   go_ret2
   exact⟨⟨_,by rw[e1.out];rfl,by rw[e1.out];exact HS.out_.more (by have:=HLB.out;omega)⟩,HBW.out⟩
  ·have e1:=Hp (HS.ord.symm.trans (Kv _ _ out hne))
   have hpos:(0:Int)<left.length:=by have:=List.length_pos_iff.2 hne;omega
   have hll:left.length<=8:=by have:=HS.len;omega
   have c2:=Hp (DZ uA uC left 158 #[.pointer (some ⟨w1.heap.size,0,none⟩),.pointer (some ⟨w.heap.size,0,none⟩)] (Gs.free (nU l) left) wr (enters_of Tryz.func158 (by kernel_rfl) rfl) HROW.out (by unfold big;omega)
    (fun x hx W hb=>FZ A c l w1.heap.size w.heap.size uA uC left x W (HP.below (HBW.trans (hb.mono HBW.size))) ((hb.cell (by simp;omega)).trans hcl) ((hb.cell (by simp;omega)).trans b0) (HROW.below hb) (by unfold big;omega) (HS.mem x hx) (by have:=hb.size;omega)))
   rw[VQ]at c2
   obtain⟨k,hk⟩:=Nm (left.findIdx (Gs.free (nU l) left))
   rw[<-hk]at c2 e1
   clear hk hbox
   by_cases hkl:k<left.length
   ·rw[if_pos hkl]at c2 e1
    have HKR:=Hp (fun W(hb:Below wr.heap.size wr W)=>MU HROW.out hb k hkl)
    obtain⟨ad,hA,_⟩:=MU HROW.out (GZ4 _ _) k hkl
    subst hA
    have eg:left.getD k []=left[k]:=by rw[List.getD_eq_getElem?_getD,GY5 hkl];rfl
    rw[eg]at e1
    obtain⟨t,ht⟩:=Nm (left[k]'hkl)
    rw[<-ht]at e1
    simp only[<-ht]at HKR
    clear ht eg hne
    have HOL:=Hp (show out.length<=1000000 by have:=HS.len;omega)
    have hkl':(k:Int)<left.length:=by omega
    have HK:=Hp hkl
    go_wp2_with (first
     |(go_at_call 157;refine(c2.out).mono ?_;rintro e w3 ⟨rfl,hb3⟩
       have b30:=(hb3.cell (p:=⟨w1.heap.size,0,none⟩) hBw).trans b0
       obtain⟨_,eA,_,r3⟩:=HKR.out w3 hb3
       obtain rfl:=GY3 eA
       have HB3:=Hp hb3
       have HO3:=Hp (HS.out_.below hb3 (GZ3 _))
       have HT3:=Hp (HTL.below hb3 (GZ3 _))
       have HX3:=Hp (show Boxed w3 w1.heap.size _ _ from(hb3.block _ HX.lt).trans HX.out)
       have HZ3:=Hp (show w1.heap.size+1<=w3.heap.size by have:=HX3.lt;omega)
       clear hb3)
     |(at_builtin;refine Ct w3 rfl _ _ rfl (w1.heap.size+1) _ out (bs t) rfl rfl (by exact HO3.out) HOL.out HZ3.out ?_;intro v' w4 ht4 hb4
       have b40:=(hb4.cell (p:=⟨w1.heap.size,0,none⟩) (by simp)).trans b30
       have HB4:=Hp hb4
       have HO4:=Hp ht4
       have HT4:=Hp (HT3.Qp hb4 (fun g hg=>by have:=HLOW.out g hg;omega))
       have HX4:=Hp (show Boxed w4 w1.heap.size _ _ from(hb4.block _ (by omega)).trans HX3.out)
       clear hb4 ht4)
     |(go_at_call 162;refine(Lr HT4.out HK.out).mono ?_;rintro e w5 ⟨rfl,ht5,hg5⟩
       have HX5:=Hp (HX4.kept hg5 (fun q=>by have:=HLOW.out _ q.symm;omega))
       have b50:=HX5.cell
       have b51:=HX5.frozen
       have HT5:=Hp ht5
       have HG5:=Hp hg5
       clear ht5 hg5))
    have hE:(left.eraseIdx k).length=left.length -1:=by rw[List.length_eraseIdx,if_pos HK.out]
    have HE:=Hp hE
    clear hE
    go_roundg (left.length -1)
    case measure=>have:=HLN.out;omega
    case rel=>
     have hgl:∀g,(Value.slice (some ad) left.length uC).ownBlock=some g->g<w1.heap.size:=HLOW.out
     have hs:=grownBy_setCell' w5 w1.heap.size (.slice (some ad) (left.eraseIdx k).length uC)
     refine⟨left.eraseIdx k,out++[t],HE.out,?_,?_,⟨_,HX5.set _,HT5.kept hs (.inr (fun q=>by have:=hgl _ q;omega)),hgl⟩,fun x hx=>HS.mem x (List.mem_of_mem_eraseIdx hx),?_,?_⟩
     ·rw[HE.out];exact e1.symm
     ·have h4:=HO4.out
      rw[Nh]at h4
      exact(h4.kept HG5.out (.inr (fun q=>by
       have h1:=hgl ad.block rfl
       exact h4.ne (k:=ad.block) (by omega) q))).kept hs (.inr (fun q=>by
        have h5:=h4.kept HG5.out (.inr (fun q=>by
         have h1:=hgl ad.block rfl
         exact h4.ne (k:=ad.block) (by omega) q))
        exact h5.ne (k:=w1.heap.size) (by omega) q))
     ·have:=HS.len;have:=HE.out;have:=HK.out;rw[GZ8];simp;omega
     ·have z1:=HB.size
      have z2:=HB3.size
      have z3:=HB4.size
      have hw1:w0.heap.size<=w1.heap.size:=HB1.size
      have q4:Below w0.heap.size w0 w4:=(HB.trans (HB3.mono z1)).trans (HB4.mono (by omega))
      exact(q4.grown HG5.out q4.size (fun g hg=>(HTL.lt g hg).1)).setCell (p:=⟨w1.heap.size,0,none⟩) hw1 _
   ·rw[if_neg hkl]at c2 e1
    clear hkl
    go_wp2_with (go_at_call 157;refine(c2.out).mono ?_;rintro e w3 ⟨rfl,hb3⟩)
    go_ret2
    exact⟨⟨_,by rw[e1.out];rfl,by rw[e1.out];exact TR.nil _ _⟩,HBW.trans (hb3.mono HBW.size)⟩
end
section
open Go.RowKit
open Gs (Tx)
open Gr (Tab)
structure Mat (w:World)(B0 n O:Nat)(R C:Nat->Nat)(t:Tab):Prop where
 row:∀i,i<n->w.cell? ⟨O,i,none⟩=some (.slice (some ⟨R i,0,none⟩) n (C i))
 cell:∀i k,i<n->k<n->w.cell? ⟨R i,k,none⟩=some (.bool (t.at i k))
 free:∀i k,i<n->k<n->w.frozen? ⟨R i,k,none⟩=false
 one:∀i k,i<n->k<n->R i=R k->i=k
 off:∀i,i<n->R i≠O/\B0<=R i
 low:B0<=O
 sq:t.sq n
section
variable {w w':World} {B0 n O:Nat} {R C:Nat->Nat} {t:Tab}
theorem Mat.lt (h:Mat w B0 n O R C t){i:Nat}(hi:i<n):R i<w.heap.size:=World.block_lt_of_cell? _ _ (h.cell i i hi hi)
theorem Mat.ltO (h:Mat w B0 n O R C t){i:Nat}(hi:i<n):O<w.heap.size:=World.block_lt_of_cell? _ _ (h.row i hi)
theorem Mat.drew (h:Mat w B0 n O R C t):Mat w.drew B0 n O R C t:=⟨h.row,h.cell,h.free,h.one,h.off,h.low,h.sq⟩
theorem Mat.below {B:Nat}(h:Mat w B0 n O R C t)(hb:Below B w w')(hB:w.heap.size<=B):Mat w' B0 n O R C t where
 row:=fun i hi=>(hb.cell (p:=⟨O,i,none⟩) (GY0 (h.ltO hi) hB)).trans (h.row i hi)
 cell:=fun i k hi hk=>(hb.cell (p:=⟨R i,k,none⟩) (GY0 (h.lt hi) hB)).trans (h.cell i k hi hk)
 free:=fun i k hi hk=>(hb.frozen (p:=⟨R i,k,none⟩) (GY0 (h.lt hi) hB)).trans (h.free i k hi hk)
 one:=h.one
 off:=h.off
 low:=h.low
 sq:=h.sq
end
def BR (w:World)(base:Nat)(v:Value)(bl:List Bool):Prop:=w.ownsRow base 4 1 v bl.length (bl.map Value.bool)
def heads (n:Nat)(R C:Nat->Nat)(i:Nat):List Value:=(List.range i).map (fun a=>.slice (some ⟨R a,0,none⟩) n (C a))
def vU (l:List Plc)(i k:Nat):List Bool:=(List.range k).map (kV l i)
structure vF (l:List Plc)(w:World)(v:Value)(i:Nat)(wr:World):Prop where
 rows:∃R C:Nat->Nat,wr.ownsRow w.heap.size 221 1 v i (heads l.length R C i)/\(∀a,a<i->BR wr w.heap.size (.slice (some ⟨R a,0,none⟩) l.length (C a)) (vU l a l.length))/\
  (∀a b,a<i->b<i->R a=R b->a=b)/\(∀a,a<i->v.ownBlock≠some (R a))
 bel:Below w.heap.size w wr
theorem vF.start (l:List Plc)(w:World):vF l w (.slice none 0 0) 0 w:=⟨⟨fun _=>0,fun _=>0,World.ownsRow_nil _ _ _ _,fun _ h=>by omega,fun _ _ h=>by omega,fun _ h=>by omega⟩,GZ4 _ _⟩
end
section
open Go.RowKit Go.Lib
def over {α:Type}(L:List α)(o:Nat)(cs:List α):List α:=L.take o++cs++L.drop (o+cs.length)
theorem nL {α:Type}{L:List α}{o:Nat}{cs:List α}(h:o+cs.length<=L.length):(over L o cs).length=L.length:=by
 simp[over];omega
theorem Db {α:Type}{L:List α}{o:Nat}{cs:List α}(h:o+cs.length<=L.length){k:Nat}(hk:k<=o):(over L o cs).take k=L.take k:=by
 unfold over
 rw[List.append_assoc,List.take_append_of_le_length (by rw[GY6];omega),List.take_take,Nat.min_eq_left hk]
theorem xA {α:Type}{L:List α}{o:Nat}{cs:List α}(h:o+cs.length<=L.length):(over L o cs).take (o+cs.length)=L.take o++cs:=by
 unfold over
 rw[List.take_append_of_le_length (by rw[GZ8,GY6];omega),List.take_of_length_le (by rw[GZ8,GY6];omega)]
theorem Ke {α:Type}{L:List α}{o:Nat}{cs:List α}(h:o+cs.length<=L.length):(over L o cs).drop o=cs++L.drop (o+cs.length):=by
 have e:(L.take o).length=o:=by rw[GY6];omega
 unfold over
 rw[List.append_assoc,List.drop_append_of_le_length (by omega),List.drop_eq_nil_of_le (by omega),List.nil_append]
theorem NH {α:Type}{L F Y:List α}{p:Nat}(hp:p<=F.length)(hL:L.take F.length=F)(hl:F.length+Y.length<=L.length):
  (over (over L (p+Y.length) (F.drop p)) p Y).take (F.length+Y.length)=F.take p++Y++F.drop p:=by
 have hd:(F.drop p).length=F.length -p:=by rw[List.length_drop]
 have h1:(over L (p+Y.length) (F.drop p)).length=L.length:=nL (by omega)
 have ht:(over L (p+Y.length) (F.drop p)).take p=F.take p:=by
  rw[Db (by omega) (by omega)]
  have:=congrArg (List.take p) hL
  rwa [List.take_take,Nat.min_eq_left hp]at this
 have hdr:(over L (p+Y.length) (F.drop p)).drop (p+Y.length)=F.drop p++L.drop (p+Y.length+(F.drop p).length):=Ke (by omega)
 show(List.take p (over L (p+Y.length) (F.drop p))++Y++List.drop (p+Y.length) (over L (p+Y.length) (F.drop p))).take _=_
 rw[ht,hdr,<-List.append_assoc,List.take_append_of_le_length (by simp;omega),List.take_of_length_le (by simp;omega)]
theorem PR {α:Type}{R F Y:List α}{p:Nat}(hp:p<=F.length)(hR:R.take p=F.take p)(hl:F.length+Y.length<=R.length):
  (over (over R p Y) (p+Y.length) (F.drop p)).take (F.length+Y.length)=F.take p++Y++F.drop p:=by
 have hd:(F.drop p).length=F.length -p:=by rw[List.length_drop]
 have h1:(over R p Y).length=R.length:=nL (by omega)
 have e:F.length+Y.length=p+Y.length+(F.drop p).length:=by omega
 rw[e,xA (by omega),xA (by omega),hR]
theorem NI {α:Type}{L F Z:List α}{p q:Nat}(hp:p+q<=F.length)(hL:L.take F.length=F)(hl:F.length<=L.length)(hz:Z.length=q):
  (over (over L p (F.drop (p+q))) (F.length -q) Z).take (F.length -q)=F.take p++F.drop (p+q):=by
 have hd:(F.drop (p+q)).length=F.length -(p+q):=by rw[List.length_drop]
 have h1:(over L p (F.drop (p+q))).length=L.length:=nL (by omega)
 rw[Db (by omega) (GZ3 _)]
 have e:F.length -q=p+(F.drop (p+q)).length:=by omega
 rw[e,xA (by omega)]
 congr 1
 have:=congrArg (List.take p) hL
 rwa [List.take_take,Nat.min_eq_left (by omega)]at this
abbrev spl (cur:Array Value)(o:Nat)(cs:List Value):Array Value:=(over cur.toList o cs).toArray
theorem oK {cur:Array Value}{o:Nat}{cs:List Value}(h:o+cs.length<=cur.size):(spl cur o cs).size=cur.size:=by
 show(over cur.toList o cs).toArray.size=_
 rw[List.size_toArray,nL (by simpa using h),Array.length_toList]
theorem Only.row {w:World}{g:Nat}(cs:Array Value):Only g w (w.setRow g cs):=
 ⟨rfl,rfl,rfl,by simp[World.setRow],fun k _ hk=>by simp[World.setRow,Array.getElem?_modify,Ne.symm hk]⟩
theorem TU {P:Program}(w:World)(dT sT ty elem:TypeId)(g o dLen dCap:Nat)(a:Addr)(sLen sCap k n:Nat)(cur:Array Value)(t:TypeId)(cs:List Value)
  (hu:P.underlying dT=some (.slice elem)) (hs:(P.info? elem).map (·.size)=some k)
  (hg:w.heap[g]? =some (.cells cur t (0,0))) (hn:n=Nat.min sLen dLen) (hlen:cs.length=n*k)
  (hsrc:∀j v,cs[j]? =some v->w.cell? (a.add j)=some v) (hfit:o+cs.length<=cur.size) (h1:∀v∈cs,v.oneCell'=true):
  (Builtin.copy_ #[dT,sT] ty #[.slice (some ⟨g,o,none⟩) dLen dCap,.slice (some a) sLen sCap]).run P w=.ok (goInt n) (w.setRow g (spl cur o cs)):=by
 have hl:=run_loadCells_list (P:=P) w a cs hsrc
 have hst:=run_storeCells_at P g o t cs 0 cur w hg (by simpa using hfit) h1
 rw[hlen]at hl
 cases hq:P.info? elem with
 |none=>simp[hq]at hs
 |some i=>
  have hi:i.size=k:=by simpa[hq]using hs
  simp[Builtin.copy_,run_underlying hu,Builtin.lenOf,Builtin.firstCells,sizeOf,typeInfo,hq,hi,<-hn,hl,hst,spl,over]
theorem Fx {P:Program}(w:World)(t e ty:TypeId)(z:Value)(ht:P.underlying t=some (.slice e))(hv:∀w,(zeroValue e).run P w=.ok z w)(g o n c:Nat)(hn:0<n)(cur:Array Value)(t':TypeId)(zs:List Value)
  (hz:(Builtin.zeroCells z.cells n).toList=zs) (hg:w.heap[g]? =some (.cells cur t' (0,0))) (hfit:o+zs.length<=cur.size) (h1:∀v∈zs,v.oneCell'=true):
  (Builtin.clear_ #[t] ty #[.slice (some ⟨g,o,none⟩) n c]).run P w=.ok (.tuple #[]) (w.setRow g (spl cur o zs)):=by
 have hst:=run_storeCells_at P g o t' zs 0 cur w hg (by simpa using hfit) h1
 obtain⟨m,rfl⟩:∃m,n=m+1:=⟨n -1,by omega⟩
 simp[Builtin.clear_,run_underlying ht,hv,hz,hst,spl,over]
theorem TQ {P:Program}{ops:Array Oper}{o:Oper}{a:Act}{w:World}{K:Act->World->Prop}{Q:Exit->Act->World->Prop}{E:Prop}
  (hg:o.guard=none) (d x:Operand) (dT sT:TypeId) (hop:o.op=Op.call {callee:=Callee.builtin Builtin.append,args:=#[d,x],argTypes:=#[dT,sT]})
  (v u:Value) (hd:a.eval d=v) (hx:a.eval x=u) {v':Value} {w':World} (hr:(Builtin.append_ #[dT,sT] o.type #[v,u]).run P w=.ok v' w') (hK:K (a.put o.dst v') w'):
  if Region.wanted o (yielded ops a.tmps)=true then Oper.wp P o a w K Q else E:=by
 have hw:Region.wanted o (yielded ops a.tmps)=true:=by simp[Region.wanted,hg]
 rw[if_pos hw]
 unfold Oper.wp
 simp[execOp,hop,resolve,invoke,builtin,hd,hx,hr,Result.andThen]
 exact hK
theorem lN (x:Plc):x.cells.length=8:=rfl
theorem vJ :∀(l:List Plc)(i:Nat),(l.flatMap Plc.cells).take (i*8)=(l.take i).flatMap Plc.cells
 | [],i=>by simp
 |x::l,0=>by simp
 |x::l,i+1=>by
  rw[List.flatMap_cons,List.take_succ_cons,List.flatMap_cons,List.take_append,lN,List.take_of_length_le (by rw[lN];omega),show(i+1)*8 -8=i*8 by omega,vJ l i]
theorem Ua :∀(l:List Plc)(i:Nat),(l.flatMap Plc.cells).drop (i*8)=(l.drop i).flatMap Plc.cells
 | [],i=>by simp
 |x::l,0=>by simp
 |x::l,i+1=>by
  rw[List.flatMap_cons,List.drop_succ_cons,List.drop_append,lN,List.drop_eq_nil_of_le (by rw[lN];omega),List.nil_append,show(i+1)*8 -8=i*8 by omega,Ua l i]
theorem mK (l:List Plc):(l.flatMap Plc.cells).length=l.length*8:=flat_length (enc:=Plc.cells) (k:=8) (fun _=>rfl) l
theorem Cw {w:World}{base g n c:Nat}{l:List Plc}(h:aP w base (.slice (some ⟨g,0,none⟩) n c) l)(hn:n=l.length):∃cur:Array Value,base<=g/\w.heap[g]? =some (.cells cur 83 (0,0))/\l.length<=c/\c<=maxLen/\cur.size=c*8/\cur.toList.take (l.length*8)=l.flatMap Plc.cells:=by
 subst hn
 rcases h.2 with⟨h0,_⟩|⟨g',cap,cur,e1,e2,e3,e4,e5,e6,e7⟩
 ·cases h0
 ·injection e1 with e1 _ e8;injection e1 with e1;injection e1 with e1;subst e1 e8
  exact⟨cur,e2,e3,e4,e5,e6,e7⟩
theorem oZ {w:World}{base g c n:Nat}{l:List Plc}{cur:Array Value}(hb:base<=g)(h:w.heap[g]? =some (.cells cur 83 (0,0)))(hn:n=l.length)(h1:l.length<=c)(h2:c<=maxLen)(h3:cur.size=c*8)(h4:cur.toList.take (l.length*8)=l.flatMap Plc.cells):aP w base (.slice (some ⟨g,0,none⟩) n c) l:=by
 subst hn
 exact⟨mK l,.inr ⟨g,c,cur,rfl,hb,h,h1,h2,h3,h4⟩⟩
theorem mH {w:World}{g:Nat}{cur:Array Value}{t:TypeId}{F:List Value}{k:Nat}(hg:w.heap[g]? =some (.cells cur t (0,0)))(hF:cur.toList.take k=F):∀j v,F[j]? =some v->w.cell? ⟨g,j,none⟩=some v:=fun j v hj=>by
 rw[<-hF,List.getElem?_take]at hj
 split at hj
 ·simp[World.cell?,hg];simpa using hj
 ·cases hj
end
section
open Go.RowKit
def Run.cells (r:Run):List Value:=[.int .i64 r.first,.int .i64 r.many]
abbrev Run.v (r:Run):Value:=.agg #[.int .i64 r.first,.int .i64 r.many]
abbrev KZ :Value:=.agg #[.int .i64 0,.int .i64 0]
theorem Tryz.Ox :(Tryz.prog.info? 99).map (fun i=>(i.zero,i.size,i.bytes))=some (some KZ,2,16):=by kernel_rfl
def gQ (w:World)(base:Nat)(v:Value)(l:List Run):Prop:=w.ownsRow base 99 2 v l.length (l.flatMap Run.cells)
abbrev xD (w:World)(A:Option Addr)(l:List Run):Prop:=Row Run.cells 2 w A l
theorem vL {w:World}{base size n:Nat}{e:TypeId}{v:Value}{xs:List Value}(h:w.ownsRow base e size v n xs):∃(A:Option Addr)(c:Nat),v=.slice A n c:=by
 rcases h.2 with⟨rfl,rfl⟩|⟨g',cap,cur,rfl,_⟩
 ·exact⟨_,_,rfl⟩
 ·exact⟨_,_,rfl⟩
theorem PV {w w':World}{base size n B:Nat}{e:TypeId}{v:Value}{xs:List Value}(h:w.ownsRow base e size v n xs)(hb:Below B w w')(hB:w.heap.size<=B):w'.ownsRow base e size v n xs:=by
 refine⟨h.1,?_⟩
 rcases h.2 with h0|⟨g,cap,cur,e1,e2,e3,e4⟩
 ·exact .inl h0
 ·refine .inr ⟨g,cap,cur,e1,e2,?_,e4⟩
  have:g<w.heap.size:=by
   rcases Nat.lt_or_ge g w.heap.size with hlt|hge
   ·exact hlt
   ·rw[Array.getElem?_eq_none hge]at e3;cases e3
  rw[hb.block g (by omega)];exact e3
theorem gQ.row {w:World}{base:Nat}{v:Value}{l:List Run}(h:gQ w base v l):∃(A:Option Addr)(c:Nat),v=.slice A l.length c/\xD w A l:=by
 obtain⟨A,c,rfl⟩:=vL h
 exact⟨A,c,rfl,Reads.of_own h⟩
theorem gQ.nil (w:World)(base:Nat):gQ w base (.slice none 0 0) []:=World.ownsRow_nil _ _ _ _
theorem uF (W:World){ops:Array Oper}{rest:List Oper}{o:Oper}{a:Act}{Q:Exit->Act->World->Prop}(hgd:o.guard=none)(s x:Operand)
  (ho:o.op=.call {callee:=.builtin .append,args:=#[s,x],argTypes:=#[93,93]}) (base:Nat) (v:Value) (l:List Run) (r:Run) (hs:a.eval s=v)
  (hx:a.eval x=.slice (some ⟨W.heap.size,0,none⟩) 1 1) (hown:gQ W base v l) (hl:l.length<=1000000) (hbase:base<=W.heap.size)
  (h:∀v' w',gQ w' base v' (l++[r])->(W.alloc (.cells #[.int .i64 r.first,.int .i64 r.many] 99)).grownBy w' v.ownBlock->wpList Tryz.prog ops Q rest (a.put o.dst v') w'):wpList Tryz.prog ops Q (o::rest) a (W.alloc (.cells #[.int .i64 r.first,.int .i64 r.many] 99)):=by
 obtain⟨i0,hi,hz0,hz1,hz2⟩:=info_parts Tryz.Ox
 refine wpList_append_own_at (W.alloc (.cells #[.int .i64 r.first,.int .i64 r.many] 99)) hgd s x 93 ho base 99 i0 KZ 2 16 Tryz.underlying93 hi hz0 hz1 hz2 rfl (by decide) v l.length (l.flatMap Run.cells) hs (hown.alloc _) ⟨W.heap.size,0,none⟩ 1 1 r.cells hx rfl
  ?_ (by intro u hu;simp only[Run.cells,List.mem_cons,List.not_mem_nil,or_false]at hu;rcases hu with rfl|rfl<;>rfl) (by simp only[maxLen];omega) (by omega) (by simp;omega) ?_
 ·intro j u hu
  match j,hu with
  |0,hu=>simp only[Run.cells,GZ0,Option.some.injEq]at hu;subst hu;rw[add_zero_,World.cell?_alloc_new];rfl
  |1,hu=>simp only[Run.cells,GZ1,GZ0,Option.some.injEq]at hu;subst hu;rw[add_pos_ _ _ (by omega)];simp only[Nat.zero_add];rw[World.cell?_alloc_new];rfl
  |j+2,hu=>simp[Run.cells]at hu
 intro v' w1 hown' hgrow _ _
 refine h v' w1 ?_ hgrow
 unfold gQ
 simpa using hown'
structure Te (w w':World)(b:Nat)(row:Option Nat):Prop where
 os:w'.os=w.os
 tape:w'.tape=w.tape
 output:w'.output=w.output
 size:w.heap.size<=w'.heap.size
 block:∀k,k<w.heap.size->k≠b->some k≠row->w'.heap[k]? =w.heap[k]?
theorem KQ (b:Nat)(at_ e:Int)(v:Value)(l:List Run)(w:World)(hO:Boxed w b 93 v)(hA:Boxed w (b+1) 3 (.int .i64 at_))(hv:gQ w (b+2) v l)(hl:l.length<=100)(h0:0<=at_)(h1:at_<=16)(h2:0<=e)(h3:e<=16):
  Calls Tryz.prog 202 #[.int .i64 e,.pointer (some ⟨b+1,0,none⟩),.pointer (some ⟨b,0,none⟩)] w fun e' w'=>(∃u,e'=.returned u)/\
   ∃v',Boxed w' b 93 v'/\gQ w' (b+2) v' (l++Rb at_ e)/\Te w w' b v.ownBlock:=by
 have a0:=hA.cell
 have a1:=hA.frozen
 have o0:=hO.cell
 have o1:=hO.frozen
 have hlt:=hA.lt
 have HO:=Hp hO
 have HV:=Hp hv
 obtain⟨A,c,rfl⟩:=vL hv
 have hrow:=hv.lt
 have q0:IntKind.i64.wrap (e -at_)=e -at_:=IntWalk.i64_in _ (by omega)
 by_cases t0:at_<e
 ·have HG:=Hp (show Rb at_ e=[⟨at_,e -at_⟩] by unfold Rb;rw[if_pos t0])
  have HR:=Hp hrow
  clear hO hA hv hrow
  go_enter Tryz.func202,Tryz.ntmps202
  go_wp2_with (at_builtin;refine uF w rfl _ _ rfl (b+2) (.slice A l.length c) l ⟨at_,e -at_⟩ rfl rfl HV.out (by omega) (by omega) ?_;intro v' w1 hown1 hg1;obtain⟨g,cap,rfl⟩:=ownsRow_succ (show w1.ownsRow (b+2) _ 2 v' (l.length+1) _ by have h:=hown1;unfold gQ at h;simpa using h);have hne:some b≠(Value.slice A l.length c).ownBlock:=(fun h=>by have:=(HR.out b h.symm).1;omega);have hO1:=(HO.alloc (.cells #[.int .i64 at_,.int .i64 (e -at_)] 99)).kept hg1 hne;have p0:=hO1.cell;have p1:=hO1.frozen;have hlt1:=hO1.lt)
  go_end0
  refine⟨⟨_,rfl⟩,_,hO1.set _,?_,?_⟩
  ·rw[HG.out]
   exact ownsRow_setCell_below hown1 (by simp) _
  ·refine⟨hg1.os,hg1.tape,hg1.output,?_,fun k hk hkb hkr=>?_⟩
   ·have:=hg1.size;simp at this ⊢;omega
   ·rw[Below.heap_setCell _ _ _ _ hkb,hg1.block k (by simp;omega) hkr,Below.heap_alloc _ _ _ hk]
 ·have HG:=Hp (show Rb at_ e=[] by unfold Rb;rw[if_neg t0])
  have t0':decide (at_<e)=false:=by simp;omega
  clear hO hA hv hrow t0
  go_enter Tryz.func202,Tryz.ntmps202
  go_wp2_with fail
  go_end0
  refine⟨⟨_,rfl⟩,_,HO.out,?_,⟨rfl,rfl,rfl,GZ3 _,fun k _ _ _=>rfl⟩⟩
  rw[HG.out,List.append_nil];exact HV.out
theorem iY :∀(l:List Plc)(a:Int),(dC a l).length<=l.length+1
 | [],a=>by unfold dC Rb;split<;>simp
 |x::l,a=>by
  have h1:=iY l (aR x)
  have h2:(Rb a x.first).length<=1:=by unfold Rb;split<;>simp
  rw[dC,GZ8,GY8]
  omega
theorem LF {l:List Plc}{j:Nat}(h:j<l.length)(a:Int):dC a (l.drop j)=Rb a l[j].first++dC (aR l[j]) (l.drop (j+1)):=by
 rw[GY4 h];rfl
theorem MR {l:List Plc}{j:Nat}(h:¬j<l.length)(a:Int):dC a (l.drop j)=Rb a 16:=by
 rw[List.drop_eq_nil_of_le (by omega)];rfl
theorem Te.below {w w':World}{b B:Nat}{row:Option Nat}(h:Te w w' b row)(hb:B<=b)(hB:B<=w.heap.size)(hr:∀g,row=some g->B<=g):Below B w w':=
 ⟨h.os,h.tape,h.output,h.size,fun k hk=>h.block k (by omega) (by omega) (fun e=>by have:=hr k e.symm;omega)⟩
theorem Te.cell {w w':World}{b:Nat}{row:Option Nat}(h:Te w w' b row){p:Addr}(h1:p.block<w.heap.size)(h2:p.block≠b)(h3:some p.block≠row):w'.cell? p=w.cell? p:=World.cell?_of_block (h.block _ h1 h2 h3)
theorem Te.at_ {w w':World}{b:Nat}{row:Option Nat}(h:Te w w' b row)(c o:Nat)(h1:c<w.heap.size)(h2:c≠b)(h3:some c≠row):w'.cell? ⟨c,o,none⟩=w.cell? ⟨c,o,none⟩:=h.cell h1 h2 h3
theorem Te.box {w w':World}{b b':Nat}{t:TypeId}{v:Value}{row:Option Nat}(h:Te w w' b row)(hx:Boxed w b' t v)(h2:b'≠b)(h3:some b'≠row):Boxed w' b' t v:=(h.block _ hx.lt h2 h3).trans hx
theorem dX {w w':World}{b B:Nat}{t:TypeId}{v:Value}(hx:Boxed w b t v)(h:Below B w w')(hb:b<B):Boxed w' b t v:=(h.block _ hb).trans hx
theorem Hm (A:Option Addr)(c:Nat)(l:List Plc)(w:World)(h:aU w A l)(hr:RY l=0):
  Calls Tryz.prog 138 #[.slice A l.length c] w fun e w'=>(∃(A':Option Addr)(c':Nat),e=.returned (.slice A' (RI l).length c')/\xD w' A' (RI l))/\Below w.heap.size w w':=by
 obtain⟨h8,hall,h16⟩:=cZ hr
 have HALL:=Hp (show∀x∈l,x.m.text.size<=256/\0<=x.first/\x.first<=16/\0<=aR x/\aR x<=16 from fun x hx=>by
  obtain⟨h1,h2⟩:=hall x hx
  have h3:=gK h1
  simp only[kE,Bool.and_eq_true,decide_eq_true_eq]at h2
  unfold aR
  exact⟨(aY h1).2.2.1,by omega⟩)
 have HP:=Hp h
 have HS:=Hp (show(RI l).length<=9 by have:=iY l 0;unfold RI;omega)
 obtain⟨R,hR⟩:=Nm (RI l)
 rw[<-hR]at HS ⊢
 have HR:=Hp hR
 clear h hr hall h16 hR
 obtain⟨w0,hw0⟩:∃w0,w0=(w.alloc (.cells #[.slice none 0 0] 93)).alloc (.cells #[.int .i64 0] 3):=⟨_,rfl⟩
 have hz0:w0.heap.size=w.heap.size+1+1:=by subst hw0;simp
 have hO0:Boxed w0 w.heap.size 93 (.slice none 0 0):=by subst hw0;exact(Boxed.new _ _ _).alloc _
 have hA0:Boxed w0 (w.heap.size+1) 3 (.int .i64 0):=by
  subst hw0
  have:=Boxed.new (w.alloc (.cells #[.slice none 0 0] 93)) 3 (.int .i64 0)
  simpa using this
 have hB0:Below w.heap.size w w0:=by subst hw0;exact(ZB).alloc (by simp) _
 subst hw0
 have HO0:=Hp hO0
 have HA0:=Hp hA0
 have HB0:=Hp hB0
 clear hO0 hA0 hB0 hz0
 go_enter Tryz.func138,Tryz.ntmps138
 go_wp2_with fail
 go_loopw [11] (fun i wr=>∃(j:Nat)(a:Int)(v:Value)(pre:List Run),j<=l.length/\i=.int .i64 j/\Boxed wr w.heap.size 93 v/\Boxed wr (w.heap.size+1) 3 (.int .i64 a)/\gQ wr (w.heap.size+2) v pre/\pre++dC a (l.drop j)=R/\0<=a/\a<=16/\Below w.heap.size w wr) (fun i _=>l.length -(intOf i).toNat)
 case atStart=>exact⟨0,0,_,[],by omega,rfl,HO0.out,HA0.out,gQ.nil _ _,HR.symm,by omega,by omega,HB0.out⟩
 case round=>
  obtain⟨j,a,v,pre,hj,rfl,hO,hA,hv,hE,ha0,ha1,hb⟩:=hrel
  have HE:=Hp hE
  have HB:=Hp hb
  have HO:=Hp hO
  have HA:=Hp hA
  have HV:=Hp hv
  have hpl:pre.length<=9:=by have h1:=HS.out;rw[<-hE,GZ8]at h1;omega
  have hA1:=hA.lt
  obtain⟨vA,vc,rfl⟩:=vL hv
  have HL:=Hp hv.lt
  clear hE hO hA hv
  by_cases hlt:j<l.length
  ·have hlt':(j:Int)<l.length:=by omega
   obtain⟨ad,rfl,hab,h0,h1,h2,h3,h4,h5,h6,h7⟩:=RS HP.row hb j hlt
   have hwz:=hb.size
   have e1:=Hp ((congrArg (pre++ ·) (LF hlt a).symm).trans HE.out)
   obtain⟨f1,f2,f3,f4,f5⟩:=HALL.out (l[j]'hlt) (GZ9 _)
   obtain⟨y,hy⟩:=Nm (l[j]'hlt)
   rw[<-hy]at f1 f2 f3 f4 f5 h0 h1 h2 h3 h4 h5 h6 h7 e1
   clear hy
   obtain⟨wx,hwx⟩:=Nm (wr.alloc (.cells #[.string y.m.name,.int .i64 y.m.major,.int .i64 y.m.minor,.string y.m.text,.slice y.m.eA y.m.ex.length y.m.eC,.slice y.m.iA y.m.im.length y.m.iC,.slice y.m.pA y.m.pa.length y.m.pC,.int .i64 y.first] 83))
   obtain⟨x0,x1,x2,x3,x4,x5,x6,x7,hzx,hbx⟩:=zH hwx
   have hwx':=hwx.symm
   have cG:=Hp (KQ w.heap.size a y.first _ pre wx (hwx▸HO.out.alloc _) (hwx▸HA.out.alloc _) (hwx▸HV.out.alloc _) (by omega) ha0 ha1 f2 f3)
   have cE:=Hp (fun W=>zR y W f1 f2 f3)
   have HAX:=Hp (show Boxed wx (w.heap.size+1) 3 (.int .i64 a) from hwx▸HA.out.alloc _)
   have HBX:=Hp (show Below w.heap.size w wx from hb.trans (hbx.mono hwz))
   obtain⟨N,hN⟩:=Nm (aR y)
   rw[<-hN]at f4 f5 cE e1
   clear hwx hbx hN f1 f2 f3
   go_wp2_with (first|(go_at_call 202;refine(cG.out).mono ?_;rintro e w2 ⟨⟨u,rfl⟩,v',hO2,hv2,hg2⟩;have hz2:=hg2.size;have hne:some wr.heap.size≠(Value.slice vA pre.length vc).ownBlock:=(fun h=>by have:=(HL.out wr.heap.size h.symm).2;omega);have hne2:some (w.heap.size+1)≠(Value.slice vA pre.length vc).ownBlock:=(fun h=>by have:=(HL.out (w.heap.size+1) h.symm).1;omega);have hA2:=Hp (hg2.box HAX.out (by omega) hne2);have k0:=(hg2.at_ wr.heap.size 0 (by omega) (by omega) hne).trans x0;have k1:=(hg2.at_ wr.heap.size 1 (by omega) (by omega) hne).trans x1;have k2:=(hg2.at_ wr.heap.size 2 (by omega) (by omega) hne).trans x2;have k3:=(hg2.at_ wr.heap.size 3 (by omega) (by omega) hne).trans x3;have k4:=(hg2.at_ wr.heap.size 4 (by omega) (by omega) hne).trans x4;have k5:=(hg2.at_ wr.heap.size 5 (by omega) (by omega) hne).trans x5;have k6:=(hg2.at_ wr.heap.size 6 (by omega) (by omega) hne).trans x6;have k7:=(hg2.at_ wr.heap.size 7 (by omega) (by omega) hne).trans x7;have HG2:=Hp hg2)|(go_at_call 91;refine(cE.out _).mono ?_;rintro e w3 ⟨rfl,hb3⟩;have hz3:=hb3.size;have hA3:=dX hA2.out hb3 hA2.lt;have p0:=hA3.cell;have p1:=hA3.frozen))
   go_roundw
   case rel=>
    refine⟨j+1,N,v',pre++Rb a y.first,by omega,by go_num,(dX hO2 hb3 hO2.lt).kept (grownBy_setCell' _ _ _) (by simp),hA3.set _,ownsRow_setCell_below (PV hv2 hb3 (GZ3 _)) (by simp) _,by rw[List.append_assoc];exact e1.out,f4,f5,?_⟩
    exact((HBX.trans (HG2.below (GZ3 _) (by omega) (fun g hg=>by have:=(HL.out g hg).1;omega))).trans (hb3.mono (by omega))).setCell (by simp) _
   case measure=>(simp[intOf];try omega)
  ·have e1:=Hp ((congrArg (pre++ ·) (MR hlt a).symm).trans HE.out)
   have cG:=Hp (KQ w.heap.size a 16 _ pre wr HO.out HA.out HV.out (by omega) ha0 ha1 (by omega) (by omega))
   have HLL:=Hp (fun g hg=>(HL.out g hg).1)
   go_wp2_with (first|(go_at_call 202;refine(cG.out).mono ?_;rintro e w2 ⟨⟨u,rfl⟩,v',hO2,hv2,hg2⟩;have hz2:=hg2.size;have o0:=hO2.cell;have HB2:=Hp (HB.trans (hg2.below (GZ3 _) (by omega) (fun g hg=>by have:=HLL.out g hg;omega)));rw[show pre++Rb a 16=R from e1.out]at hv2;obtain⟨A',c',rfl,hrow⟩:=gQ.row hv2;have HROW:=Hp hrow))
   go_ret
   exact⟨⟨_,_,rfl,HROW.out⟩,HB2.out⟩
end
section
open Go.RowKit
theorem JN {w w':World}{A:Option Addr}{l:List Run}(h:Row Run.cells 2 w A l)(hb:Below w.heap.size w w')(i:Nat)(hi:i<l.length):
  ∃ad,A=some ad/\ad.block<w.heap.size/\w'.cell? (ad.add (i*2))=some (iv l[i].first)/\w'.cell? ⟨(ad.add (i*2)).block,(ad.add (i*2)).off+1,none⟩=some (iv l[i].many):=by
 obtain⟨ad,rfl,hab,hc⟩:=Row.at_ (enc:=Run.cells) (k:=2) (fun _=>rfl) h i hi
 have e0:=hc 0 _ rfl
 rw[add_zero_]at e0
 have hk:∀j u,0<j->(Run.cells l[i])[j]? =some u->w'.cell? ⟨(ad.add (i*2)).block,(ad.add (i*2)).off+j,none⟩=some u:=fun j u hj hu=>by
  rw[<-add_pos_ _ _ hj]
  exact(hb.cell (by rw[aA,aA];exact hab)).trans (hc j u hu)
 exact⟨ad,rfl,hab,(hb.cell (by rw[aA];exact hab)).trans e0,hk 1 _ (by omega) rfl⟩
theorem Ae (A:Option Addr)(c:Nat)(l:List Run)(g:Nat)(lb:Array Value)(q:Run->Bool)(w:World)(eg:∀args w,(callFunc g args).run Tryz.prog w=.ok (.enter g args) w)(h:Row Run.cells 2 w A l)(hl:l.length<=big)
  (hq:∀x∈l,∀W,Below w.heap.size w W->Calls Tryz.prog g (#[x.v]++lb) W fun e w'=>e=.returned (.bool (q x))/\Below W.heap.size W w'):
  Calls Tryz.prog 238 #[.slice A l.length c,.func (.func g) #[] lb] w fun e w'=>e=.returned (.int .i64 (idxOf q l))/\Below w.heap.size w w':=by
 unfold big at hl
 have HP:=Hp h
 have HQ:=Hp hq
 clear h hq
 go_enter Tryz.func238,Tryz.ntmps238
 go_wp2_with fail
 go_loopw [8] (fun i wr=>∃j:Nat,j<=l.length/\i=.int .i64 j/\(∀k(hk:k<l.length),k<j->q l[k]=false)/\Below w.heap.size w wr) (fun i _=>l.length -(intOf i).toNat)
 case atStart=>exact⟨0,by omega,rfl,by omega,GZ4 _ _⟩
 case round=>
  obtain⟨j,hj,rfl,hN,hb⟩:=hrel
  have HN:=Hp hN
  have HB:=Hp hb
  clear hN
  by_cases hlt:j<l.length
  ·have hlt':(j:Int)<l.length:=by omega
   obtain⟨ad,rfl,hab,h0,h1⟩:=JN HP.out hb j hlt
   have hwz:=hb.size
   have c2:=Hp (show Calls Tryz.prog g (#[(l[j]'hlt).v]++lb) wr fun e w'=>e=.returned (.bool (q (l[j]'hlt)))/\Below wr.heap.size wr w' from HQ.out (l[j]'hlt) (GZ9 _) wr HB.out)
   obtain⟨bq,hbq⟩:=Nm (q (l[j]'hlt))
   rw[<-hbq]at c2
   have HBQ:=Hp hbq
   clear hbq hb
   cases bq
   ·go_wp2_with (go_at_fn g;refine(c2.out).mono ?_;rintro e w3 ⟨rfl,hb3⟩)
    go_roundw
    case rel=>exact⟨j+1,by omega,by go_num,fun k hk hkj=>by rcases Nat.lt_succ_iff_lt_or_eq.1 hkj with h|rfl;exact HN.out k hk h;exact HBQ.symm,HB.trans (hb3.mono (by omega))⟩
    case measure=>(simp[intOf];try omega)
   ·have e1:=Hp (fJ hlt HN.out HBQ.symm)
    go_wp2_with (go_at_fn g;refine(c2.out).mono ?_;rintro e w3 ⟨rfl,hb3⟩)
    go_ret
    exact⟨aC e1.symm,HB.trans (hb3.mono (by omega))⟩
  ·have e1:=Hp (gT (q:=q) (l:=l) (fun k hk=>HN.out k hk (by omega)))
   go_wp2_with fail
   go_ret
   exact⟨aC e1.symm,HB.out⟩
def GI (many:Int)(r:Run):Bool:=decide (many<=r.many)
theorem Na (r:Run)(many:Int)(b:Nat)(w:World)(hc:w.cell? ⟨b,0,none⟩=some (.int .i64 many))(hb:b<w.heap.size):
  Calls Tryz.prog 239 #[r.v,.pointer (some ⟨b,0,none⟩)] w fun e w'=>e=.returned (.bool (GI many r))/\Below w.heap.size w w':=by
 have hne:b≠w.heap.size:=by omega
 have e:decide (many<=r.many)=GI many r:=rfl
 go_enter Tryz.func239,Tryz.ntmps239
 go_wp2_with fail
 go_ret
 exact⟨aV (by first|exact e|rfl),ZB⟩
theorem MF (many:Int)(l:List Run):(idxOf (GI many) l= -1/\fM many l= -1)\/∃j,∃h:j<l.length,idxOf (GI many) l=j/\fM many l=l[j].first:=by
 rcases gW (GI many) l with⟨e1,e2⟩|⟨j,hj,e1,e2⟩
 ·exact .inl ⟨e1,by unfold fM;rw[show(fun r:Run=>decide (many<=r.many))=GI many from rfl,e2]⟩
 ·exact .inr ⟨j,hj,e1,by unfold fM;rw[show(fun r:Run=>decide (many<=r.many))=GI many from rfl,e2]⟩
theorem PU (A:Option Addr)(c:Nat)(l:List Plc)(many:Int)(w:World)(h:aU w A l)(hr:RY l=0):
  Calls Tryz.prog 190 #[.slice A l.length c,.int .i64 many] w fun e w'=>e=.returned (.int .i64 (fM many (RI l)))/\Below w.heap.size w w':=by
 obtain⟨w0,hw0⟩:=Nm (w.alloc (.cells #[.int .i64 many] 3))
 have hx0:Boxed w0 w.heap.size 3 (.int .i64 many):=hw0▸Boxed.new _ _ _
 have hz0:w0.heap.size=w.heap.size+1:=by subst hw0;simp
 have hb0:Below w.heap.size w w0:=by subst hw0;exact ZB
 have hw0':=hw0.symm
 have HX:=Hp hx0
 have HB:=Hp hb0
 have HS:=Hp (show(RI l).length<=9 by have:=iY l 0;have:=(cZ hr).1;unfold RI;omega)
 have c1:=Hp (Hm A c l w0 (h.below hb0) hr)
 have h0:=Hp (MF many (RI l))
 obtain⟨R,hR⟩:=Nm (RI l)
 rw[<-hR]at c1 h0 HS ⊢
 have c2:=Hp (fun A' c' W(hb:Below w0.heap.size w0 W)(hrow:xD W A' R)=>Ae A' c' R 239 #[.pointer (some ⟨w.heap.size,0,none⟩)] (GI many) W (enters_of Tryz.func239 (by kernel_rfl) rfl) hrow (by have:=HS.out;unfold big;omega)
  (fun x _ W' hb'=>Na x many w.heap.size W' (dX (dX HX.out hb (by omega)) hb' (by have:=hb.size;omega)).cell (by have:=hb.size;have:=hb'.size;omega)))
 clear hw0 hx0 hb0 h hr hR
 rcases h0.out with⟨e1,e2⟩|⟨j,hj,e1,e2⟩
 ·rw[e1]at c2
  rw[e2]
  clear e1 e2 h0
  go_enter Tryz.func190,Tryz.ntmps190
  go_wp2_with (first|(go_at_call 138;refine(c1.out).mono ?_;rintro e w2 ⟨⟨A',c',rfl,hrow⟩,hb2⟩;have HR:=Hp hrow;clear hrow)|(go_at_call 238;refine(c2.out _ _ _ hb2 HR.out).mono ?_;rintro e w3 ⟨rfl,hb3⟩))
  go_ret
  exact⟨rfl,HB.trans ((hb2.mono (by omega)).trans (hb3.mono (by have:=hb2.size;omega)))⟩
 ·rw[e1]at c2
  rw[e2]
  have hj':(j:Int)<R.length:=by omega
  have hj0:(0:Int)<=j:=by omega
  clear e1 e2 h0
  go_enter Tryz.func190,Tryz.ntmps190
  go_wp2_with (first|(go_at_call 138;refine(c1.out).mono ?_;rintro e w2 ⟨⟨A',c',rfl,hrow⟩,hb2⟩;have HR:=Hp hrow;clear hrow)|(go_at_call 238;refine(c2.out _ _ _ hb2 HR.out).mono ?_;rintro e w3 ⟨rfl,hb3⟩;obtain⟨ad,rfl,hab,k0,k1⟩:=JN HR.out hb3 j hj))
  go_ret
  exact⟨rfl,HB.trans ((hb2.mono (by omega)).trans (hb3.mono (by have:=hb2.size;omega)))⟩
end
section
open Go.RowKit
def Bits (w:World)(b:Nat)(u:Nat->Bool):Prop:=∀k,k<16->w.cell? ⟨b,k,none⟩=some (.bool (u k))/\w.frozen? ⟨b,k,none⟩=false
theorem Bits.below {w w':World}{b B:Nat}{u:Nat->Bool}(h:Bits w b u)(hb:Below B w w')(hB:b<B):Bits w' b u:=fun k hk=>⟨(hb.cell (p:=⟨b,k,none⟩) hB).trans (h k hk).1,(hb.frozen (p:=⟨b,k,none⟩) hB).trans (h k hk).2⟩
theorem Bits.set {w:World}{b:Nat}{u:Nat->Bool}(h:Bits w b u)(i:Nat)(hi:i<16)(v:Bool):Bits (w.setCell ⟨b,i,none⟩ (.bool v)) b (fun k=>if k=i then v else u k):=fun k hk=>by
 refine⟨?_,by rw[World.frozen?_setCell];exact(h k hk).2⟩
 by_cases e:k=i
 ·subst e
  simp only[if_pos]
  exact World.cell?_setCell_same' _ _ _ (by rw[(h k hk).1];rfl)
 ·simp only[if_neg e]
  rw[World.cell?_setCell_other _ _ _ _ (by intro h2;injection h2 with _ h3 _;exact e h3.symm)]
  exact(h k hk).1
end
end Go.Proofs.YtjiedaialianmaaGreat
