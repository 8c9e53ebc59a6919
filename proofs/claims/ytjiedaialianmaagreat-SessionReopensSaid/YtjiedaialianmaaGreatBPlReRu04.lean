import Derived.Test.YtjiedaialianmaaGreatA17
import Derived.Test.YtjiedaialianmaaGreatBPlReRu02
import Derived.Test.YtjiedaialianmaaGreatBPlReRu03
set_option maxRecDepth 100000
set_option maxHeartbeats 8000000
namespace Go.Proofs.YtjiedaialianmaaGreat
section
open Go.RowKit
open Gs (Tx)
open Gr (Tab)
theorem Tryz.Nf :(Tryz.prog.info? 4).map (fun i=>(i.zero,i.size,i.bytes))=some (some (.bool false),1,1):=by kernel_rfl
theorem Tryz.Kl :(Tryz.prog.info? 221).map (fun i=>(i.zero,i.size,i.bytes))=some (some (.slice none 0 0),1,24):=by kernel_rfl
section
variable {w w':World} {B0 n O:Nat} {R C:Nat->Nat} {t:Tab}
theorem Mat.store {i k:Nat}(h:Mat w B0 n O R C t)(hi:i<n)(hk:k<n){v:Bool}{t':Tab}(hs:t'.sq n)(ht:∀a b,t'.at a b=if a=i/\b=k then v else t.at a b):Mat (w.setCell ⟨R i,k,none⟩ (.bool v)) B0 n O R C t' where
 row:=fun a ha=>by
  rw[World.cell?_setCell_far _ _ _ _ (show R i≠O from(h.off i hi).1)]
  exact h.row a ha
 cell:=fun a b ha hb=>by
  rw[ht]
  by_cases e:a=i/\b=k
  ·obtain⟨rfl,rfl⟩:=e
   rw[if_pos ⟨rfl,rfl⟩]
   exact World.cell?_setCell_same _ _ _ (h.cell a b ha hb)
  ·rw[if_neg e,World.cell?_setCell_other _ _ _ _ (fun q=>by
    injection q with q1 q2 _
    exact e ⟨(h.one i a hi ha q1).symm,q2.symm⟩)]
   exact h.cell a b ha hb
 free:=fun a b ha hb=>by rw[World.frozen?_setCell];exact h.free a b ha hb
 one:=h.one
 off:=h.off
 low:=h.low
 sq:=hs
theorem Mat.fill {m i k:Nat}(h:Mat w B0 n O R C t)(hi:i<n)(hk:k<n){v:Bool}(hv:v=(t.at i k || t.at i m&&t.at m k)):Mat (w.setCell ⟨R i,k,none⟩ (.bool v)) B0 n O R C (Tab.fill m i k t):=
 h.store hi hk (Tab.Jt h.sq hi) (fun a b=>by rw[Tab.zJ h.sq hi hk,hv])
end
def Qu (w:World)(B0:Nat)(v:Value)(n:Nat)(t:Tab):Prop:=∃(A:Option Addr)(c:Nat),v=.slice A n c/\(0<n->∃O R C,A=some ⟨O,0,none⟩/\Mat w B0 n O R C t)
def tK (m i:Nat)(t:Tab)(k:Nat):Tab:=(List.range k).foldl (fun t k=>Tab.fill m i k t) t
def tI (n m:Nat)(t:Tab)(i:Nat):Tab:=(List.range i).foldl (fun t i=>Tab.row n m i t) t
def tM (n:Nat)(t:Tab)(m:Nat):Tab:=(List.range m).foldl (fun t m=>Tab.phase n m t) t
theorem Pv (m i:Nat)(t:Tab)(k:Nat):tK m i t (k+1)=Tab.fill m i k (tK m i t k):=by unfold tK;rw[List.range_succ,List.foldl_append];rfl
theorem PS (n m:Nat)(t:Tab)(i:Nat):tI n m t (i+1)=tK m i (tI n m t i) n:=by unfold tI;rw[List.range_succ,List.foldl_append];rfl
theorem PK (n:Nat)(t:Tab)(m:Nat):tM n t (m+1)=tI n m (tM n t m) n:=by unfold tM;rw[List.range_succ,List.foldl_append];rfl
theorem GM {w:World}{base g n c:Nat}{e:TypeId}{xs:List Value}(h:w.ownsRow base e 1 (.slice (some ⟨g,0,none⟩) n c) n xs):
  (∀k u,xs[k]? =some u->w.cell? ⟨g,k,none⟩=some u)/\(∀k,w.frozen? ⟨g,k,none⟩=false)/\base<=g/\g<w.heap.size:=by
 have hl:=World.ownsRow.lt h g rfl
 have hc:=h.cells (g:=g) rfl
 refine⟨fun k u hu=>?_,fun k=>?_,hl.1,hl.2⟩
 ·have:=hc k u hu
  have e:(⟨g,0,none⟩:Addr).add k=⟨g,k,none⟩:=by unfold Addr.add;split<;>simp_all
  rwa [e]at this
 ·rcases h.2 with⟨h0,_⟩|⟨g',cap,cur,hv,_,hb,_⟩
  ·cases h0
  ·injection hv with ha _ _
   injection ha with ha
   injection ha with ha _ _
   subst ha
   exact frozen_of_row _ _ _ _ _ hb
theorem Mx {w:World}{base base' size n:Nat}{e:TypeId}{v:Value}{xs:List Value}(h:w.ownsRow base e size v n xs)(hB:base'<=base):w.ownsRow base' e size v n xs:=by
 refine⟨h.1,?_⟩
 rcases h.2 with h0|⟨g,cap,cur,e1,e2,e3⟩
 ·exact .inl h0
 ·exact .inr ⟨g,cap,cur,e1,by omega,e3⟩
theorem Gd (W:World){ops:Array Oper}{rest:List Oper}{o:Oper}{a:Act}{Q:Exit->Act->World->Prop}(hgd:o.guard=none)(s x:Operand)
  (ho:o.op=.call {callee:=.builtin .append,args:=#[s,x],argTypes:=#[221,221]}) (base:Nat) (v:Value) (ns:List Bool) (n:Bool) (hs:a.eval s=v)
  (hx:a.eval x=.slice (some ⟨W.heap.size,0,none⟩) 1 1) (hown:BR W base v ns) (hl:ns.length<=1000000) (hbase:base<=W.heap.size)
  (h:∀v' w',BR w' base v' (ns++[n])->Below base W w'->wpList Tryz.prog ops Q rest (a.put o.dst v') w'):wpList Tryz.prog ops Q (o::rest) a (W.alloc (.cells #[.bool n] 4)):=by
 obtain⟨i0,hi,hz0,hz1,hz2⟩:=info_parts Tryz.Nf
 refine wpList_append_own_at (W.alloc (.cells #[.bool n] 4)) hgd s x 221 ho base 4 i0 (.bool false) 1 1 Tryz.underlying221 hi hz0 hz1 hz2 rfl (by decide) v ns.length (ns.map Value.bool) hs (hown.alloc _) ⟨W.heap.size,0,none⟩ 1 1 [.bool n] hx rfl
  (cell_one_new _ _ _) (by simp[Value.oneCell']) (by simp only[maxLen];omega) (by omega) (by simp;omega) ?_
 intro v' w1 hown' hgrow _ _
 refine h v' w1 ?_ (((GZ4 base W).alloc hbase _).grown hgrow (by simp;omega) (iW hown))
 unfold BR
 simpa using hown'
theorem Gf (W:World){ops:Array Oper}{rest:List Oper}{o:Oper}{a:Act}{Q:Exit->Act->World->Prop}(hgd:o.guard=none)(s x:Operand)
  (ho:o.op=.call {callee:=.builtin .append,args:=#[s,x],argTypes:=#[219,219]}) (base:Nat) (v:Value) (n i:Nat) (R C:Nat->Nat) (u:Value) (hu:u.oneCell'=true) (hs:a.eval s=v)
  (hx:a.eval x=.slice (some ⟨W.heap.size,0,none⟩) 1 1) (hown:W.ownsRow base 221 1 v i (heads n R C i)) (hl:i<=1000000) (hbase:base<=W.heap.size)
  (h:∀v' w',w'.ownsRow base 221 1 v' (i+1) (heads n R C i++[u])->W.grownBy w' v.ownBlock->(v'.ownBlock=v.ownBlock\/∃g,v'.ownBlock=some g/\W.heap.size<=g)->wpList Tryz.prog ops Q rest (a.put o.dst v') w'):wpList Tryz.prog ops Q (o::rest) a (W.alloc (.cells #[u] 221)):=by
 obtain⟨i0,hi,hz0,hz1,hz2⟩:=info_parts Tryz.Kl
 refine wpList_append_own_at (W.alloc (.cells #[u] 221)) hgd s x 219 ho base 221 i0 (.slice none 0 0) 1 24 Tryz.underlying219 hi hz0 hz1 hz2 rfl (by decide) v i (heads n R C i) hs (hown.alloc _) ⟨W.heap.size,0,none⟩ 1 1 [u] hx rfl
  (cell_one_new _ _ _) (by simp[hu]) (by simp only[maxLen];omega) (by omega) (by simp;omega) ?_
 intro v' w1 hown' hgrow _ hnew
 refine h v' w1 hown' ((World.grownBy_alloc W _ _).trans hgrow) ?_
 rcases hnew with e|e
 ·exact .inl e
 ·exact .inr ⟨_,e,by simp⟩
theorem Oc {l:List Plc}{i k:Nat}(hi:i<l.length)(hk:k<l.length):kV l i k=asks l[i].m (tx l[k].m.name):=by
 unfold kV
 rw[GY5 hi]
 show asks l[i].m (nmN l k)=_
 rw[Sq hk]
theorem Tv (l:List Plc)(i k:Nat):(vU l i k).length=k:=by simp[vU]
theorem L8 (l:List Plc)(i k:Nat):vU l i (k+1)=vU l i k++[kV l i k]:=by unfold vU;rw[List.range_succ,List.map_append];rfl
theorem vF.mat {l:List Plc}{w wr:World}{v:Value}(h:vF l w v l.length wr):Qu wr w.heap.size v l.length (Tab.mk (kV l) l.length):=by
 obtain⟨R,C,ho,hr,h1,h2⟩:=h.rows
 obtain⟨A,c,rfl⟩:=bG ho
 refine⟨A,c,rfl,fun hn=>?_⟩
 obtain⟨g,cap,hv,_⟩:=ho.form hn
 injection hv with hA _ hc
 subst hA hc
 obtain⟨q1,q2,q3,q4⟩:=GM ho
 have hB:∀a,a<l.length->_:=fun a ha=>GM (show wr.ownsRow w.heap.size 4 1 (.slice (some ⟨R a,0,none⟩) l.length (C a)) l.length ((vU l a l.length).map Value.bool) from by
  have:=hr a ha;unfold BR at this;rwa [Tv]at this)
 refine⟨g,R,C,rfl,fun i hi=>q1 i _ (by simp[heads,hi]),fun i k hi hk=>(hB i hi).1 k _ (by simp[vU,Tab.O8 _ hi hk,hk]),fun i k hi hk=>(hB i hi).2.1 k,h1,
  fun i hi=>⟨fun e=>h2 i hi (by simp[Value.ownBlock,e]),(hB i hi).2.2.1⟩,q3,Tab.QD _ _⟩
theorem vF.step {l:List Plc}{w wr w2 w3:World}{v v':Value}{i g c:Nat}{R C:Nat->Nat}(hbel:Below w.heap.size w wr)(ho:wr.ownsRow w.heap.size 221 1 v i (heads l.length R C i))(hr:∀a,a<i->BR wr w.heap.size (.slice (some ⟨R a,0,none⟩) l.length (C a)) (vU l a l.length))
  (h1:∀a b,a<i->b<i->R a=R b->a=b) (h2:∀a,a<i->v.ownBlock≠some (R a)) (hb:Below wr.heap.size wr w2) (hg:BR w2 wr.heap.size (.slice (some ⟨g,0,none⟩) l.length c) (vU l i l.length))
  (hown:w3.ownsRow w.heap.size 221 1 v' (i+1) (heads l.length R C i++[.slice (some ⟨g,0,none⟩) l.length c])) (hgr:w2.grownBy w3 v.ownBlock) (hnew:v'.ownBlock=v.ownBlock\/∃q,v'.ownBlock=some q/\w2.heap.size<=q):vF l w v' (i+1) w3:=by
 have hz:=hbel.size
 have hgl:=World.ownsRow.lt hg g rfl
 have hgr':∀q,v.ownBlock=some q->w.heap.size<=q/\q<wr.heap.size:=fun q hq=>World.ownsRow.lt ho q hq
 have hvg:v.ownBlock≠some g:=fun e=>by have:=(hgr' g e).2;omega
 refine⟨⟨fun a=>if a=i then g else R a,fun a=>if a=i then c else C a,?_,fun a ha=>?_,fun a b ha hb' e=>?_,fun a ha=>?_⟩,?_⟩
 ·have e:heads l.length (fun a=>if a=i then g else R a) (fun a=>if a=i then c else C a) (i+1)=heads l.length R C i++[.slice (some ⟨g,0,none⟩) l.length c]:=by
   unfold heads
   rw[List.range_succ,List.map_append]
   congr 1
   ·refine List.map_congr_left (fun a ha=>?_)
    have:=List.mem_range.1 ha
    simp[show a≠i by omega]
   ·simp
  rw[e];exact hown
 ·by_cases e:a=i
  ·subst e
   simp only[if_true]
   exact(Mx hg hz).kept hgr (.inr (fun q=>hvg q.symm))
  ·simp only[if_neg e]
   have h3:=own_below (hr a (by omega)) hb (GZ3 _)
   exact h3.kept hgr (.inr (fun q=>h2 a (by omega) q.symm))
 ·have hlt:∀a,a<i->R a<wr.heap.size:=fun a ha=>(World.ownsRow.lt (hr a ha) (R a) rfl).2
  dsimp only at e
  by_cases ea:a=i<;>by_cases eb:b=i
  ·omega
  ·rw[if_pos ea,if_neg eb]at e;have:=hlt b (by omega);omega
  ·rw[if_neg ea,if_pos eb]at e;have:=hlt a (by omega);omega
  ·rw[if_neg ea,if_neg eb]at e;exact h1 a b (by omega) (by omega) e
 ·have hlt:∀a,a<i->R a<wr.heap.size:=fun a ha=>(World.ownsRow.lt (hr a ha) (R a) rfl).2
  have hs:=hb.size
  rcases hnew with en|⟨q,en,hq⟩
  ·rw[en]
   by_cases ea:a=i
   ·simp only[if_pos ea];exact hvg
   ·simp only[if_neg ea];exact h2 a (by omega)
  ·rw[en]
   by_cases ea:a=i
   ·simp only[if_pos ea];intro e;injection e with e;omega
   ·simp only[if_neg ea];intro e;injection e with e;have:=hlt a (by omega);omega
 ·exact(hbel.trans (hb.mono hz)).grown hgr (by have:=hb.size;omega) (fun q hq=>(hgr' q hq).1)
end
section
open Go.RowKit
open Gs (Tx)
open Gr (Tab)
theorem OE (l:List Plc):tM l.length (Tab.mk (kV l) l.length) l.length=yP l:=rfl
theorem Le (A:Option Addr)(c:Nat)(l:List Plc)(w:World)(h:aU w A l)(h8:l.length<=8):
  Calls Tryz.prog 176 #[.slice A l.length c] w fun e w'=>(∃v,e=.returned v/\Qu w' w.heap.size v l.length (yP l))/\Below w.heap.size w w':=by
 have HP:=Hp h
 clear h
 go_enter Tryz.func176,Tryz.ntmps176
 go_wp2_with fail
 go_loopw [3,4] (fun v i wr=>∃j:Nat,j<=l.length/\i=.int .i64 j/\vF l w v j wr) (fun _ i _=>l.length -(intOf i).toNat)
 case atStart=>exact⟨0,by omega,rfl,vF.start l w⟩
 case round=>
  obtain⟨j,hj,rfl,hO⟩:=hrel
  have HO:=Hp hO
  obtain⟨wo,hwo⟩:=Nm wr
  subst hwo
  clear hO
  by_cases hlt:j<l.length
  ·have hlt':(j:Int)<l.length:=by omega
   go_wp2_with fail
   go_loopw [5,6] (fun v5 i wr=>∃k:Nat,k<=l.length/\i=.int .i64 k/\BR wr wo.heap.size v5 (vU l j k)/\Below wo.heap.size wo wr) (fun _ i _=>l.length -(intOf i).toNat)
   case atStart=>exact⟨0,by omega,rfl,World.ownsRow_nil _ _ _ _,GZ4 _ _⟩
   case round=>
    obtain⟨k,hk,rfl,hB,hb⟩:=hrel
    have HB:=Hp hB
    have HW:=Hp hb
    have hwz:=hb.size
    by_cases hkl:k<l.length
    ·have hkl':(k:Int)<l.length:=by omega
     have hD:=CE A c l j k wr (HP.below (HO.bel.trans (hb.mono HO.bel.size))) hlt hkl
     rw[<-Oc hlt hkl]at hD
     have e1:=Hp (L8 l j k)
     have HL:=Hp (show(vU l j k).length<=1000000 by rw[Tv];omega)
     generalize kV l j k=d at*
     have c1:=Hp hD
     clear hD hB hb
     go_wp2_with (first
      |(go_at_call 109;refine(c1.out).mono ?_;rintro e w3 ⟨rfl,hb3⟩
        have HB3:=Hp (own_below HB hb3 (GZ3 _))
        have HW3:=Hp (HW.trans (hb3.mono hwz))
        have HZ3:=Hp (GY1 hwz hb3.size)
        clear hb3)
      |(at_builtin;refine Gd w3 rfl _ _ rfl wo.heap.size _ (vU l j k) d rfl rfl (by exact HB3.out) HL.out HZ3.out ?_;intro v' w4 ht4 hb4
        have HB4:=Hp ht4
        have HW4:=Hp (HW3.trans hb4)
        clear ht4 hb4))
     go_roundw
     case rel=>exact⟨k+1,by omega,by go_num,by rw[e1.out];exact HB4.out,HW4.out⟩
     case measure=>(simp[intOf];try omega)
    ·obtain rfl:k=l.length:=by omega
     obtain⟨g,cap,hv,_⟩:=(show wr.ownsRow wo.heap.size 4 1 _ l.length ((vU l j l.length).map Value.bool) from by have:=hB;unfold BR at this;rwa [Tv]at this).form (by omega)
     subst hv
     obtain⟨R,C,ho,hr,hi1,hi2⟩:=HO.rows
     have HO1:=Hp ho
     have HR1:=Hp hr
     have HI1:=Hp hi1
     have HI2:=Hp hi2
     have HO2:=Hp (own_below ho hb (GZ3 _))
     have HZ:=Hp (GY1 HO.bel.size hwz)
     have HJ:=Hp (show j<=1000000 by omega)
     clear hB hb ho hr hi1 hi2
     go_wp2_with (at_builtin;refine Gf wr rfl _ _ rfl w.heap.size _ l.length j R C _ rfl rfl rfl (by exact HO2.out) HJ.out HZ.out ?_;intro v' w4 ho4 hg4 hn4;have HO4:=Hp ho4;have HG4:=Hp hg4;have HN4:=Hp hn4;clear ho4 hg4 hn4)
     go_roundw
     case rel=>exact⟨j+1,by omega,by go_num,vF.step HO.bel HO1.out HR1.out HI1.out HI2.out HW.out HB.out HO4.out HG4.out HN4.out⟩
     case measure=>(simp[intOf];try omega)
  ·obtain rfl:j=l.length:=by omega
   obtain⟨A',c',rfl,hM⟩:=HO.mat
   have HBL:=Hp HO.bel
   by_cases hn:l.length=0
   ·have HN:=Hp hn
    clear hM hlt hn
    go_wp2_with fail
    go_loopw [7] (fun i wr=>∃m:Nat,m<=l.length/\i=.int .i64 m/\Below w.heap.size w wr) (fun i _=>l.length -(intOf i).toNat)
    case atStart=>exact⟨0,by omega,rfl,HBL.out⟩
    case round=>
     obtain⟨m,hm,rfl,hb⟩:=hrel
     obtain rfl:m=l.length:=by have:=HN.out;omega
     have HB:=Hp hb
     clear hb
     go_wp2_with fail
     go_ret
     exact⟨⟨_,rfl,A',c',rfl,fun h=>absurd HN.out (by omega)⟩,HB.out⟩
   ·obtain⟨O,R,C,rfl,hm0⟩:=hM (by omega)
    have HM0:=Hp hm0
    have HE:=Hp (OE l)
    clear hM hm0 hlt
    obtain⟨t0,ht0⟩:=Nm (Tab.mk (kV l) l.length)
    rw[<-ht0]at HM0 HE
    obtain⟨n,hnl⟩:=Nm l.length
    clear ht0
    go_wp2_with fail
    go_loopw [7] (fun i wr=>∃m:Nat,m<=l.length/\i=.int .i64 m/\Mat wr w.heap.size l.length O R C (tM l.length t0 m)/\Below w.heap.size w wr) (fun i _=>l.length -(intOf i).toNat)
    case atStart=>exact⟨0,by omega,rfl,HM0.out,HBL.out⟩
    case round=>
     obtain⟨m,hm,rfl,hM1,hb1⟩:=hrel
     have HM1:=Hp hM1
     have HB1:=Hp hb1
     have TM:=Hp (PK l.length t0 m)
     obtain⟨w1,hw1⟩:=Nm wr
     subst hw1
     clear hM1 hb1
     by_cases hml:m<l.length
     ·have hml':(m:Int)<l.length:=by omega
      generalize tM l.length t0 m=t1 at*
      go_wp2_with fail
      go_loopw [8] (fun i wr=>∃q:Nat,q<=l.length/\i=.int .i64 q/\Mat wr w.heap.size l.length O R C (tI l.length m t1 q)/\Below w.heap.size w wr) (fun i _=>l.length -(intOf i).toNat)
      case atStart=>exact⟨0,by omega,rfl,HM1.out,HB1.out⟩
      case round=>
       obtain⟨q,hq,rfl,hM2,hb2⟩:=hrel
       have HM2:=Hp hM2
       have HB2:=Hp hb2
       have TI:=Hp (PS l.length m t1 q)
       obtain⟨w2,hw2⟩:=Nm wr
       subst hw2
       clear hM2 hb2
       by_cases hql:q<l.length
       ·have hql':(q:Int)<l.length:=by omega
        generalize tI l.length m t1 q=t2 at*
        go_wp2_with fail
        go_loopw [9] (fun i wr=>∃k:Nat,k<=l.length/\i=.int .i64 k/\Mat wr w.heap.size l.length O R C (tK m q t2 k)/\Below w.heap.size w wr) (fun i _=>l.length -(intOf i).toNat)
        case atStart=>exact⟨0,by omega,rfl,HM2.out,HB2.out⟩
        case round=>
         obtain⟨k,hk,rfl,hM3,hb3⟩:=hrel
         have HM3:=Hp hM3
         have HB3:=Hp hb3
         have TK:=Hp (Pv m q t2 k)
         clear hM3 hb3
         by_cases hkl:k<l.length
         ·have hkl':(k:Int)<l.length:=by omega
          generalize tK m q t2 k=t3 at*
          have a1:=HM3.row q hql
          have a2:=HM3.cell q k hql hkl
          have a3:=HM3.cell q m hql hml
          have a4:=HM3.row m hml
          have a5:=HM3.cell m k hml hkl
          have a6:=HM3.free q k hql hkl
          have HO3:=Hp (HM3.off q hql)
          have HF:=Hp (fun v hv=>HM3.fill (m:=m) hql hkl (v:=v) hv)
          obtain⟨Rq,hRq⟩:=Nm (R q)
          obtain⟨Rm,hRm⟩:=Nm (R m)
          rw[<-hRq]at a1 a2 a3 a6 HO3 HF
          rw[<-hRm]at a4 a5
          obtain⟨b1,hb1⟩:=Nm (t3.at q k)
          obtain⟨b2,hb2⟩:=Nm (t3.at q m)
          obtain⟨b3,hb3⟩:=Nm (t3.at m k)
          rw[<-hb1]at a2 HF
          rw[<-hb2]at a3 HF
          rw[<-hb3]at a5 HF
          clear hb1 hb2 hb3 hRq hRm
          go_wp2_with fail
          cases b1
          ·cases b2
           ·go_big_region
            go_wp2_with fail
            go_roundw
            case rel=>exact⟨k+1,by omega,by go_num,by rw[TK.out];exact(HF.out false (by simp)).drew,(HB3.setCell (p:=⟨Rq,k,none⟩) HO3.out.2 _).drew⟩
            case measure=>(simp[intOf];try omega)
           ·cases b3
            ·go_big_region
             go_wp2_with fail
             go_roundw
             case rel=>exact⟨k+1,by omega,by go_num,by rw[TK.out];exact(HF.out false (by simp)).drew,(HB3.setCell (p:=⟨Rq,k,none⟩) HO3.out.2 _).drew⟩
             case measure=>(simp[intOf];try omega)
            ·go_big_region
             go_wp2_with fail
             go_roundw
             case rel=>exact⟨k+1,by omega,by go_num,by rw[TK.out];exact(HF.out true (by simp)).drew,(HB3.setCell (p:=⟨Rq,k,none⟩) HO3.out.2 _).drew⟩
             case measure=>(simp[intOf];try omega)
          ·go_big_region
           go_wp2_with fail
           go_roundw
           case rel=>exact⟨k+1,by omega,by go_num,by rw[TK.out];exact(HF.out true (by simp)).drew,(HB3.setCell (p:=⟨Rq,k,none⟩) HO3.out.2 _).drew⟩
           case measure=>(simp[intOf];try omega)
         ·obtain rfl:k=l.length:=by omega
          go_wp2_with fail
          go_roundw
          case rel=>exact⟨q+1,by omega,by go_num,by rw[TI.out];exact HM3.out,HB3.out⟩
          case measure=>(simp[intOf];try omega)
       ·obtain rfl:q=l.length:=by omega
        go_wp2_with fail
        go_roundw
        case rel=>exact⟨m+1,by omega,by go_num,by rw[TM.out];exact HM2.out,HB2.out⟩
        case measure=>(simp[intOf];try omega)
     ·obtain rfl:m=l.length:=by omega
      go_wp2_with fail
      go_ret
      exact⟨⟨_,rfl,_,_,rfl,fun _=>⟨O,R,C,rfl,by rw[<-HE.out];exact HM1.out⟩⟩,HB1.out⟩
end
section
open Go.RowKit Go.Lib
theorem KD (W:World)(x:Plc):Row Plc.cells 8 (W.alloc (.cells #[.string x.m.name,.int .i64 x.m.major,.int .i64 x.m.minor,.string x.m.text,.slice x.m.eA x.m.ex.length x.m.eC,.slice x.m.iA x.m.im.length x.m.iC,.slice x.m.pA x.m.pa.length x.m.pC,.int .i64 x.first] 83)) (some ⟨W.heap.size,0,none⟩) [x]:=
 Ry (enc:=Plc.cells) (k:=8) (fun _=>rfl) (heap_alloc_new W _) rfl
theorem I5 {l:List Plc}{j n:Nat}(h:j<l.length):(l.take (j+1)).eraseIdx n=if j=n then(l.take j).eraseIdx n else(l.take j).eraseIdx n++[l[j]]:=by
 rw[List.take_succ_eq_append_getElem h]
 have hl:(l.take j).length=j:=by rw[GY6];omega
 by_cases e:j=n
 ·rw[if_pos e,List.eraseIdx_append_of_length_le (by omega),hl,show n -j=0 by omega,List.eraseIdx_of_length_le (by omega:(l.take j).length<=n)]
  simp
 ·rw[if_neg e]
  rcases Nat.lt_or_ge n j with h1|h1
  ·rw[List.eraseIdx_append_of_lt_length (by omega)]
  ·rw[List.eraseIdx_append_of_length_le (by omega),hl,List.eraseIdx_of_length_le (by omega:(l.take j).length<=n)]
   obtain⟨d,hd⟩:∃d,n -j=d+1:=⟨n -j -1,by omega⟩
   rw[hd];rfl
theorem VC (A:Option Addr)(c:Nat)(l:List Plc)(n:Nat)(w:World)(h:aU w A l)(h8:l.length<=1000):
  Calls Tryz.prog 110 #[.slice A l.length c,.int .i64 n] w fun e w'=>(∃A' c',e=.returned (.slice A' (l.eraseIdx n).length c')/\aP w' w.heap.size (.slice A' (l.eraseIdx n).length c') (l.eraseIdx n))/\Below w.heap.size w w':=by
 have HP:=Hp h
 clear h
 go_enter Tryz.func110,Tryz.ntmps110
 go_wp2_with fail
 go_loopw [5,6] (fun v i wr=>∃j:Nat,j<=l.length/\i=.int .i64 j/\aP wr w.heap.size v ((l.take j).eraseIdx n)/\Below w.heap.size w wr) (fun _ i _=>l.length -(intOf i).toNat)
 case atStart=>exact⟨0,by omega,rfl,World.ownsRow_nil _ _ _ _,GZ4 _ _⟩
 case round=>
  obtain⟨j,hj,rfl,ho,hb⟩:=hrel
  have HB:=Hp hb
  have HO:=Hp ho
  by_cases hlt:j<l.length
  ·have hlt':(j:Int)<l.length:=by omega
   have hE:=I5 (n:=n) hlt
   obtain⟨ad,rfl,hab,p0,p1,p2,p3,p4,p5,p6,p7⟩:=RS HP.row hb j hlt
   by_cases e:j=n
   ·rw[if_pos e]at hE
    have HE:=Hp hE
    have e':((j:Int) != (n:Int))=false:=by simp[e]
    clear ho hb hE e
    go_wp2_with fail
    go_roundw
    case rel=>exact⟨j+1,by omega,by go_num,by rw[HE.out];exact HO.out,HB.out⟩
    case measure=>(simp[intOf];try omega)
   ·rw[if_neg e]at hE
    obtain⟨y,hy⟩:=Nm (l[j]'hlt)
    simp only[<-hy]at p0 p1 p2 p3 p4 p5 p6 p7 hE
    have HE:=Hp hE
    have e':((j:Int) != (n:Int))=true:=by simp;omega
    have HL:=Hp (show((l.take j).eraseIdx n).length+([y]:List Plc).length<=1000000 by
     have:=List.length_eraseIdx_le (l.take j) n
     rw[GY6]at this
     simp only[List.length_singleton];omega)
    have HS:=Hp (show∀o,w.heap.size<=(wr.alloc o).heap.size from fun o=>GY1 hb.size ((GZ4 wr.heap.size wr).alloc (GZ3 _) o).size)
    have HOA:=Hp (show∀o,aP (wr.alloc o) w.heap.size u5 ((l.take j).eraseIdx n) from fun o=>World.ownsRow.alloc ho o)
    have HBA:=Hp (show∀o,Below w.heap.size w (wr.alloc o) from fun o=>hb.trans ((GZ4 wr.heap.size wr).alloc (GZ3 _) o |>.mono hb.size))
    have HROW:=Hp (KD wr y)
    clear ho hb hE e hy
    go_wp2_with (at_builtin;refine gN (wr.alloc (.cells #[.string y.m.name,.int .i64 y.m.major,.int .i64 y.m.minor,.string y.m.text,.slice y.m.eA y.m.ex.length y.m.eC,.slice y.m.iA y.m.im.length y.m.iC,.slice y.m.pA y.m.pa.length y.m.pC,.int .i64 y.first] 83)) rfl _ _ rfl w.heap.size u5 ((l.take j).eraseIdx n) rfl (HOA.out _) (some ⟨wr.heap.size,0,none⟩) 1 [y] rfl HROW.out HL.out (HS.out _) ?_;intro v' w3 ho3 hb3 _;have HO3:=Hp ho3;have HB3:=Hp ((HBA.out _).trans hb3);clear ho3 hb3)
    go_roundw
    case rel=>exact⟨j+1,by omega,by go_num,by rw[HE.out];exact HO3.out,HB3.out⟩
    case measure=>(simp[intOf];try omega)
  ·obtain rfl:j=l.length:=by omega
   rw[List.take_length]at ho
   obtain⟨A',c',rfl⟩:=bG ho
   have HO2:=Hp ho
   clear ho hb
   go_wp2_with fail
   go_ret
   exact⟨⟨A',c',rfl,HO2.out⟩,HB.out⟩
def jO (l:List Plc)(m:Mod)(first:Int)(j:Nat):Bool×List Plc:=
 if(l.take j).all (fun x=>decide (x.first<=first))then(false,l.take j)else(true,fH (l.take j) m first)
theorem Jy {α:Type}{p:α->Bool}:∀{l:List α}(y:α),l.all p=false->(l++[y]).takeWhile p=l.takeWhile p/\(l++[y]).dropWhile p=l.dropWhile p++[y]
 | [],_,h=>by simp at h
 |x::l,y,h=>by
  rw[List.cons_append,List.takeWhile_cons,List.dropWhile_cons,List.takeWhile_cons,List.dropWhile_cons]
  cases hx:p x
  ·exact⟨rfl,rfl⟩
  ·rw[List.all_cons,hx,Bool.true_and]at h
   obtain⟨i1,i2⟩:=Jy y h
   exact⟨by simp[i1],by simp[i2]⟩
theorem Nt {α:Type}{p:α->Bool}:∀{l:List α}(y:α),l.all p=true->p y=false->(l++[y]).takeWhile p=l/\(l++[y]).dropWhile p=[y]
 | [],y,_,hy=>by simp[hy]
 |x::l,y,h,hy=>by
  rw[List.all_cons,Bool.and_eq_true]at h
  obtain⟨i1,i2⟩:=Nt y h.2 hy
  rw[List.cons_append,List.takeWhile_cons,List.dropWhile_cons,h.1]
  exact⟨by simp[i1],by simp[i2]⟩
theorem Hq {l:List Plc}{m:Mod}{first:Int}{j:Nat}(h:j<l.length):
  jO l m first (j+1)=if(jO l m first j).1=false/\first<l[j].first then(true,(jO l m first j).2++[⟨m,first⟩]++[l[j]])else((jO l m first j).1,(jO l m first j).2++[l[j]]):=by
 unfold jO
 rw[List.take_succ_eq_append_getElem h,List.all_append]
 cases ha:(l.take j).all (fun x=>decide (x.first<=first))
 ·obtain⟨i1,i2⟩:=Jy (p:=fun x:Plc=>decide (x.first<=first)) l[j] ha
  simp only[Bool.false_and,Bool.false_eq_true,if_false]
  rw[if_neg (by simp)]
  unfold fH
  rw[i1,i2];simp
 ·simp only[Bool.true_and,if_true]
  by_cases hb:l[j].first<=first
  ·rw[if_pos (by simp[hb]),if_neg (by simp;omega)]
  ·rw[if_neg (by simp[hb]),if_pos ⟨by trivial,by omega⟩]
   obtain⟨i1,i2⟩:=Nt (p:=fun x:Plc=>decide (x.first<=first)) l[j] ha (by simp;omega)
   unfold fH
   rw[i1,i2];simp
theorem J9 (l:List Plc)(m:Mod)(first:Int):fH l m first=if(jO l m first l.length).1=false then(jO l m first l.length).2++[⟨m,first⟩]else(jO l m first l.length).2:=by
 unfold jO
 rw[List.take_length]
 cases ha:l.all (fun x=>decide (x.first<=first))
 ·simp
 ·obtain⟨i1,i2⟩:=JS (p:=fun x:Plc=>decide (x.first<=first)) ha
  simp only[if_true]
  unfold fH
  rw[i1,i2]
theorem Ib (l:List Plc)(m:Mod)(first:Int)(j:Nat):(jO l m first j).2.length<=l.length+1:=by
 unfold jO
 split
 ·rw[GY6];omega
 ·unfold fH
  have h1:(l.take j).takeWhile (fun x=>decide (x.first<=first))++(l.take j).dropWhile (fun x=>decide (x.first<=first))=l.take j:=List.takeWhile_append_dropWhile
  have h2:=congrArg List.length h1
  rw[GZ8,GY6]at h2
  simp only[GZ8,GY8]
  omega
theorem pV {w wr:World}{base:Nat}{v:Value}{l0:List Plc}(ho:aP wr base v l0)(hb:Below base w wr)(hs:base<=wr.heap.size)(x:Plc)(hl:l0.length<=1000):
  Hid (∀o,aP (wr.alloc o) base v l0)/\Hid (∀o,Below base w (wr.alloc o))/\Hid (∀o,base<=(wr.alloc o).heap.size)/\Hid (l0.length+([x]:List Plc).length<=1000000)/\
  Hid (Row Plc.cells 8 (wr.alloc (.cells #[.string x.m.name,.int .i64 x.m.major,.int .i64 x.m.minor,.string x.m.text,.slice x.m.eA x.m.ex.length x.m.eC,.slice x.m.iA x.m.im.length x.m.iC,.slice x.m.pA x.m.pa.length x.m.pC,.int .i64 x.first] 83)) (some ⟨wr.heap.size,0,none⟩) [x]):=
 ⟨Hp fun o=>World.ownsRow.alloc ho o,Hp fun o=>hb.alloc hs o,Hp fun o=>GY1 hs ((GZ4 wr.heap.size wr).alloc (GZ3 _) o).size,Hp (by simp only[List.length_singleton];omega),Hp (KD wr x)⟩
theorem FV (A:Option Addr)(c:Nat)(l:List Plc)(m:Mod)(first:Int)(w:World)(h:aU w A l)(h8:l.length<=100):
  Calls Tryz.prog 108 #[.slice A l.length c,m.v,.int .i64 first] w fun e w'=>(∃A' c',e=.returned (.slice A' (fH l m first).length c')/\aP w' w.heap.size (.slice A' (fH l m first).length c') (fH l m first))/\Below w.heap.size w w':=by
 obtain⟨w0,hw0⟩:=Nm (w.alloc (.cells #[.string m.name,.int .i64 m.major,.int .i64 m.minor,.string m.text,.slice m.eA m.ex.length m.eC,.slice m.iA m.im.length m.iC,.slice m.pA m.pa.length m.pC] 70))
 obtain⟨f0,f1,f2,f3,f4,f5,f6,hz,hb0⟩:=wE hw0
 have H0:=Hp hb0
 have HZ:=Hp hz
 have HP:=Hp h
 have HM:=Hp (And.intro f0 (And.intro f1 (And.intro f2 (And.intro f3 (And.intro f4 (And.intro f5 f6))))))
 have hw0':=hw0.symm
 clear hw0 hb0 hz h f0 f1 f2 f3 f4 f5 f6
 go_enter Tryz.func108,Tryz.ntmps108
 go_wp2_with fail
 go_loopw [7,8,9] (fun v pt i wr=>∃j:Nat,j<=l.length/\i=.int .i64 j/\pt=.bool (jO l m first j).1/\aP wr (w.heap.size+1) v (jO l m first j).2/\Below (w.heap.size+1) w0 wr) (fun _ _ i _=>l.length -(intOf i).toNat)
 case atStart=>exact⟨0,by omega,rfl,rfl,World.ownsRow_nil _ _ _ _,GZ4 _ _⟩
 case round=>
  obtain⟨j,hj,rfl,rfl,ho,hb⟩:=hrel
  have HB:=Hp hb
  have hbw:Below w.heap.size w wr:=H0.trans (hb.mono (by omega))
  have hsz:w.heap.size+1<=wr.heap.size:=by have:=hb.size;have:=HZ.out;omega
  have hlen:=Ib l m first j
  have n0:=(hb.cell (p:=⟨w.heap.size,0,none⟩) (by simp)).trans HM.out.1
  have n1:=(hb.cell (p:=⟨w.heap.size,1,none⟩) (by simp)).trans HM.out.2.1
  have n2:=(hb.cell (p:=⟨w.heap.size,2,none⟩) (by simp)).trans HM.out.2.2.1
  have n3:=(hb.cell (p:=⟨w.heap.size,3,none⟩) (by simp)).trans HM.out.2.2.2.1
  have n4:=(hb.cell (p:=⟨w.heap.size,4,none⟩) (by simp)).trans HM.out.2.2.2.2.1
  have n5:=(hb.cell (p:=⟨w.heap.size,5,none⟩) (by simp)).trans HM.out.2.2.2.2.2.1
  have n6:=(hb.cell (p:=⟨w.heap.size,6,none⟩) (by simp)).trans HM.out.2.2.2.2.2.2
  by_cases hlt:j<l.length
  ·have hlt':(j:Int)<l.length:=by omega
   have hE:=Hq (m:=m) (first:=first) hlt
   obtain⟨ad,rfl,hab,p0,p1,p2,p3,p4,p5,p6,p7⟩:=RS HP.row hbw j hlt
   obtain⟨y,hy⟩:=Nm (l[j]'hlt)
   simp only[<-hy]at p0 p1 p2 p3 p4 p5 p6 p7 hE
   obtain⟨T,hT⟩:=Nm (jO l m first j)
   rw[<-hT]at hE ho hlen ⊢
   obtain⟨bp,L⟩:=T
   simp only at hE ho hlen ⊢
   have KJ:=Hp (fun W(hbW:Below w.heap.size w W)=>hy▸RS HP.out.row hbW j hlt)
   by_cases hc:bp=false/\first<y.first
   ·obtain⟨rfl,hc2⟩:=hc
    rw[if_pos ⟨rfl,hc2⟩]at hE
    have HE:=Hp hE
    obtain⟨HOA,HBA,HSA,HLA,HRA⟩:=pV ho hb hsz ⟨m,first⟩ (by omega)
    have hlen2:=hlen
    clear ho hb hbw hE hT hy
    have HLEN:=Hp (show(L++[(⟨m,first⟩:Plc)]).length<=1000 by rw[GZ8,List.length_singleton];omega)
    have HSZ0:=Hp (show w.heap.size+1<=w0.heap.size by have:=HZ.out;omega)
    clear hlen hlen2
    go_wp2_with (first
     |(at_builtin;refine gN (wr.alloc (.cells #[.string m.name,.int .i64 m.major,.int .i64 m.minor,.string m.text,.slice m.eA m.ex.length m.eC,.slice m.iA m.im.length m.iC,.slice m.pA m.pa.length m.pC,.int .i64 first] 83)) rfl _ _ rfl (w.heap.size+1) u7 L rfl (HOA.out _) (some ⟨wr.heap.size,0,none⟩) 1 [⟨m,first⟩] rfl HRA.out HLA.out (HSA.out _) ?_;intro v1 w3 ho3 hb3 _;have HB3:=Hp ((HBA.out _).trans hb3);have hs3:=GY1 HSZ0.out HB3.size;obtain⟨HOA3,HBA3,HSA3,HLA3,HRA3⟩:=pV ho3 HB3.out hs3 y HLEN.out;obtain⟨_,ea,_,q0,q1,q2,q3,q4,q5,q6,q7⟩:=KJ.out w3 (H0.trans (HB3.mono (Nat.le_succ _)));obtain rfl:=GY3 ea;clear ho3 hb3)
     |(at_builtin;refine gN (w3.alloc (.cells #[.string y.m.name,.int .i64 y.m.major,.int .i64 y.m.minor,.string y.m.text,.slice y.m.eA y.m.ex.length y.m.eC,.slice y.m.iA y.m.im.length y.m.iC,.slice y.m.pA y.m.pa.length y.m.pC,.int .i64 y.first] 83)) rfl _ _ rfl (w.heap.size+1) v1 (L++[⟨m,first⟩]) rfl (HOA3.out _) (some ⟨w3.heap.size,0,none⟩) 1 [y] rfl HRA3.out HLA3.out (HSA3.out _) ?_;intro v2 w4 ho4 hb4 _;have HO4:=Hp ho4;have HB4:=Hp ((HBA3.out _).trans hb4);clear ho4 hb4))
    go_roundw
    case rel=>exact⟨j+1,by omega,by go_num,by rw[HE.out],by rw[HE.out];exact HO4.out,HB4.out⟩
    case measure=>(simp[intOf];try omega)
   ·rw[if_neg hc]at hE
    have HE:=Hp hE
    obtain⟨HOA,HBA,HSA,HLA,HRA⟩:=pV ho hb hsz y (by omega)
    cases bp
    ·have hf:¬first<y.first:=fun q=>hc ⟨rfl,q⟩
     clear ho hb hbw hE hT hy hc hlen
     go_wp2_with (at_builtin;refine gN (wr.alloc (.cells #[.string y.m.name,.int .i64 y.m.major,.int .i64 y.m.minor,.string y.m.text,.slice y.m.eA y.m.ex.length y.m.eC,.slice y.m.iA y.m.im.length y.m.iC,.slice y.m.pA y.m.pa.length y.m.pC,.int .i64 y.first] 83)) rfl _ _ rfl (w.heap.size+1) u7 L rfl (HOA.out _) (some ⟨wr.heap.size,0,none⟩) 1 [y] rfl HRA.out HLA.out (HSA.out _) ?_;intro v1 w3 ho3 hb3 _;have HO3:=Hp ho3;have HB3:=Hp ((HBA.out _).trans hb3);clear ho3 hb3)
     go_roundw
     case rel=>exact⟨j+1,by omega,by go_num,by rw[HE.out],by rw[HE.out];exact HO3.out,HB3.out⟩
     case measure=>(simp[intOf];try omega)
    ·clear ho hb hbw hE hT hy hc hlen
     go_wp2_with (at_builtin;refine gN (wr.alloc (.cells #[.string y.m.name,.int .i64 y.m.major,.int .i64 y.m.minor,.string y.m.text,.slice y.m.eA y.m.ex.length y.m.eC,.slice y.m.iA y.m.im.length y.m.iC,.slice y.m.pA y.m.pa.length y.m.pC,.int .i64 y.first] 83)) rfl _ _ rfl (w.heap.size+1) u7 L rfl (HOA.out _) (some ⟨wr.heap.size,0,none⟩) 1 [y] rfl HRA.out HLA.out (HSA.out _) ?_;intro v1 w3 ho3 hb3 _;have HO3:=Hp ho3;have HB3:=Hp ((HBA.out _).trans hb3);clear ho3 hb3)
     go_roundw
     case rel=>exact⟨j+1,by omega,by go_num,by rw[HE.out],by rw[HE.out];exact HO3.out,HB3.out⟩
     case measure=>(simp[intOf];try omega)
  ·obtain rfl:j=l.length:=by omega
   have hE:=J9 l m first
   obtain⟨T,hT⟩:=Nm (jO l m first l.length)
   rw[<-hT]at hE ho hlen ⊢
   obtain⟨bp,L⟩:=T
   simp only at hE ho hlen ⊢
   cases bp
   ·rw[if_pos (by trivial)]at hE
    have HE:=Hp hE
    obtain⟨HOA,HBA,HSA,HLA,HRA⟩:=pV ho hb hsz ⟨m,first⟩ (by omega)
    clear ho hb hbw hE hT hlen
    go_wp2_with (at_builtin;refine gN (wr.alloc (.cells #[.string m.name,.int .i64 m.major,.int .i64 m.minor,.string m.text,.slice m.eA m.ex.length m.eC,.slice m.iA m.im.length m.iC,.slice m.pA m.pa.length m.pC,.int .i64 first] 83)) rfl _ _ rfl (w.heap.size+1) u7 L rfl (HOA.out _) (some ⟨wr.heap.size,0,none⟩) 1 [⟨m,first⟩] rfl HRA.out HLA.out (HSA.out _) ?_;intro v1 w3 ho3 hb3 _;obtain⟨A3,c3,rfl⟩:=bG ho3;have HO3:=Hp ho3;have HB3:=Hp ((HBA.out _).trans hb3);clear ho3 hb3)
    go_ret
    rw[HE.out]
    exact⟨⟨A3,c3,by show Ending.returned (Value.slice A3 (L.length+1) c3)=_;rw[GZ8,List.length_singleton],RH HO3.out (Nat.le_succ _)⟩,H0.trans (HB3.mono (Nat.le_succ _))⟩
   ·rw[if_neg (by simp)]at hE
    have HE:=Hp hE
    obtain⟨A3,c3,rfl⟩:=bG ho
    have HO3:=Hp ho
    clear ho hb hbw hE hT hlen
    go_wp2_with fail
    go_ret
    rw[HE.out]
    exact⟨⟨A3,c3,rfl,RH HO3.out (Nat.le_succ _)⟩,H0.trans (HB.mono (Nat.le_succ _))⟩
end
section
open Go.RowKit
theorem Bits.congr {w:World}{b:Nat}{u u':Nat->Bool}(h:Bits w b u)(e:∀k,k<16->u k=u' k):Bits w b u':=fun k hk=>by rw[<-e k hk];exact h k hk
theorem Lp (w:World)(t:TypeId):Bits (w.alloc (.cells #[.bool false,.bool false,.bool false,.bool false,.bool false,.bool false,.bool false,.bool false,.bool false,.bool false,.bool false,.bool false,.bool false,.bool false,.bool false,.bool false] t)) w.heap.size (jA []):=fun k hk=>by
 refine⟨?_,by unfold World.frozen?;rw[show(w.alloc _).heap[(⟨w.heap.size,k,none⟩:Addr).block]? =_ from heap_alloc_new w _];simp⟩
 rw[World.cell?_alloc_new]
 show _=some (Value.bool false)
 match k,hk with
 |0,_|1,_|2,_|3,_|4,_|5,_|6,_|7,_|8,_|9,_|10,_|11,_|12,_|13,_|14,_|15,_=>rfl
 |k+16,h=>exact absurd h (by omega)
theorem Lh {l:List Plc}{j:Nat}(h:j<l.length)(i:Nat):jA (l.take (j+1)) i=(jA (l.take j) i || (decide (l[j].first<=i)&&decide ((i:Int)<aR l[j]))):=by
 unfold jA
 rw[List.take_succ_eq_append_getElem h,List.any_append]
 simp
theorem gQ.last {w:World}{base:Nat}{A:Option Addr}{K c:Nat}{pre:List Run}{r:Run}(h:gQ w base (.slice A K c) (pre++[r])):
  ∃g,A=some ⟨g,0,none⟩/\base<=g/\w.cell? ⟨g,pre.length*2+1,none⟩=some (.int .i64 r.many)/\w.frozen? ⟨g,pre.length*2+1,none⟩=false/\
   ∀m,gQ (w.setCell ⟨g,pre.length*2+1,none⟩ (.int .i64 m)) base (.slice A K c) (pre++[⟨r.first,m⟩]):=by
 have hlen:(pre++[r]).length=pre.length+1:=by simp
 have hfl:(pre.flatMap Run.cells).length=pre.length*2:=flat_length (enc:=Run.cells) (k:=2) (fun _=>rfl) pre
 obtain⟨h1,h2⟩:=h
 rcases h2 with⟨_,h0⟩|⟨g,cap,cur,hv,hg,hb,hnc,hcm,hsz,htk⟩
 ·rw[hlen]at h0;omega
 injection hv with ha hk hc
 subst ha
 have hcs:cur.toList[pre.length*2+1]? =some (.int .i64 r.many):=by
  have:(cur.toList.take ((pre++[r]).length*2))[pre.length*2+1]? =some (.int .i64 r.many):=by
   rw[htk,List.flatMap_append,List.getElem?_append_right (by omega),hfl,show pre.length*2+1 -pre.length*2=1 by omega];rfl
  rwa [List.getElem?_take_of_lt (by rw[hlen];omega)]at this
 have hcell:w.cell? ⟨g,pre.length*2+1,none⟩=some (.int .i64 r.many):=by
  simp only[World.cell?,hb]
  simpa using hcs
 refine⟨g,rfl,hg,hcell,frozen_of_row _ _ _ _ _ hb,fun m=>?_⟩
 refine⟨by simp[List.flatMap_append,hfl,Run.cells];omega,.inr ⟨g,cap,cur.setIfInBounds (pre.length*2+1) (.int .i64 m),?_,hg,heap_setCell_same w g _ cur _ _ hb,?_,hcm,by simpa using hsz,?_⟩⟩
 ·rw[<-hc,hk];simp
 ·simpa using hnc
 ·rw[Array.toList_setIfInBounds,List.take_set,show(pre++[(⟨r.first,m⟩:Run)]).length=(pre++[r]).length by simp,htk,List.flatMap_append,List.flatMap_append,List.set_append_right _ _ (by omega),hfl,show pre.length*2+1 -pre.length*2=1 by omega]
  rfl
theorem I7 (A:Option Addr)(c:Nat)(l:List Plc)(w:World)(h:aU w A l)(hr:RY l=0):
  Calls Tryz.prog 180 #[.slice A l.length c] w fun e w'=>(∃(A':Option Addr)(c':Nat),e=.returned (.slice A' (RI l).length c')/\xD w' A' (RI l))/\Below w.heap.size w w':=by
 have h8:=(cZ hr).1
 have HP:=Hp h
 have HALL:=Hp (show∀x∈l,x.m.text.size<=256/\0<=x.first/\x.first<=16/\1<=aH x.m/\aR x<=16 from fun x hx=>by
  obtain⟨h1,h2⟩:=(cZ hr).2.1 x hx
  have h3:=gK h1
  simp only[kE,Bool.and_eq_true,decide_eq_true_eq]at h2
  unfold aR
  exact⟨(aY h1).2.2.1,by omega⟩)
 have HB0:=Hp (Lp w 261)
 have HRUN:=Hp (zF (cZ hr).2.2)
 obtain⟨R,hRR⟩:=Nm (RI l)
 rw[<-hRR]at HRUN ⊢
 clear h hr hRR
 go_enter Tryz.func180,Tryz.ntmps180
 go_wp2_with fail
 go_loopw [4] (fun i wr=>∃(j:Nat),j<=l.length/\i=.int .i64 j/\Bits wr w.heap.size (jA (l.take j))/\Below w.heap.size w wr) (fun i _=>l.length -(intOf i).toNat)
 case atStart=>exact⟨0,by omega,rfl,HB0.out,ZB⟩
 case round=>
  obtain⟨j,hj,rfl,hbits,hb⟩:=hrel
  have HB:=Hp hb
  have HI:=Hp hbits
  have hBw:w.heap.size<wr.heap.size:=by
   have:=(hbits 0 (by omega)).1
   exact block_lt_of_cell this
  clear hbits
  by_cases hlt:j<l.length
  ·have hlt':(j:Int)<l.length:=by omega
   obtain⟨f1,f2,f3,f4,f5⟩:=HALL.out (l[j]'hlt) (GZ9 _)
   have hU:=Hp (Lh hlt)
   have HROW:=Hp (fun(W:World)(hbW:Below w.heap.size w W)=>RS HP.row hbW j hlt)
   obtain⟨y,hy⟩:=Nm (l[j]'hlt)
   rw[<-hy]at f1 f2 f3 f4 f5 hU HROW
   obtain⟨f,hf⟩:∃f:Nat,y.first=f:=⟨y.first.toNat,by omega⟩
   obtain⟨M,hM⟩:∃M:Nat,aH y.m=M:=⟨(aH y.m).toNat,by omega⟩
   have he:aR y=y.first+aH y.m:=rfl
   have hfm:f+M<=16:=by omega
   have cS:=Hp (fun W=>lH y.m W (by unfold big;omega))
   rw[hM]at cS
   have hU2:=Hp (show∀i:Nat,jA (l.take (j+1)) i=(jA (l.take j) i || (decide (f<=i)&&decide (i<f+M))) from fun i=>by rw[hU.out i,hf,show aR y=((f+M:Nat):Int) by omega];congr 2<;>simp<;>omega)
   have HF:=Hp hf
   clear he f1 f2 f3 f4 f5 hU hy hM hb hf
   go_wp2_with fail
   go_loopw [5] (fun i wr2=>∃(k:Nat),k<=M/\i=.int .i64 k/\Bits wr2 w.heap.size (fun i=>jA (l.take j) i || (decide (f<=i)&&decide (i<f+k)))/\Below w.heap.size w wr2) (fun i _=>M -(intOf i).toNat)
   case atStart=>exact⟨0,by omega,rfl,HI.congr (fun k _=>by simp;omega),HB.out⟩
   case round=>
    obtain⟨k,hk,rfl,hbits2,hb2⟩:=hrel
    have HB2:=Hp hb2
    have HI2:=Hp hbits2
    have hBw2:w.heap.size<wr.heap.size:=block_lt_of_cell (hbits2 0 (by omega)).1
    clear hbits2
    obtain⟨ad,rfl,hab,h0,h1,h2,h3,h4,h5,h6,h7⟩:=HROW.out wr HB2.out
    by_cases hkm:k<M
    ·have hkm':(k:Int)<M:=by omega
     obtain⟨s,hs⟩:=Nm (f+k)
     have q1:IntKind.i64.wrap (y.first+(k:Int))=(s:Int):=by rw[HF.out,IntWalk.i64_in _ (by omega)];omega
     have hs16:(s:Int)<16:=by omega
     have hs0:(0:Int)<=(s:Int):=by omega
     have HSK:=Hp hs
     clear hs
     go_wp2_with (go_at_call 107;refine(cS.out _).mono ?_;rintro e w3 ⟨rfl,hb3⟩;have hb3':=hb3.mono (show w.heap.size+1<=wr.heap.size by omega);obtain⟨p0,p1⟩:=(HI2.below hb3' (by omega)) s (by omega);obtain⟨ad',e',_,k0,k1,k2,k3,k4,k5,k6,k7⟩:=HROW.out w3 (HB2.trans (hb3'.mono (by omega)));obtain rfl:=GY3 e';have hz3:=hb3.size)
     go_roundw
     case rel=>
      refine⟨k+1,by omega,by go_num,?_,((HB2.trans (hb3'.mono (by omega))).setCell (by simp) _)⟩
      refine((HI2.below hb3' (by omega)).set s (by omega) true).congr fun i _=>?_
      have:=HSK.out
      by_cases hi:i=s
      ·rw[if_pos hi];simp;omega
      ·rw[if_neg hi]
       congr 1
       rw[Bool.eq_iff_iff]
       simp;omega
     case measure=>(simp[intOf];try omega)
    ·have hkm':decide ((k:Int)<M)=false:=by simp;omega
     have HKM:=Hp (show k=M by omega)
     go_wp2_with (go_at_call 107;refine(cS.out _).mono ?_;rintro e w3 ⟨rfl,hb3⟩;have hb3':=hb3.mono (show w.heap.size+1<=wr.heap.size by omega))
     go_roundw
     case rel=>
      refine⟨j+1,by omega,by go_num,?_,HB2.trans (hb3'.mono (by omega))⟩
      refine(HI2.below hb3' (by omega)).congr fun i _=>?_
      rw[hU2.out i,HKM.out]
     case measure=>(simp[intOf];try omega)
  ·have e0:l.take j=l:=List.take_of_length_le (by omega)
   rw[e0]at HI
   obtain⟨u,hu⟩:=Nm (jA l)
   rw[<-hu]at HI HRUN
   have hlt':decide ((j:Int)<l.length)=false:=by simp;omega
   clear e0 hu hb HALL HB0
   go_wp2_with fail
   go_loopw [6,7] (fun v i wr=>∃(n:Nat),n<=16/\i=.int .i64 n/\Bits wr w.heap.size u/\gQ wr (w.heap.size+1) v (bF u n)/\(bF u n).length<=n/\Below w.heap.size w wr) (fun _ i _=>16 -(intOf i).toNat)
   case atStart=>exact⟨0,by omega,rfl,HI.out,gQ.nil _ _,by simp[bF],HB.out⟩
   case round=>
    obtain⟨n,hn,rfl,hbits2,hown,hln,hb2⟩:=hrel
    have HB2:=Hp hb2
    have HI2:=Hp hbits2
    have hBw2:w.heap.size<wr.heap.size:=block_lt_of_cell (hbits2 0 (by omega)).1
    obtain⟨K,hK⟩:∃K,K=(bF u n).length:=⟨_,rfl⟩
    have hown':=hown
    unfold gQ at hown'
    rw[<-hK]at hln hown'
    obtain⟨vA,vc,rfl⟩:=vL hown'
    have HO:=Hp hown
    have HK:=Hp hK
    clear hbits2 hown hown' hb2 hK
    by_cases hn16:n<16
    ·have hn16':(n:Int)<16:=by omega
     obtain⟨p0,p1⟩:=HI2.out n hn16
     obtain⟨b,hb⟩:=Nm (u n)
     rw[<-hb]at p0
     cases b
     ·by_cases hn0:0<n
      ·have hn0':(0:Int)<n:=by omega
       obtain⟨k,hk⟩:∃k,n=k+1:=⟨n -1,by omega⟩
       have hk16:k<16:=by omega
       have q1:IntKind.i64.wrap ((n:Int) -1)=k:=by rw[IntWalk.i64_in _ (by omega)];omega
       have hk0:(0:Int)<=k:=by omega
       have hk1:(k:Int)<16:=by omega
       obtain⟨m0,m1⟩:=HI2.out k hk16
       obtain⟨b2,hb2⟩:=Nm (u k)
       rw[<-hb2]at m0
       cases b2
       ·have hprev:0<n/\u (n -1)=false:=⟨hn0,by rw[show n -1=k by omega];exact hb2.symm⟩
        have e1:=tT hb.symm hprev
        obtain⟨pre,r,e2,e3,e4⟩:=UM hprev.1 hprev.2
        rw[e2,yC]at e1
        have HE1:=Hp e1
        have hown:=HO.out
        have hK2:K=pre.length+1:=by rw[HK.out,e2];simp
        rw[e2]at hown
        obtain⟨g,hvA,hg,t0,t1,t2⟩:=gQ.last hown
        subst hvA
        obtain⟨p,hp⟩:=Nm pre.length
        rw[<-hp]at t0 t1 t2 hK2
        have q2:IntKind.i64.wrap ((K:Int) -1)=p:=by rw[IntWalk.i64_in _ (by omega)];omega
        have q3:(p:Int)<K:=by omega
        have q4:(0:Int)<=p:=by omega
        have q5:IntKind.i64.wrap (r.many+1)=r.many+1:=IntWalk.i64_in _ (by omega)
        have T2:=Hp (t2 (r.many+1))
        have HLN:=Hp (show(pre++[(⟨r.first,r.many+1⟩:Run)]).length<=n+1 by simp;omega)
        clear hb hb2 hk e1 e2 e3 e4 hown hK2 hp t2 hprev
        go_wp2_with fail
        go_roundw
        case rel=>exact⟨n+1,by omega,by go_num,fun i hi=>⟨(World.cell?_setCell_other _ _ _ _ (by intro h2;injection h2 with h3 _ _;omega)).trans (HI2.out i hi).1,by rw[World.frozen?_setCell];exact(HI2.out i hi).2⟩,by rw[HE1.out];exact T2.out,by rw[HE1.out];exact HLN.out,HB2.setCell (by simp;omega) _⟩
        case measure=>(simp[intOf];try omega)
       ·have hprev:¬(0<n/\u (n -1)=false):=fun h=>by have:=h.2;rw[show n -1=k by omega,<-hb2]at this;cases this
        have e1:=Hp (TZ hb.symm hprev)
        clear hb hb2 hk hprev
        go_wp2_with (at_builtin;refine uF wr rfl _ _ rfl (w.heap.size+1) (.slice vA K vc) (bF u n) ⟨n,1⟩ rfl rfl HO.out (by have:=HK.out;omega) (by omega) ?_;intro v' w1 hown1 hg1;have HOWN:=Hp hown1;have HG:=Hp hg1;clear hown1 hg1)
        go_roundw
        case rel=>
         have hbel:Below (w.heap.size+1) wr w1:=((GZ4 _ wr).alloc (by omega) _).grown HG.out (by simp;omega) (fun g hg=>(HO.lt g hg).1)
         exact⟨n+1,by omega,by go_num,HI2.below hbel (by omega),by rw[e1.out];exact HOWN.out,by have hkk:=HK.out;clear HK;rw[e1.out,GZ8,List.length_singleton,<-hkk];omega,HB2.trans (hbel.mono (by omega))⟩
        case measure=>(simp[intOf];try omega)
      ·have e1:=Hp (TZ hb.symm (fun h=>hn0 h.1))
       have hn0':decide ((0:Int)<n)=false:=by simp;omega
       clear hb
       go_wp2_with (at_builtin;refine uF wr rfl _ _ rfl (w.heap.size+1) (.slice vA K vc) (bF u n) ⟨n,1⟩ rfl rfl HO.out (by have:=HK.out;omega) (by omega) ?_;intro v' w1 hown1 hg1;have HOWN:=Hp hown1;have HG:=Hp hg1;clear hown1 hg1)
       go_roundw
       case rel=>
        have hbel:Below (w.heap.size+1) wr w1:=((GZ4 _ wr).alloc (by omega) _).grown HG.out (by simp;omega) (fun g hg=>(HO.lt g hg).1)
        exact⟨n+1,by omega,by go_num,HI2.below hbel (by omega),by rw[e1.out];exact HOWN.out,by have hkk:=HK.out;clear HK;rw[e1.out,GZ8,List.length_singleton,<-hkk];omega,HB2.trans (hbel.mono (by omega))⟩
       case measure=>(simp[intOf];try omega)
     ·have e1:=Hp (sK hb.symm)
      clear hb
      go_wp2_with fail
      go_roundw
      case rel=>exact⟨n+1,by omega,by go_num,HI2.out,e1.out▸HO.out,by have hkk:=HK.out;rw[e1.out,<-hkk];omega,HB2.out⟩
      case measure=>(simp[intOf];try omega)
    ·have hn16':decide ((n:Int)<16)=false:=by simp;omega
     obtain rfl:n=16:=by omega
     obtain⟨A',c',hv,hrow⟩:=gQ.row HO.out
     injection hv with hv1 _ hv2
     subst hv1
     have HROW:=Hp (show xD wr vA R from HRUN.out▸hrow)
     have HE:=Hp (show Value.slice vA K vc=.slice vA R.length vc by rw[HK.out,HRUN.out])
     clear hv2 hrow hln
     go_wp2_with fail
     go_ret
     refine⟨?_,HB2.out⟩
     first|exact⟨vA,vc,congrArg Ending.returned HE.out,HROW.out⟩|exact⟨vA,⟨vc,congrArg Ending.returned HE.out⟩,HROW.out⟩
end
end Go.Proofs.YtjiedaialianmaaGreat
