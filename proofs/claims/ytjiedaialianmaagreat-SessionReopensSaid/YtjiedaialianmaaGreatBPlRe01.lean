import Derived.Test.YtjiedaialianmaaGreatA22
set_option maxRecDepth 100000
namespace Go.Proofs.YtjiedaialianmaaGreat
section
open Go.RowKit
theorem Only.frozen {B:Nat}{w w':World}(h:Only B w w')(c o:Nat)(h1:c<w.heap.size)(h2:c≠B):w'.frozen? ⟨c,o,none⟩=w.frozen? ⟨c,o,none⟩:=World.frozen?_of_block (h.block c h1 h2)
end
section
open Go.RowKit
theorem JInv.bound {F0 F R:List ByteArray}{D:List Ded}{k e:Nat}(h:JInv F0 F R D k e):5*k<=4096/\e<=4096:=by
 obtain⟨e0,ho⟩:=xM h.load
 have h1:=ho.many
 have h2:=ho.Ms
 have h3:=fG h.ok
 have h4:=(fP.1 h.ok).1.2
 omega
theorem dA.grown {w w':World}{base:Nat}{v:Value}{l:List ByteArray}{row:Option Nat}(h:dA w base v l)(hg:w.grownBy w' row)(hne:∀b,v.ownBlock=some b->row≠some b):dA w' base v l:=by
 refine⟨h.1,?_⟩
 rcases h.2 with h0|⟨g,cap,cur,rfl,e2,e3,e4⟩
 ·exact .inl h0
 ·refine .inr ⟨g,cap,cur,rfl,e2,?_,e4⟩
  rw[hg.block g (ZL e3) (fun h=>hne g (by simp[Value.ownBlock]) h.symm)];exact e3
theorem mZ.grown {w w':World}{base:Nat}{v:Value}{l:List Ded}{row:Option Nat}(h:mZ w base v l)(hg:w.grownBy w' row)(hne:∀b,v.ownBlock=some b->row≠some b):mZ w' base v l:=by
 refine⟨h.1,?_⟩
 rcases h.2 with h0|⟨g,cap,cur,rfl,e2,e3,e4⟩
 ·exact .inl h0
 ·refine .inr ⟨g,cap,cur,rfl,e2,?_,e4⟩
  rw[hg.block g (ZL e3) (fun h=>hne g (by simp[Value.ownBlock]) h.symm)];exact e3
theorem GX {w w':World}{base size n:Nat}{e:TypeId}{v:Value}{xs:List Value}(h:w.ownsRow base e size v n xs)(hg:w.grownBy w' v.ownBlock){b:Nat}{cs:Array Value}{t:TypeId}{fr:Nat×Nat}(hb:w.heap[b]? =some (.cells cs t fr))(hne:t≠e):w'.heap[b]? =some (.cells cs t fr):=by
 rw[hg.block b (ZL hb) (fun he=>?_)]
 ·exact hb
 ·rcases h.2 with⟨rfl,_⟩|⟨g,cap,cur,rfl,_,h3,_⟩
  ·cases he
  ·have:b=g:=by simpa[Value.ownBlock]using he
   subst this
   rw[h3]at hb
   injection hb with hb
   injection hb with _ h5 _
   exact hne h5.symm
theorem vK (W:World){ops:Array Oper}{rest:List Oper}{o:Oper}{a:Act}{Q:Exit->Act->World->Prop}(hgd:o.guard=none)(s x:Operand)
  (ho:o.op=.call {callee:=.builtin .append,args:=#[s,x],argTypes:=#[27,27]}) (base:Nat) (v:Value) (l0:List ByteArray) (hs:a.eval s=v) (hown:dA W base v l0)
  (A:Option Addr) (c:Nat) (l1:List ByteArray) (hx:a.eval x=.slice A l1.length c) (hr:Row strCells 1 W A l1) (hlen:l0.length+l1.length<=1000000) (hbase:base<=W.heap.size)
  (h:∀v' w',dA w' base v' (l0++l1)->Below base W w'->W.grownBy w' v.ownBlock->(v'.ownBlock=v.ownBlock\/v'.ownBlock=some W.heap.size)->wpList Tryz.prog ops Q rest (a.put o.dst v') w'):wpList Tryz.prog ops Q (o::rest) a W:=by
 obtain⟨i0,hi,hz0,hz1,hz2⟩:=info_parts Tryz.zQ
 refine eO W hgd s x 27 ho base 9 i0 (.string ⟨#[]⟩) 1 16 Tryz.underlying27 hi hz0 hz1 hz2 rfl (by decide) v l0.length (l0.map Value.string) hs hown W.heap.size A l1.length c (l1.flatMap strCells) hx hr
  (fun u hu=>by rw[<-rZ]at hu;obtain⟨y,_,rfl⟩:=List.mem_map.1 hu;rfl) (by simp only[maxLen];omega) (by omega) hbase ?_
 intro v' w' h1 h2 h3
 refine h v' w' ?_ ((GZ4 base W).grown h2 hbase (iW hown)) h2 h3
 unfold dA
 rw[GZ8,List.map_append,rZ l1];exact h1
end
section
open Go
set_option maxHeartbeats 4000000
open Go.RowKit Go.Lib
theorem OO {b:Int}(h:lD b=0):3<=b/\b<=32:=by
 unfold lD at h
 by_cases h1:b<3
 ·rw[if_pos h1]at h;omega
 ·rw[if_neg h1]at h
  unfold uX at h
  by_cases h2:1<=b/\b<=32
  ·omega
  ·rw[if_neg h2]at h;omega
theorem LC {b:Int}(h:lD b=0):bP (List.replicate b.toNat blank)=0:=by
 obtain⟨h1,h2⟩:=OO h
 exact fP.2 ⟨by rw[List.length_replicate];omega,fun s hs=>by rw[(List.mem_replicate.1 hs).2];rfl⟩
structure BD (v wr:World)(b0:Nat)(g:Fl)(v6:Value)(F R:List ByteArray):Prop where
 cell:wr.heap[v.heap.size]? =some (.cells #[.slice g.a g.bl.length g.c] 29 (0,0))
 res:Rt wr b0 g F
 texts:dA wr v.heap.size v6 R
 apart:∀b,(Value.slice g.a g.bl.length g.c).ownBlock=some b->v6.ownBlock≠some b
 below:Below v.heap.size v wr
def RA (v:World)(b0:Nat)(F0:List ByteArray)(n:Nat)(v6 i:Value)(wr:World):Prop:=
 ∃(j:Nat)(g:Fl)(F R:List ByteArray)(D:List Ded)(k e:Nat),i=.int .i64 (j:Int)/\j<=n/\JInv F0 F R D k e/\BD v wr b0 g v6 F R
theorem BD.later {v wr w':World}{b0:Nat}{g:Fl}{v6:Value}{F R:List ByteArray}(h:BD v wr b0 g v6 F R)(hb:Below wr.heap.size wr w'):BD v w' b0 g v6 F R:=
 ⟨(hb.block _ (ZL h.cell)).trans h.cell,⟨h.res.own.below hb (GZ3 _),h.res.cap,h.res.is⟩,h.texts.below hb (GZ3 _),h.apart,h.below.trans (hb.mono h.below.size)⟩
theorem BD.put {v wr w':World}{b0:Nat}{g f':Fl}{v6:Value}{F F' R:List ByteArray}(h:BD v wr b0 g v6 F R)(hb:Below wr.heap.size wr w')(hr:Rt w' wr.heap.size f' F')(h0:b0<=wr.heap.size):
  BD v (w'.setCell ⟨v.heap.size,0,none⟩ (.slice f'.a f'.bl.length f'.c)) b0 f' v6 F' R:=by
 have hl:=h.later hb
 refine⟨heap_setCell_same w' v.heap.size 0 _ _ _ hl.cell,⟨(hr.own.eT hl.cell (by decide) 0 _).more h0,hr.cap,hr.is⟩,hl.texts.eT hl.cell (by decide) 0 _,?_,hl.below.setCell (p:=⟨v.heap.size,0,none⟩) (GZ3 _) _⟩
 intro b hb1 hb2
 have h1:=(EW hr.own hb1).2
 have h2:=(EW h.texts hb2).1
 omega
theorem BD.text {v wr w':World}{b0:Nat}{g:Fl}{v6 v6':Value}{F R R':List ByteArray}(h:BD v wr b0 g v6 F R)(ht:dA w' v.heap.size v6' R')(hg:wr.grownBy w' v6.ownBlock)(ho:v6'.ownBlock=v6.ownBlock\/v6'.ownBlock=some wr.heap.size)(hbv:Below v.heap.size wr w'):
  BD v w' b0 g v6' F R':=by
 refine⟨GX h.texts hg h.cell (by decide),⟨h.res.own.grown hg (fun b hb=>h.apart b hb),h.res.cap,h.res.is⟩,ht,?_,h.below.trans hbv⟩
 intro b hb1 hb2
 rcases ho with ho|ho
 ·exact h.apart b hb1 (ho▸hb2)
 ·rw[ho]at hb2
  have:=(EW h.res.own hb1).1
  injection hb2 with hb2
  omega
def OQ (w:World)(n:Int)(e:Ending)(w':World):Prop:=
 (∃(g:Fl)(F R:List ByteArray)(D:List Ded)(k j:Nat)(v6:Value),e=.returned (.tuple #[.agg #[.slice g.a g.bl.length g.c],v6,.bool true])/\JInv (List.replicate n.toNat blank) F R D k j/\Rt w' w.heap.size g F/\dA w' w.heap.size v6 R/\
    ∀b,(Value.slice g.a g.bl.length g.c).ownBlock=some b->v6.ownBlock≠some b)/\Below w.heap.size w w'
theorem Ux (n:Int)(rA:Option Addr)(rl:List ByteArray)(rc:Nat)(w:World)(h:jK w rA rl)(hE:lD n=0):
  Calls Tryz.prog 26 #[.int .i64 n,.slice rA rl.length rc] w (OQ w n):=by
 have hn63:=h.len
 unfold big at hn63
 have HROW:=Hp h.row
 have HEACH:=Hp h.each
 have cN:=Hp (fun W=>SL n W)
 obtain⟨w1,hw1⟩:=Nm (w.alloc (.cells #[.slice none 0 0] 29))
 obtain⟨_,hY1,hz1,hb1⟩:=jG hw1
 have hw1':=hw1.symm
 have HY1:=Hp hY1
 have HB1:=Hp hb1
 have HZ1:=Hp hz1
 obtain⟨F0,hF0⟩:=Nm (List.replicate n.toNat blank)
 rw[hE,SK rfl,<-hF0]at cN
 have HF0:=Hp (show bP F0=0 by rw[hF0];exact LC hE)
 have HJ0:=Hp (show Re (flat F0)=some (0,[],0) by rw[hF0];exact kR _)
 have HFR:=Hp hF0
 clear h hF0 hw1 hY1 hz1 hb1 hE
 go_enter Tryz.func26,Tryz.ntmps26
 go_wp2_with (first
  |(go_at_call 16;refine(cN.out _).mono ?_;rintro e w3 ⟨hb3,g0,rfl,hr3⟩
    obtain⟨w4,hw4⟩:=Nm (w3.alloc (.cells #[.slice g0.a g0.bl.length g0.c] 29))
    obtain⟨y4,hY4,hz4,hb4⟩:=jG hw4
    have hw4':=hw4.symm
    have HM4:=Hp (show BD w3 w4 w1.heap.size g0 (.slice none 0 0) F0 [] from
     ⟨hY4,⟨hr3.own.below hb4 (GZ3 _),hr3.cap,hr3.is⟩,dA.nil _ _,(fun b _ hb=>by cases hb),hb4⟩)
    have HB3:=Hp (HB1.trans (hb3.mono HB1.size))
    have HY3:=Hp ((hb3.block _ (by have:=HZ1.out;omega)).trans HY1.out)
    have HS3:=Hp (show w.heap.size<w3.heap.size by have:=hb3.size;have:=HZ1.out;omega)
    have HZ3:=Hp hb3.size
    clear hw4 hY4 hz4 hb3 hb4 hr3))
 go_loopw [9,10] (fun v6 i wr=>RA w3 w1.heap.size F0 rl.length v6 i wr) (fun _ i _=>rl.length -(intOf i).toNat)
 case atStart=>exact⟨0,g0,F0,[],[],0,0,rfl,Nat.zero_le _,JInv.start HF0.out HJ0.out,HM4.out⟩
 case round=>
  obtain⟨j,g,F,R,D,k,e,rfl,hj,hI,hM⟩:=hrel
  have HI:=Hp hI
  have HM:=Hp hM
  have y0:=cell_of_heap hM.cell 0
  have yf:=aQ hM.cell 0
  simp only[GZ2,GZ0]at y0
  have HBR:=Hp (HB3.trans (hM.below.mono HB3.size))
  by_cases hlt:j<rl.length/\j<20
  ·obtain⟨hlt,hl20⟩:=hlt
   have hlt':(j:Int)<rl.length:=by omega
   have hl20':(j:Int)<20:=by omega
   obtain⟨ad,rfl,hab,h0⟩:=nT HROW.out HBR.out j hlt
   have hsz:=HEACH.out _ (GZ9 hlt)
   obtain⟨s,hs⟩:=Nm (rl[j]'hlt)
   rw[<-hs]at h0 hsz
   have hgok:g.ok wr:=hM.res.ok (.inr hI.ok)
   have cA:=Hp (fun W(hW:Below wr.heap.size wr W)=>uG g s W (hgok.below hW) hsz)
   rw[hM.res.is]at cA
   obtain⟨EA,hEA⟩:=Nm (dF F s.size)
   obtain⟨FA,hFA⟩:=Nm (xU F (bytesOf s))
   rw[<-hEA,<-hFA]at cA
   have HEA:=Hp hEA
   have HFA:=Hp hFA
   have l1:w3.heap.size<wr.heap.size:=oG y0
   have l2:(ad.add j).block<wr.heap.size:=oG h0
   clear hs hI hM hgok hEA hFA hl20
   go_upto_region 8 with fail
   have HCH:=Hp (show fI wr (fun W'=>Below wr.heap.size wr W'/\W'.cell? ⟨w3.heap.size,0,none⟩=some (.slice g.a g.bl.length g.c)/\W'.cell? (ad.add j)=some (.string s)) from dE (by repeat' first|(with_reducible exact bC.cell (by first|omega|(simp;omega)|(simp only[aA];omega)))|refine bC.and ?_ ?_))
   have HC0:=Hp (HCH.now ⟨GZ4 _ _,by assumption,by assumption⟩)
   have HCD:=Hp HCH.D
   have HCS:=Hp HCH.S
   have HCA:=Hp HCH.A
   have HCX:=Hp HCH.X
   have HCL:=Hp HCH.L
   go_cut [11,12,13] from 32 to 41 (fun p _ e wx=>lM wr EA FA p e wx)
   case first=>
    have HZN:=Hp (show∀W':World,Below (wr.alloc (.cells #[.slice none 0 0] 29)).drew.heap.size (wr.alloc (.cells #[.slice none 0 0] 29)).drew W'->W'.heap[wr.heap.size]? =some (.cells #[.slice none 0 0] 29 (0,0)) from
     fun W' hb=>(hb.block wr.heap.size (by show wr.heap.size<(wr.alloc _).heap.size;simp)).trans (heap_alloc_new wr _))
    go_region_held3 (fun W'=>Below wr.heap.size wr W'/\W'.cell? ⟨w3.heap.size,0,none⟩=some (.slice g.a g.bl.length g.c)/\W'.cell? (ad.add j)=some (.string s)) (first|with_reducible exact HC0.out|with_reducible exact HCD.out _ HC0.out|with_reducible exact HCS.out _ _ (by assumption) (by assumption)|with_reducible exact HCS.out _ _ HC0.out (by assumption)|with_reducible exact HCS.out _ _ (HCD.out _ HC0.out) (by assumption)|with_reducible exact HCS.out _ _ (HCD.out _ (by assumption)) (by assumption)|with_reducible exact HCD.out _ (by assumption)|with_reducible exact HCA.out _ _ (by assumption)|with_reducible exact HCA.out _ _ HC0.out|with_reducible exact HCA.out _ _ (HCD.out _ HC0.out)|with_reducible exact HCD.out _ (HCA.out _ _ (by assumption))|with_reducible exact HCA.out _ _ (HCS.out _ _ HC0.out (by assumption))|with_reducible exact HCA.out _ _ (HCS.out _ _ (HCD.out _ HC0.out) (by assumption))|with_reducible exact HCX.out _ _ _ _ (GZ3 _) (by assumption)|with_reducible exact HCX.out _ _ _ _ (GZ3 _) (HCS.out _ _ (HCA.out _ _ HC0.out) (by assumption))|with_reducible exact HCX.out _ _ _ _ (GZ3 _) (HCS.out _ _ (HCD.out _ (HCA.out _ _ HC0.out)) (by assumption))|with_reducible assumption|exact HC0.out|exact HCD.out _ HC0.out|exact HCS.out _ _ (by assumption) (by assumption)|exact HCS.out _ _ HC0.out (by assumption)|exact HCS.out _ _ (HCD.out _ HC0.out) (by assumption)|exact HCS.out _ _ (HCD.out _ (by assumption)) (by assumption)|exact HCD.out _ (by assumption)|exact HCA.out _ _ (by assumption)|exact HCA.out _ _ HC0.out|exact HCA.out _ _ (HCD.out _ HC0.out)|exact HCD.out _ (HCA.out _ _ (by assumption))|exact HCA.out _ _ (HCS.out _ _ HC0.out (by assumption))|exact HCA.out _ _ (HCS.out _ _ (HCD.out _ HC0.out) (by assumption))|exact HCX.out _ _ _ _ (GZ3 _) (by assumption)|exact HCX.out _ _ _ _ (GZ3 _) (HCS.out _ _ (HCA.out _ _ HC0.out) (by assumption))|exact HCX.out _ _ _ _ (GZ3 _) (HCS.out _ _ (HCD.out _ (HCA.out _ _ HC0.out)) (by assumption))|assumption) (first|(go_at_call 27;(with_reducible refine(cA.out _ (HCL.out _ (by assumption))).mono ?_);rintro e w6 ⟨hb6,f',A6,c6,D6,rfl,hr6,_,_⟩;have hq6:=HCL.out _ (by assumption);have hbw6:=Hp (mR hq6 hb6);have hrw6:=Hp (hr6.down hq6.size);(try(have hz6:=HZN.out w6 hb6;have z6:=cell_of_heap hz6 0;have zf6:=aQ hz6 0;simp only[GZ2,GZ0]at z6))))
    all_goals(
     go_wp2_with fail
     go_meet
     first
      |exact lM.new hbw6.out hrw6.out
      |exact lM.old hz6 (GZ3 _) hbw6.out hrw6.out)
   case rest=>
    obtain⟨f',B9,rfl,rfl,hx9,hB9,hr7,hb7⟩:=hcut
    obtain⟨w7,rfl⟩:=Nm wc
    have z9:=cell_of_heap hx9 0
    simp only[GZ2,GZ0]at z9
    have h7:=(hb7.cell (p:=ad.add j) l2).trans h0
    have x7:=(hb7.cell (p:=⟨w3.heap.size,0,none⟩) l1).trans y0
    have x7f:=(hb7.frozen (p:=⟨w3.heap.size,0,none⟩) l1).trans yf
    have HB7:=Hp hb7
    have HR7:=Hp hr7
    clear HC0 HCD HCS HCA HCL HCX cA hx9 hr7
    by_cases t:EA=0
    ·subst t
     have HAP:=Hp (HI.next (s:=s) HEA.symm)
     have hFA2:=HFA.out
     unfold xU at hFA2
     rw[RB,<-HEA.out,SK rfl]at hFA2
     have HAP2:=Hp (show JInv F0 FA (R++[s]) (D++aW F (bytesOf s)) (k+1) (e+s.size) by rw[hFA2];exact HAP.out)
     have HM8:=Hp (HM.put HB7.out HR7.out (by have:=HM.below.size;have:=HZ3.out;omega))
     obtain⟨w8,hw8⟩:=Nm (w7.setCell ⟨w3.heap.size,0,none⟩ (.slice f'.a f'.bl.length f'.c))
     have h8:w8.cell? (ad.add j)=some (.string s):=by
      rw[hw8,World.cell?_setCell_other _ _ _ _ (by intro e;have:=congrArg Addr.block e;simp only at this;rw[aA]at this;have:=HM.below.size;have:=HZ3.out;have:=HB3.size;omega)]
      exact h7
     rw[<-hw8]at HM8
     have hw8':=hw8.symm
     obtain⟨w9,hw9⟩:=Nm (w8.alloc (.cells #[.string s] 9))
     have hb9:Below w8.heap.size w8 w9:=hw9▸ZB
     have HM9:=Hp (HM8.later hb9)
     have HR9:=Hp (show Row strCells 1 w9 (some ⟨w8.heap.size,0,none⟩) [s] from pF (enc:=strCells) (k:=1) (fun _=>rfl) (hw9▸heap_alloc_new _ _) rfl)
     have hw9':=hw9.symm
     have hRl:=HI.many
     obtain⟨hk5,he5⟩:=HI.bound
     have HL1:=Hp (show R.length+[s].length<=1000000 by simp only[List.length_singleton];omega)
     clear hFA2 hw8 hw9 hb9 hRl hk5 he5 h7
     go_wp2_with (first
      |(at_builtin;refine vK w9 rfl (.tmp 45) (.tmp 50) rfl w3.heap.size _ R rfl HM9.texts (some ⟨w8.heap.size,0,none⟩) 1 [s] rfl HR9.out HL1.out HM9.below.size ?_
        intro v6' w10 ht10 hb10 hg10 ho10
        have HM10:=Hp (HM9.text ht10 hg10 ho10 hb10)
        clear ht10 hb10 hg10 ho10))
     go_roundw
     case rel=>exact⟨j+1,f',FA,R++[s],D++aW F (bytesOf s),k+1,e+s.size,by go_num,hlt,HAP2.out,HM10.out⟩
     case measure=>(simp[intOf];try omega)
    ·have u1:(EA==0)=false:=by simp[t]
     have HM7:=Hp (HM.later HB7)
     clear t x7 x7f z9
     go_wp2_with fail
     go_roundw
     case rel=>exact⟨j+1,g,F,R,D,k,e,by go_num,hlt,HI.out,HM7.out⟩
     case measure=>(simp[intOf];try omega)
  ·have hnl:¬((j:Int)<rl.length)\/(rl.length:Int)>j/\¬((j:Int)<20):=by omega
   have HYR:=Hp ((hM.below.block _ HS3).trans HY3)
   have x0:=cell_of_heap HYR.out 0
   have xf:=aQ HYR.out 0
   simp only[GZ2,GZ0]at x0
   have l3:w.heap.size≠w3.heap.size:=by have:=HS3.out;omega
   clear hI hM hlt
   rcases hnl with hnl|⟨hnl,hn20⟩
   all_goals(
    go_wp2_with fail
    have hg:=heap_setCell_same wr w.heap.size 0 _ _ (.slice g.a g.bl.length g.c) HYR.out
    have hkp:Kp [29] wr (wr.setCell ⟨w.heap.size,0,none⟩ (.slice g.a g.bl.length g.c)):=Kp.set HYR.out (by simp) 0 _
    refine bodyPost_ret (dR rfl _ _ w.heap.size 29 _ (0,0) _ rfl hg Tryz.underlying29 rfl Tryz.jI) rfl ?_
    exact⟨⟨g,F,R,D,k,e,_,rfl,HFR.out▸HI.out,(HM.out.res.keep hkp (by decide)).down (by have:=HZ1.out;omega),RH (own_kp HM.out.texts hkp (by decide)) (by have:=HS3.out;omega),HM.out.apart⟩,HBR.out.setCell (p:=⟨w.heap.size,0,none⟩) (GZ3 _) _⟩)
theorem yQ (n:Int)(rA:Option Addr)(rl:List ByteArray)(rc:Nat)(w:World)(hE:lD n≠0):
  Calls Tryz.prog 26 #[.int .i64 n,.slice rA rl.length rc] w fun e w'=>e=.returned (.tuple #[.agg #[.slice none 0 0],.slice none 0 0,.bool false])/\Below w.heap.size w w':=by
 have cN:=Hp (fun W=>SL n W)
 obtain⟨w1,hw1⟩:=Nm (w.alloc (.cells #[.slice none 0 0] 29))
 obtain⟨_,hY1,hz1,hb1⟩:=jG hw1
 have hw1':=hw1.symm
 have HY1:=Hp hY1
 have HB1:=Hp hb1
 have HZ1:=Hp hz1
 obtain⟨E,hF⟩:=Nm (lD n)
 rw[<-hF]at cN hE
 have t':(E != 0)=true:=by simp[hE]
 clear hw1 hY1 hz1 hb1 hF hE
 go_enter Tryz.func26,Tryz.ntmps26
 go_wp2_with (first
  |(go_at_call 16;refine(cN.out _).mono ?_;rintro e w3 ⟨hb3,g0,rfl,hr3⟩
    obtain⟨w4,hw4⟩:=Nm (w3.alloc (.cells #[.slice g0.a g0.bl.length g0.c] 29))
    obtain⟨y4,hY4,hz4,hb4⟩:=jG hw4
    have hw4':=hw4.symm
    have HB4:=Hp (HB1.trans ((hb3.trans (hb4.mono hb3.size)).mono HB1.size))
    have HY4:=Hp (((hb3.trans (hb4.mono hb3.size)).block _ (by have:=HZ1.out;omega)).trans HY1.out)
    have x4:=cell_of_heap HY4.out 0
    have xf:=aQ HY4.out 0
    simp only[GZ2,GZ0]at x4
    clear hw4 hY4 hz4 hb3 hb4 hr3))
 have hg:=heap_setCell_same w4 w.heap.size 0 _ _ (.slice none 0 0) HY4.out
 refine bodyPost_ret (dR rfl _ _ w.heap.size 29 _ (0,0) _ rfl hg Tryz.underlying29 rfl Tryz.jI) rfl ?_
 exact⟨rfl,HB4.setCell (p:=⟨w.heap.size,0,none⟩) (GZ3 _) _⟩
end
section
open Go.ChangeShapes Go.WideShapes Go.ChangeAt Go.RowKit Go.Deep
theorem LY {H:Type}{enc:TypeId×Value->H}{w:World}{base:Nat}{spare:Nat->Bool}{held:Bool}{n:Nat}{c:Value}{y:DataW H×List MemPlace}{α:Type}(encE:α->List Value)(k:Nat)(hk:∀x,(encE x).length=k)(hk0:0<k)(Q:α->Prop){t e:TypeId}(ht:Tryz.prog.underlying t=some (.slice e))(hb0:0<Tryz.prog.bytesOf e)(hC:Tryz.prog.cellsOf e=k)
  (hE:∀(cs':List Value)(n':Nat)(z:DataW H×List MemPlace),cs'.length=k->DataW.trod enc Tryz.prog w base spare held n' e cs'=some z->Fits Tryz.prog e z.1->∃x:α,cs'=encE x/\Q x)
  (h:DataW.trod enc Tryz.prog w base spare held n t [c]=some y) (hF:Fits Tryz.prog t y.1):∃(A:Option Addr)(l:List α)(cap:Nat),c=.slice A l.length cap/\l.length<=big/\(∀x∈l,Q x)/\Row encE k w A l/\l.length<=cap/\cap<=maxLen:=by
 obtain⟨A,l,cap,rfl,h1,h2,h3⟩:=open_row encE k hk hk0 Q ht hb0 hC hE h hF
 refine⟨A,l,cap,rfl,h1,h2,h3,?_⟩
 rcases open_slice ht h with⟨e1,_⟩|⟨a,len,cap',m,n',D,Pl,e1,_,hl,hm,_⟩
 ·simp only[List.cons.injEq,and_true,Value.slice.injEq]at e1
  obtain⟨_,e2,e3⟩:=e1
  rw[e2,e3];exact⟨GZ3 _,Nat.zero_le _⟩
 ·simp only[List.cons.injEq,and_true,Value.slice.injEq]at e1
  obtain⟨_,e2,e3⟩:=e1
  rw[e2,e3];exact⟨hl,hm⟩
theorem Qk {l:List Value}(h:l.length=1):∃a,l=[a]:=by
 match l,h with| [a],_=>exact⟨a,rfl⟩
section
variable {H:Type} {enc:TypeId×Value->H} {w:World} {base:Nat} {spare:Nat->Bool} {held:Bool} {r:Reach} {b0:Nat} {v:Value} {d:DataW H} {p:List MemPlace} {n:Nat} {c:Value} {cs:List Value} {y:DataW H×List MemPlace}
theorem Il (h:DataW.trod enc Tryz.prog w base spare held n 27 [c]=some y)(hF:Fits Tryz.prog 27 y.1):∃(A:Option Addr)(l:List ByteArray)(cap:Nat),c=.slice A l.length cap/\jK w A l/\l.length<=cap:=by
 obtain⟨A,l,cap,e,h1,h2,h3,h4,_⟩:=LY strCells 1 (fun _=>rfl) (by omega) (fun s=>s.size<=big) Tryz.underlying27 (by decide+kernel) (by kernel_rfl) (fun cs' _ _ hl ht hf=>by
  obtain⟨a,rfl⟩:=Qk hl
  obtain⟨s,rfl,hs⟩:=nD ht
  exact⟨s,rfl,hs hf⟩) h hF
 exact⟨A,l,cap,e,⟨h3,h1,h2⟩,h4⟩
end
end
section
open Go.ChangeShapes Go.WideShapes Go.ChangeAt Go.RowKit Go.Deep
section
variable {H:Type} {enc:TypeId×Value->H} {w:World} {base:Nat} {spare:Nat->Bool} {held:Bool} {r:Reach} {b0:Nat} {v:Value} {d:DataW H} {p:List MemPlace} {n:Nat} {c:Value} {cs:List Value} {y:DataW H×List MemPlace}
theorem Ab (hv:Value.okWide Tryz.prog w r b0 27 v)(h:DataW.Trod enc Tryz.prog w base spare held 27 v d p)(hF:Fits Tryz.prog 27 d):
  ∃(A:Option Addr)(l:List ByteArray)(cap:Nat),v=.slice A l.length cap/\jK w A l/\l.length<=cap:=by
 obtain⟨a,len,cap,rfl⟩:=okWide_slice Tryz.underlying27 hv
 obtain⟨fuel,hf⟩:=h
 exact Il (c:=.slice a len cap) hf hF
end
end
end Go.Proofs.YtjiedaialianmaaGreat
