import Derived.Test.YtjiedaialianmaaGreatA24
open Go
set_option maxRecDepth 100000
set_option maxHeartbeats 8000000
namespace Go.Proofs.YtjiedaialianmaaGreat
open Go.RowKit Go.Lib
open Gs (Tx)
theorem Qm :lD 10=0:=by kernel_rfl
theorem IE (A A':Option Addr)(c c':Nat)(W:World)(h:jN W A [0,0,4,0])(h':jN W A' [0,0,4,0]):Calls Tryz.prog 21 #[.slice A 4 c,.slice A' 4 c'] W fun e w'=>e=.returned (.bool true)/\Below W.heap.size W w':=
 fO A A' c c' [0,0,4,0] W h h' (by unfold big;simp)
theorem Oz (X:World):jN (X.alloc (.cells #[.int .i64 0,.int .i64 0,.int .i64 4,.int .i64 0] 30)) (some ⟨X.heap.size,0,none⟩) [0,0,4,0]:=Ry (enc:=fun n=>[iv n]) (k:=1) (fun _=>rfl) (heap_alloc_new X _) rfl
theorem Mc (X:World):jN (X.alloc (.cells #[.int .i64 0,.int .i64 0,.int .i64 4,.int .i64 0] 30)).drew (some ⟨X.heap.size,0,none⟩) [0,0,4,0]:=Oz X
theorem Mq {k k':Krn}{A A':Option Addr}{l l':List Plc}{c c':Nat}{W:World}(h:dL W k A l)(h':dL W k' A' l')(hn:l.length=2)(hn':l'.length=2)(hk:k.bare=k'.bare)(hl:aD l=aD l'):
  Calls Tryz.prog 22 #[.agg #[.int .i64 k.major,.int .i64 k.minor,.slice k.eA k.ex.length k.eC,.slice A 2 c],.agg #[.int .i64 k'.major,.int .i64 k'.minor,.slice k'.eA k'.ex.length k'.eC,.slice A' 2 c']] W fun e w'=>e=.returned (.bool true)/\Below W.heap.size W w':=by
 have:=Rw k k' A A' c c' l l' W h.1 h.2 h'.1 h'.2 hk hl
 unfold rgV at this
 rwa [hn,hn']at this
theorem Mi (m:Mod)(W:World)(h:m.ok W)(hs:gI m zeroMod):
  Calls Tryz.prog 66 #[.agg #[.int .i64 2,.string m.name,.int .i64 m.major,.int .i64 m.minor,.string m.text,.slice m.eA m.ex.length m.eC,.slice m.iA m.im.length m.iC,.slice m.pA m.pa.length m.pC,.string ⟨#[108,105,98]⟩],.agg #[.int .i64 2,.string ⟨#[]⟩,.int .i64 0,.int .i64 0,.string ⟨#[]⟩,.slice none 0 0,.slice none 0 0,.slice none 0 0,.string ⟨#[108,105,98]⟩]] W fun e w'=>e=.returned (.bool true)/\Below W.heap.size W w':=
 nN ⟨2,m,⟨#[108,105,98]⟩⟩ ⟨2,zeroMod,⟨#[108,105,98]⟩⟩ W h (zero_ok W) (by show(⟨#[108,105,98]⟩:ByteArray).size<=big;decide) rfl hs rfl
theorem QS :RL ⟨2,jB,⟨#[108,105,98]⟩⟩=0:=by kernel_rfl
theorem Oh :aS [2,108,105,98]=(0,⟨2,zeroMod,⟨#[108,105,98]⟩⟩):=by kernel_rfl
def BF (w1:World)(p e:Value)(wx:World):Prop:=
 ∃(k':Krn)(A':Option Addr)(l':List Plc)(c' B:Nat),p=.pointer (some ⟨B,0,none⟩)/\e=.int .i64 0/\wx.heap[B]? =some (.cells #[.int .i64 k'.major,.int .i64 k'.minor,.slice k'.eA k'.ex.length k'.eC,.slice A' 2 c'] 39 (0,0))/\w1.heap.size<=B/\dL wx k' A' l'/\k'.bare=(RU none 0).bare/\aD l'=aD sbL/\l'.length=2/\Below w1.heap.size w1 wx
theorem BF.new {w1 w9:World}{k':Krn}{A':Option Addr}{l':List Plc}{c':Nat}(hb:Below w1.heap.size w1 w9)(h:dL w9 k' A' l')(h1:k'.bare=(RU none 0).bare)(h2:aD l'=aD sbL)(h3:l'.length=2):
  BF w1 (.pointer (some ⟨w9.heap.size,0,none⟩)) (.int .i64 0) (w9.alloc (.cells #[.int .i64 k'.major,.int .i64 k'.minor,.slice k'.eA k'.ex.length k'.eC,.slice A' 2 c'] 39)):=by
 have ha:Below w9.heap.size w9 (w9.alloc (.cells #[.int .i64 k'.major,.int .i64 k'.minor,.slice k'.eA k'.ex.length k'.eC,.slice A' 2 c'] 39)):=ZB
 exact⟨k',A',l',c',_,rfl,rfl,heap_alloc_new _ _,hb.size,h.below ha,h1,h2,h3,hb.trans (ha.mono hb.size)⟩
theorem BF.old {w1 w9:World}{k':Krn}{A':Option Addr}{l':List Plc}{c' B:Nat}(hz:w9.heap[B]? =some (.cells #[.int .i64 0,.int .i64 0,.slice none 0 0,.slice none 0 0] 39 (0,0)))(hB:w1.heap.size<=B)(hb:Below w1.heap.size w1 w9)(h:dL w9 k' A' l')(h1:k'.bare=(RU none 0).bare)(h2:aD l'=aD sbL)(h3:l'.length=2):
  BF w1 (.pointer (some ⟨B,0,none⟩)) (.int .i64 0) ((((w9.setCell ⟨B,0,none⟩ (.int .i64 k'.major)).setCell ⟨B,1,none⟩ (.int .i64 k'.minor)).setCell ⟨B,2,none⟩ (.slice k'.eA k'.ex.length k'.eC)).setCell ⟨B,3,none⟩ (.slice A' 2 c')):=by
 obtain⟨hg,ho⟩:=gY hz (.int .i64 k'.major) (.int .i64 k'.minor) (.slice k'.eA k'.ex.length k'.eC) (.slice A' 2 c')
 exact⟨k',A',l',c',B,rfl,rfl,hg,hB,h.other ⟨_,_,_,_,_,_,_,_,hz⟩ ho,h1,h2,h3,hb.trans ((ho.below (GY2 (ZL hz))).mono hB)⟩
def uO (w1:World)(p v e:Value)(wx:World):Prop:=
 ∃(f':Fl)(eA:Option Addr)(ec B:Nat),p=.pointer (some ⟨B,0,none⟩)/\v=.slice eA 4 ec/\e=.int .i64 0/\wx.heap[B]? =some (.cells (flA f') 29 (0,0))/\w1.heap.size<=B/\Rt wx w1.heap.size f' f'.bl/\Nq f'.bl/\dN wx w1.heap.size (.slice eA 4 ec) [0,0,4,0]/\Below w1.heap.size w1 wx
theorem Qi {w1 W w9:World}{f':Fl}{eA:Option Addr}{ec:Nat}(hb:Below w1.heap.size w1 W)(hb9:Below W.heap.size W w9)(hr:Rt w9 W.heap.size f' f'.bl)(ho:dN w9 W.heap.size (.slice eA 4 ec) [0,0,4,0]):Below w1.heap.size w1 w9/\Rt w9 w1.heap.size f' f'.bl/\dN w9 w1.heap.size (.slice eA 4 ec) [0,0,4,0]:=
 ⟨hb.trans (hb9.mono hb.size),hr.down hb.size,RH ho hb.size⟩
theorem uO.new {w1 w9:World}{f':Fl}{eA:Option Addr}{ec:Nat}(hb:Below w1.heap.size w1 w9)(hr:Rt w9 w1.heap.size f' f'.bl)(hF:Nq f'.bl)(ho:dN w9 w1.heap.size (.slice eA 4 ec) [0,0,4,0]):
  uO w1 (.pointer (some ⟨w9.heap.size,0,none⟩)) (.slice eA 4 ec) (.int .i64 0) (w9.alloc (.cells #[.slice f'.a f'.bl.length f'.c] 29)):=by
 have ha:Below w9.heap.size w9 (w9.alloc (.cells #[.slice f'.a f'.bl.length f'.c] 29)):=ZB
 exact⟨f',eA,ec,_,rfl,rfl,rfl,heap_alloc_new _ _,hb.size,hr.keep (Kp.of_below (ts:=[]) ha) (by simp),hF,aO ho ha,hb.trans (ha.mono hb.size)⟩
theorem uO.old {w1 w9:World}{f':Fl}{eA:Option Addr}{ec B:Nat}{x:Value}(hz:w9.heap[B]? =some (.cells #[x] 29 (0,0)))(hB:w1.heap.size<=B)(hb:Below w1.heap.size w1 w9)(hr:Rt w9 w1.heap.size f' f'.bl)(hF:Nq f'.bl)(ho:dN w9 w1.heap.size (.slice eA 4 ec) [0,0,4,0]):
  uO w1 (.pointer (some ⟨B,0,none⟩)) (.slice eA 4 ec) (.int .i64 0) (w9.setCell ⟨B,0,none⟩ (.slice f'.a f'.bl.length f'.c)):=by
 have hk:Kp [29] w9 (w9.setCell ⟨B,0,none⟩ (.slice f'.a f'.bl.length f'.c)):=Kp.set hz (by simp) 0 _
 exact⟨f',eA,ec,B,rfl,rfl,rfl,heap_setCell_same w9 B 0 _ _ _ hz,hB,hr.keep hk (by decide),hF,own_kp ho hk (by decide),hb.setCell (p:=⟨B,0,none⟩) hB _⟩
theorem drop_at {l t:List Oper}{i:Nat}{o:Oper}(h:l.drop i=o::t):l.toArray[i]? =some o:=by
 rw[GZ2,<-List.head?_drop,h];rfl
theorem aM {P:Program}{md:Region.Mode}{l t:List Oper}{Q:Exit->Act->World->Prop}{S:World->Prop}{i:Nat}{oi:Oper}{v:Value}{fuel:Nat}{listed:Array Bool}{a:Act}{w:World}(hi:l.drop i=oi::t)
  (hs:Region.noSelect l.toArray=true) (hf:Region.free md l.toArray listed i=true) (hr:(Region.ready md l.toArray listed).contains i=true)
  (hQ:∀c a w,Q (.panic c) (a.put oi.dst v) w->Q (.panic c) a w) (hw:Region.wanted oi (yielded l.toArray a.tmps)=true) (hy:∀w,S w->(execOp a.eval oi).run P w=.ok (.value v) w) (hS:S w)
  (h:wpAnyH P md l.toArray Q S fuel (listed.setIfInBounds i true) (a.put oi.dst v) w):wpAnyH P md l.toArray Q S (fuel+1) listed a w:=
 wpAnyH_take (drop_at hi) hs hf hr hQ (.inl ⟨hw,hy⟩) hS h
theorem TE {P:Program}{md:Region.Mode}{l t:List Oper}{Q:Exit->Act->World->Prop}{S:World->Prop}{i:Nat}{oi:Oper}{fuel:Nat}{listed:Array Bool}{a:Act}{w:World}(hi:l.drop i=oi::t)(hr:Region.ready md l.toArray listed=[i])
  (h:∀K':Act->World->Prop,Shut (∀a w,S w->(S w->wpAnyH P md l.toArray Q S fuel (listed.setIfInBounds i true) a w)->K' a w)->if Region.wanted oi (yielded l.toArray a.tmps)=true then Oper.wp P oi a w K' Q else K' (a.put oi.dst undef) w):wpAnyH P md l.toArray Q S (fuel+1) listed a w:=
 wpAnyH_ready hr (by simp) (AllReadyH.cons (drop_at hi) h AllReadyH.nil)
theorem dG (w:World):Calls Tryz.prog 12 #[] w fun e w'=>e=.returned (.bool true)/\Below w.heap.size w w':=by
 go_enter Tryz.func12,Tryz.ntmps12
 go_wp2_with fail
 refine(Sn _).mono ?_;rintro e w1 ⟨⟨A,c,rfl,hk1⟩,hb1⟩
 go_wp2_with fail
 refine(vB _).mono ?_;rintro e w2 ⟨⟨cA,cc,b1,b2,b3,a1,a2,a3,b4,b5,b6,a4,a5,a6,rfl,hc2⟩,hb2⟩
 have cR:=Hp (Ku A c cA cc b1 b2 b3 a1 a2 a3 b4 b5 b6 a4 a5 a6 w2 (hk1.below hb2) hc2)
 have HB2:=Hp (hb1.trans (hb2.mono hb1.size))
 clear hk1 hb1 hb2 hc2
 go_wp2_with fail
 refine(cR.out).mono ?_;rintro e w3 ⟨⟨k3,A3,l3,c3,eA3,ec3,rfl,ht3,hk3,hl3,hn3,hr3⟩,hb3⟩
 obtain⟨w4,hw4⟩:=Nm (w3.alloc (.cells #[.int .i64 k3.major,.int .i64 k3.minor,.slice k3.eA k3.ex.length k3.eC,.slice A3 2 c3] 39))
 have hb4:Below w3.heap.size w3 w4:=hw4▸ZB
 have HG4:=Hp (show w4.heap[w3.heap.size]? =some (.cells #[.int .i64 k3.major,.int .i64 k3.minor,.slice k3.eA k3.ex.length k3.eC,.slice A3 2 c3] 39 (0,0)) by rw[hw4];exact heap_alloc_new w3 _)
 have HT4:=Hp (ht3.below hb4)
 have HER4:=Hp (show jN w4 eA3 [0,0,4,0] from Row.below hr3 hb4)
 have HKE:=Hp hk3
 have HLE:=Hp hl3
 have HN3:=Hp hn3
 have HB4:=Hp (HB2.trans ((hb3.mono HB2.size).trans (hb4.mono (GY1 HB2.size hb3.size))))
 have hw4':=hw4.symm
 clear hw4 hb3 hb4 ht3 hk3 hl3 hn3 hr3 cR
 go_wp2_with fail
 have cF:=SL 10 w4
 rw[Qm]at cF
 refine cF.mono ?_;rintro e w5 ⟨hb5,f5,rfl,hr5⟩
 obtain⟨w6,hw6⟩:=Nm (w5.alloc (.cells #[.slice f5.a f5.bl.length f5.c] 29))
 have hb6:Below w5.heap.size w5 w6:=hw6▸ZB
 have hF5:f5.bl=sbF:=hr5.is
 have hok5:=hr5.ok (.inr Bp)
 have hb46:=hb5.trans (hb6.mono hb5.size)
 have HF6:=Hp (show w6.heap[w5.heap.size]? =some (.cells #[.slice f5.a f5.bl.length f5.c] 29 (0,0)) by rw[hw6];exact heap_alloc_new w5 _)
 have HO6:=Hp (hok5.below hb6)
 have HFB:=Hp hF5
 have HG6:=Hp (aF hb46 HG4)
 have HT6:=Hp (HT4.below hb46)
 have HER6:=Hp (show jN w6 eA3 [0,0,4,0] from Row.below HER4.out hb46)
 have HB6:=Hp (HB4.trans (hb46.mono HB4.size))
 have l6:w5.heap.size<w6.heap.size:=(ZL HF6.out)
 have y6:=heap_cell HF6.out 0
 simp only[GZ2,GZ0]at y6
 have hw6':=hw6.symm
 clear hw6 hb5 hb6 hb46 hF5 hok5 hr5
 go_upto_region 3 with fail
 try rw[hw6']
 have HCH:=Hp (show fI w6 (fun W'=>Below w6.heap.size w6 W'/\W'.cell? ⟨w5.heap.size,0,none⟩=some (.slice f5.a f5.bl.length f5.c)) from dE (by repeat' first|(with_reducible exact bC.cell (by first|omega|(simp;omega)|(simp only[aA];omega)))|refine bC.and ?_ ?_))
 have HC0:=Hp (HCH.now ⟨GZ4 _ _,by assumption⟩)
 have HCD:=Hp HCH.D
 have HCS:=Hp HCH.S
 have HCA:=Hp HCH.A
 have HCX:=Hp HCH.X
 have HCL:=Hp HCH.L
 go_cut [6,7,8] from 27 to 34 (fun p v e wx=>uO w6 p v e wx)
 case first=>
  have HZN:=Hp (show∀W':World,Below (w6.alloc (.cells #[.slice none 0 0] 29)).drew.heap.size (w6.alloc (.cells #[.slice none 0 0] 29)).drew W'->W'.heap[w6.heap.size]? =some (.cells #[.slice none 0 0] 29 (0,0)) from
   fun W' hb=>(hb.block w6.heap.size (by show w6.heap.size<(w6.alloc _).heap.size;simp)).trans (heap_alloc_new w6 _))
  have HZM:=Hp (show∀W2 W':World,Below (W2.alloc (.cells #[.slice none 0 0] 29)).heap.size (W2.alloc (.cells #[.slice none 0 0] 29)) W'->W'.heap[W2.heap.size]? =some (.cells #[.slice none 0 0] 29 (0,0)) from
   fun W2 W' hb=>(hb.block W2.heap.size (by simp)).trans (heap_alloc_new W2 _))
  have HAL:=Hp (show∀(W:World)(o:Obj),Below W.heap.size W (W.alloc o) from fun W o=>(GZ4 _ _).alloc (GZ3 _) o)
  go_region_held3 (fun W'=>Below w6.heap.size w6 W'/\W'.cell? ⟨w5.heap.size,0,none⟩=some (.slice f5.a f5.bl.length f5.c)) (first|with_reducible exact HC0.out|with_reducible exact HCD.out _ HC0.out|with_reducible assumption|with_reducible exact HCS.out _ _ HC0.out HBP.out|with_reducible exact HCS.out _ _ HC0.out HBC.out|with_reducible exact HCS.out _ _ HC0.out HBK.out|with_reducible exact HCA.out _ _ (HCD.out _ HC0.out)|with_reducible exact HCA.out _ _ HC0.out|with_reducible exact HCD.out _ (HCA.out _ _ HC0.out)|with_reducible exact HCA.out _ _ (HCS.out _ _ HC0.out HBP.out)|with_reducible exact HCA.out _ _ (HCS.out _ _ HC0.out HBC.out)|with_reducible exact HCA.out _ _ (HCS.out _ _ HC0.out HBK.out)|with_reducible exact HCX.out _ _ _ _ HZL.out (HCS.out _ _ HC0.out HBP.out)|with_reducible exact HCX.out _ _ _ _ HBP.out.size (HCA.out _ _ (HCS.out _ _ HC0.out HBP.out))) (first
   |(go_at_call 69;(with_reducible refine(Sn _).mono ?_);rintro e w7 ⟨⟨A7,c7,rfl,hk7⟩,hb7⟩;have HBK:=Hp (mR (HCL.out _ (by assumption)) hb7);have HKK:=Hp hk7;(first|(have HCM:=Hp (HCC.out.below hb7);have HKL:=Hp hk7;have HBL:=Hp HBK.out)|(have HCM:=Hp ((HCC.out.below (HAL.out _ _)).below hb7);have HKL:=Hp hk7;have HBL:=Hp HBK.out)|skip);(first|(have hz2:=aF hb7 hz1)|(have hz2:=HZM.out w8 w7 hb7;have HZL:=Hp HBC.out.size)|(have hz1:=HZN.out w7 hb7;have HZL:=Hp (GZ3 w6.heap.size))|skip))
   |(go_at_call 70;(with_reducible refine(vB _).mono ?_);rintro e w8 ⟨⟨cA8,cc8,d1,d2,d3,d4,d5,d6,g1,g2,g3,g4,g5,g6,rfl,hc8⟩,hb8⟩;have HBC:=Hp (mR (HCL.out _ (by assumption)) hb8);have HCC:=Hp hc8;(first|(have HKL:=Hp (HKK.out.below hb8);have HCM:=Hp hc8;have HBL:=Hp HBC.out)|(have HKL:=Hp ((HKK.out.below (HAL.out _ _)).below hb8);have HCM:=Hp hc8;have HBL:=Hp HBC.out)|skip);(first|(have hz2:=aF hb8 hz1)|(have hz2:=HZM.out w7 w8 hb8;have HZL:=Hp HBK.out.size)|(have hz1:=HZN.out w8 hb8;have HZL:=Hp (GZ3 w6.heap.size))|skip))
   |(go_at_call 18;(first|(with_reducible refine(Ao A7 c7 f5 cA8 cc8 d1 d2 d3 d4 d5 d6 g1 g2 g3 g4 g5 g6 _ HKL.out (HO6.out.below HBL.out) HFB.out HCM.out).mono ?_)|(with_reducible refine(Ao A7 c7 f5 cA8 cc8 d1 d2 d3 d4 d5 d6 g1 g2 g3 g4 g5 g6 _ (HKL.out.below (HAL.out _ _)) ((HO6.out.below HBL.out).below (HAL.out _ _)) HFB.out (HCM.out.below (HAL.out _ _))).mono ?_));rintro e w9 ⟨⟨f9,eA9,ec9,rfl,hr9,hF9,ho9⟩,hb9⟩;obtain⟨hbp,hrp,hop⟩:=Qi (HCL.out _ (by assumption)) hb9 hr9 ho9;have HBP:=Hp hbp;have HRP:=Hp hrp;have HOP:=Hp hop;have HFP:=Hp hF9;(first|(have hz3:=aF hb9 hz2;have z3:=heap_cell hz3 0;have zf3:=heap_free hz3 0;simp only[GZ2,GZ0]at z3)|(have hz3:=HZM.out w8 w9 hb9;have HZL:=Hp HBC.out.size;have z3:=heap_cell hz3 0;have zf3:=heap_free hz3 0;simp only[GZ2,GZ0]at z3)|(have hz3:=HZM.out w7 w9 hb9;have HZL:=Hp HBK.out.size;have z3:=heap_cell hz3 0;have zf3:=heap_free hz3 0;simp only[GZ2,GZ0]at z3)|skip)))
  all_goals(
   go_wp2_with fail
   go_meet
   first
    |exact uO.new HBP.out HRP.out HFP.out HOP.out
    |exact uO.old hz3 HZL.out HBP.out HRP.out HFP.out HOP.out)
 case rest=>
  obtain⟨f9,eA9,ec9,B9,rfl,rfl,rfl,hh9,hB9,hr9,hF9,ho9,hb9⟩:=hcut
  obtain⟨w9,rfl⟩:=Nm wc
  have HG9:=Hp (aF hb9 HG6)
  have HT9:=Hp (HT6.below hb9)
  have HER9:=Hp (show jN w9 eA3 [0,0,4,0] from Row.below HER6.out hb9)
  have HEP9:=Hp (show jN w9 eA9 [0,0,4,0] by have:=Reads.of_own ho9;rwa [qJ]at this)
  have HB9:=Hp (HB6.trans (hb9.mono HB6.size))
  have HO9:=Hp (hr9.ok (.inr hF9.ok))
  have HSF:=Hp hF9
  have y9:=heap_cell hh9 0
  have l9:B9<w9.heap.size:=(ZL hh9)
  simp only[GZ2,GZ0]at y9
  clear HC0 HCD HCS HCA HCL HCX hh9 hB9 hr9 hF9 ho9 hb9 y6 l6 hw6' hw4' HF6 HO6 HFB
  go_upto_region 4 with fail
  have HUH:=Hp (show fI w9 (fun W'=>Below w9.heap.size w9 W'/\W'.cell? ⟨B9,0,none⟩=some (.slice f9.a f9.bl.length f9.c)) from dE (by repeat' first|(with_reducible exact bC.cell (by first|omega|(simp;omega)|(simp only[aA];omega)))|refine bC.and ?_ ?_))
  have HU0:=Hp (HUH.now ⟨GZ4 _ _,by assumption⟩)
  have HUD:=Hp HUH.D
  have HUS:=Hp HUH.S
  have HUA:=Hp HUH.A
  have HUX:=Hp HUH.X
  have HUL:=Hp HUH.L
  go_cut [9,10] from 35 to 40 (fun p e wx=>BF w9 p e wx)
  case first=>
   have HZN:=Hp (show∀W':World,Below (w9.alloc (.cells #[.int .i64 0,.int .i64 0,.slice none 0 0,.slice none 0 0] 39)).drew.heap.size (w9.alloc (.cells #[.int .i64 0,.int .i64 0,.slice none 0 0,.slice none 0 0] 39)).drew W'->W'.heap[w9.heap.size]? =some (.cells #[.int .i64 0,.int .i64 0,.slice none 0 0,.slice none 0 0] 39 (0,0)) from
    fun W' hb=>(hb.block w9.heap.size (by show w9.heap.size<(w9.alloc _).heap.size;simp)).trans (heap_alloc_new w9 _))
   have HZM:=Hp (show∀W2 W':World,Below (W2.alloc (.cells #[.int .i64 0,.int .i64 0,.slice none 0 0,.slice none 0 0] 39)).heap.size (W2.alloc (.cells #[.int .i64 0,.int .i64 0,.slice none 0 0,.slice none 0 0] 39)) W'->W'.heap[W2.heap.size]? =some (.cells #[.int .i64 0,.int .i64 0,.slice none 0 0,.slice none 0 0] 39 (0,0)) from
    fun W2 W' hb=>(hb.block W2.heap.size (by simp)).trans (heap_alloc_new W2 _))
   have HAL:=Hp (show∀(W:World)(o:Obj),Below W.heap.size W (W.alloc o) from fun W o=>(GZ4 _ _).alloc (GZ3 _) o)
   have HX4:=Hp (show∀(W:World),(Below w9.heap.size w9 W/\W.cell? ⟨B9,0,none⟩=some (.slice f9.a f9.bl.length f9.c))->∀(b:Nat),w9.heap.size<=b->∀v0 v1 v2 v3 W2,W2=(((W.setCell ⟨b,0,none⟩ v0).setCell ⟨b,1,none⟩ v1).setCell ⟨b,2,none⟩ v2).setCell ⟨b,3,none⟩ v3->(Below w9.heap.size w9 W2/\W2.cell? ⟨B9,0,none⟩=some (.slice f9.a f9.bl.length f9.c)) from
    fun W hc b hb v0 v1 v2 v3 W2 e=>e▸HUX.out _ b 3 v3 hb (HUX.out _ b 2 v2 hb (HUX.out _ b 1 v1 hb (HUX.out _ b 0 v0 hb hc))))
   go_region_held3 (fun W'=>Below w9.heap.size w9 W'/\W'.cell? ⟨B9,0,none⟩=some (.slice f9.a f9.bl.length f9.c)) (first|with_reducible exact HU0.out|with_reducible exact HUD.out _ HU0.out|with_reducible assumption|with_reducible exact HUS.out _ _ HU0.out HBP.out|with_reducible exact HUS.out _ _ HU0.out HBK.out|with_reducible exact HUA.out _ _ (HUD.out _ HU0.out)|with_reducible exact HUA.out _ _ HU0.out|with_reducible exact HUD.out _ (HUA.out _ _ HU0.out)|with_reducible exact HUA.out _ _ (HUS.out _ _ HU0.out HBP.out)|with_reducible exact HUA.out _ _ (HUS.out _ _ HU0.out HBK.out)|with_reducible exact HX4.out _ (HUS.out _ _ HU0.out HBP.out) _ HZL.out _ _ _ _ _ rfl|with_reducible exact HX4.out _ (HUA.out _ _ (HUS.out _ _ HU0.out HBP.out)) _ HBP.out.size _ _ _ _ _ rfl) (first
    |(go_at_call 69;(with_reducible refine(Sn _).mono ?_);rintro e w10 ⟨⟨A10,c10,rfl,hk10⟩,hb10⟩;have HBK:=Hp (mR (HUL.out _ (by assumption)) hb10);have HKK:=Hp hk10;(first|(have hz1:=HZN.out w10 hb10;have HZL:=Hp (GZ3 w9.heap.size))|skip))
    |(go_at_call 20;(first|(with_reducible refine(UW A10 c10 f9 _ HKK.out (HO9.out.below HBK.out) HSF.out).mono ?_)|(with_reducible refine(UW A10 c10 f9 _ (HKK.out.below (HAL.out _ _)) ((HO9.out.below HBK.out).below (HAL.out _ _)) HSF.out).mono ?_));rintro e w11 ⟨⟨k11,A11,l11,c11,rfl,ht11,hk11,hl11,hn11⟩,hb11⟩;have HBP:=Hp (mR (HUL.out _ (by assumption)) hb11);have HTP:=Hp ht11;have HKP:=Hp hk11;have HLP:=Hp hl11;have HNP:=Hp hn11;clear ht11 hk11 hl11 hn11;(first|(have hz3:=aF hb11 hz1;obtain⟨_,z0,z1,z2,z3,zf0,zf1,zf2,zf3⟩:=aB hz3)|(have hz3:=HZM.out w10 w11 hb11;have HZL:=Hp HBK.out.size;obtain⟨_,z0,z1,z2,z3,zf0,zf1,zf2,zf3⟩:=aB hz3)|skip)))
   all_goals(
    go_wp2_with fail
    go_meet
    first
     |exact BF.new HBP.out HTP.out HKP.out HLP.out HNP.out
     |exact BF.old hz3 HZL.out HBP.out HTP.out HKP.out HLP.out HNP.out)
  case rest=>
   obtain⟨k11,A11,l11,c11,B11,rfl,rfl,hh11,hB11,ht11,hk11,hl11,hn11,hb11⟩:=hcut
   obtain⟨w11,rfl⟩:=Nm wc
   have HG11:=Hp (aF hb11 HG9)
   have HT11:=Hp (HT9.below hb11)
   have HER11:=Hp (show jN w11 eA3 [0,0,4,0] from Row.below HER9.out hb11)
   have HEP11:=Hp (show jN w11 eA9 [0,0,4,0] from Row.below HEP9.out hb11)
   have HB11:=Hp (HB9.trans (hb11.mono HB9.size))
   have HY11:=Hp hh11
   have HTY11:=Hp ht11
   have HKY:=Hp hk11
   have HLY:=Hp hl11
   have HNY:=Hp hn11
   clear HU0 HUD HUS HUA HUL HUX hh11 hB11 ht11 hk11 hl11 hn11 hb11 y9 l9 HO9 HSF
   go_upto_region 5 with fail
   go_wp2_with fail
   refine(vB _).mono ?_;rintro e w12 ⟨⟨cA,cc,b1,b2,b3,a1,a2,a3,b4,b5,b6,a4,a5,a6,rfl,hc12⟩,hb12⟩
   obtain⟨ad,rfl,hab,p0,p1,p2,p3,p4,p5,p6,p7,p8⟩:=Jv hc12.row (GZ4 _ _) 2 (by show 2<4;omega)
   have HAD:=Hp hab
   simp[Addr.add]at p0 p1 p2 p3 p4 p5 p6 p7 p8
   simp only[iU,jB,List.getElem_cons_succ,List.getElem_cons_zero,List.length_nil]at p0 p1 p2 p3 p4 p5 p6 p7 p8
   have cE:=Hp (show∀W,Calls Tryz.prog 61 #[.agg #[.int .i64 2,.string ⟨#[]⟩,.int .i64 0,.int .i64 0,.string ⟨#[]⟩,.slice none 0 0,.slice none 0 0,.slice none 0 0,.string ⟨#[108,105,98]⟩]] W fun e w'=>e=.returned (.tuple #[.string ⟨#[2,108,105,98]⟩,.int .i64 0])/\Below W.heap.size W w' from fun W=>
    (yD ⟨2,jB,⟨#[108,105,98]⟩⟩ W (zero_ok _) (by show(⟨#[108,105,98]⟩:ByteArray).size<=big;decide)).mono (by
     rintro e w' ⟨rfl,hb⟩
     exact⟨by rw[QS,if_neg (by simp),NB],hb⟩))
   have cD:=Hp (show∀W,Calls Tryz.prog 62 #[.string ⟨#[2,108,105,98]⟩] W fun e w'=>(∃m:Mod,e=.returned (.tuple #[.agg #[.int .i64 2,.string m.name,.int .i64 m.major,.int .i64 m.minor,.string m.text,.slice m.eA m.ex.length m.eC,.slice m.iA m.im.length m.iC,.slice m.pA m.pa.length m.pC,.string ⟨#[108,105,98]⟩],.int .i64 0])/\m.ok w'/\gI m zeroMod)/\Below W.heap.size W w' from fun W=>
    (nQ [2,108,105,98] W (by unfold big;simp)).mono (by
     rintro e w' ⟨⟨m,rfl,hok,_,hs⟩,hb⟩
     rw[Oh]at hs ⊢
     exact⟨⟨m,rfl,hok,hs⟩,hb⟩))
   have hb012:=HB11.trans (hb12.mono HB11.size)
   have HG12:=Hp (aF hb12 HG11)
   have HT12:=Hp (HT11.below hb12)
   have HER12:=Hp (show jN w12 eA3 [0,0,4,0] from Row.below HER11.out hb12)
   have HEP12:=Hp (show jN w12 eA9 [0,0,4,0] from Row.below HEP11.out hb12)
   have HB12:=Hp hb012
   have HY12:=Hp (aF hb12 HY11)
   have HTY12:=Hp (HTY11.below hb12)
   clear hb12 hc12 hab hb012
   go_wp2_with fail
   refine(cE.out _).mono ?_;rintro e w13 ⟨rfl,hb13⟩
   have HB13:=Hp hb13
   clear hb13 p0 p1 p2 p3 p4 p5 p6 p7 p8 cE
   go_wp2_with fail
   refine(cD.out _).mono ?_;rintro e w14 ⟨⟨m,rfl,hok14,hsame⟩,hb14⟩
   obtain⟨w15,hw15⟩:=Nm (w14.alloc (.cells (cmA ⟨2,m,⟨#[108,105,98]⟩⟩) 102))
   have hb15:Below w14.heap.size w14 w15:=hw15▸ZB
   have hb125:=HB13.trans ((hb14.trans (hb15.mono hb14.size)).mono HB13.size)
   have HG15:=Hp (aF hb125 HG12)
   have HT15:=Hp (HT12.below hb125)
   have HER15:=Hp (show jN w15 eA3 [0,0,4,0] from Row.below HER12.out hb125)
   have HEP15:=Hp (show jN w15 eA9 [0,0,4,0] from Row.below HEP12.out hb125)
   have HB15:=Hp (HB12.trans (hb125.mono HB12.size))
   have HY15:=Hp (aF hb125 HY12)
   have HTY15:=Hp (HTY12.below hb125)
   have HC15:=Hp (show w15.heap[w14.heap.size]? =some (.cells (cmA ⟨2,m,⟨#[108,105,98]⟩⟩) 102 (0,0)) by rw[hw15];exact heap_alloc_new w14 _)
   have HM15:=Hp (hok14.below hb15)
   have HSA:=Hp hsame
   clear hb14 hb15 hb125 hok14 hsame cD HB13 HG12 HT12 HER12 HEP12 HB12 HY12 HTY12 HG11 HT11 HER11 HEP11 HB11 HY11 HTY11 HG9 HT9 HER9 HEP9 HB9 HG6 HT6 HER6 HB6 HG4 HT4 HER4 HB4 HB2 HAD
   go_upto_region 7 with fail
   rw[show w14.alloc (.cells #[.int .i64 2,.string m.name,.int .i64 m.major,.int .i64 m.minor,.string m.text,.slice m.eA m.ex.length m.eC,.slice m.iA m.im.length m.iC,.slice m.pA m.pa.length m.pC,.string ⟨#[108,105,98]⟩] 102)=w15 from hw15.symm]
   clear hw15
   obtain⟨_,r0,r1,r2,r3,_⟩:=aB HG15.out
   obtain⟨_,y0,y1,y2,y3,_⟩:=aB HY15.out
   obtain⟨q0,q1,q2,q3,q4,q5,q6,q7,q8⟩:=dJ HC15.out
   have l1:w3.heap.size<w15.heap.size:=(ZL HG15.out)
   have l2:B11<w15.heap.size:=(ZL HY15.out)
   have l3:w14.heap.size<w15.heap.size:=(ZL HC15.out)
   have HVH:=Hp (show fI w15 (fun W'=>Below w15.heap.size w15 W'/\W'.cell? ⟨w3.heap.size,0,none⟩=some (.int .i64 k3.major)/\W'.cell? ⟨w3.heap.size,1,none⟩=some (.int .i64 k3.minor)/\W'.cell? ⟨w3.heap.size,2,none⟩=some (.slice k3.eA k3.ex.length k3.eC)/\W'.cell? ⟨w3.heap.size,3,none⟩=some (.slice A3 2 c3)/\W'.cell? ⟨B11,0,none⟩=some (.int .i64 k11.major)/\W'.cell? ⟨B11,1,none⟩=some (.int .i64 k11.minor)/\W'.cell? ⟨B11,2,none⟩=some (.slice k11.eA k11.ex.length k11.eC)/\W'.cell? ⟨B11,3,none⟩=some (.slice A11 2 c11)/\W'.cell? ⟨w14.heap.size,0,none⟩=some (.int .i64 2)/\W'.cell? ⟨w14.heap.size,1,none⟩=some (.string m.name)/\W'.cell? ⟨w14.heap.size,2,none⟩=some (.int .i64 m.major)/\W'.cell? ⟨w14.heap.size,3,none⟩=some (.int .i64 m.minor)/\W'.cell? ⟨w14.heap.size,4,none⟩=some (.string m.text)/\W'.cell? ⟨w14.heap.size,5,none⟩=some (.slice m.eA m.ex.length m.eC)/\W'.cell? ⟨w14.heap.size,6,none⟩=some (.slice m.iA m.im.length m.iC)/\W'.cell? ⟨w14.heap.size,7,none⟩=some (.slice m.pA m.pa.length m.pC)/\W'.cell? ⟨w14.heap.size,8,none⟩=some (.string ⟨#[108,105,98]⟩)) from dE (by repeat' first|(with_reducible exact bC.cell (by first|omega|(simp;omega)|(simp only[aA];omega)))|refine bC.and ?_ ?_))
   have HV0:=Hp (HVH.now ⟨GZ4 _ _,by assumption,by assumption,by assumption,by assumption,by assumption,by assumption,by assumption,by assumption,by assumption,by assumption,by assumption,by assumption,by assumption,by assumption,by assumption,by assumption,by assumption⟩)
   have HVD:=Hp HVH.D
   have HVS:=Hp HVH.S
   have HVA:=Hp HVH.A
   have HVX:=Hp HVH.X
   have HVL:=Hp HVH.L
   refine wp_region_held_drew (S:=fun W'=>Below w15.heap.size w15 W'/\W'.cell? ⟨w3.heap.size,0,none⟩=some (.int .i64 k3.major)/\W'.cell? ⟨w3.heap.size,1,none⟩=some (.int .i64 k3.minor)/\W'.cell? ⟨w3.heap.size,2,none⟩=some (.slice k3.eA k3.ex.length k3.eC)/\W'.cell? ⟨w3.heap.size,3,none⟩=some (.slice A3 2 c3)/\W'.cell? ⟨B11,0,none⟩=some (.int .i64 k11.major)/\W'.cell? ⟨B11,1,none⟩=some (.int .i64 k11.minor)/\W'.cell? ⟨B11,2,none⟩=some (.slice k11.eA k11.ex.length k11.eC)/\W'.cell? ⟨B11,3,none⟩=some (.slice A11 2 c11)/\W'.cell? ⟨w14.heap.size,0,none⟩=some (.int .i64 2)/\W'.cell? ⟨w14.heap.size,1,none⟩=some (.string m.name)/\W'.cell? ⟨w14.heap.size,2,none⟩=some (.int .i64 m.major)/\W'.cell? ⟨w14.heap.size,3,none⟩=some (.int .i64 m.minor)/\W'.cell? ⟨w14.heap.size,4,none⟩=some (.string m.text)/\W'.cell? ⟨w14.heap.size,5,none⟩=some (.slice m.eA m.ex.length m.eC)/\W'.cell? ⟨w14.heap.size,6,none⟩=some (.slice m.iA m.im.length m.iC)/\W'.cell? ⟨w14.heap.size,7,none⟩=some (.slice m.pA m.pa.length m.pC)/\W'.cell? ⟨w14.heap.size,8,none⟩=some (.string ⟨#[108,105,98]⟩)) (by kernel_rfl) (HVD.out _ HV0.out) (fun hHeld=>?_)
   refine aM (i:=0) (v:=?_) rfl (by kernel_rfl) (by kernel_rfl) (by kernel_rfl) (fun _ _ _ h=>h) (by rfl) ?_ hHeld ?_
   rotate_left
   ·(intro w hSw;(try dsimp only at hSw);go_simp;(try with_reducible rfl))
   try simp only[Act.put,GZ7,GZ5,GZ6]
   refine aM (i:=1) (v:=?_) rfl (by kernel_rfl) (by kernel_rfl) (by kernel_rfl) (fun _ _ _ h=>h) (by rfl) ?_ hHeld ?_
   rotate_left
   ·(intro w hSw;(try dsimp only at hSw);go_simp;(try with_reducible rfl))
   try simp only[Act.put,GZ7,GZ5,GZ6]
   refine aM (i:=2) (v:=?_) rfl (by kernel_rfl) (by kernel_rfl) (by kernel_rfl) (fun _ _ _ h=>h) (by rfl) ?_ hHeld ?_
   rotate_left
   ·(intro w hSw;(try dsimp only at hSw);go_simp;(try with_reducible rfl))
   try simp only[Act.put,GZ7,GZ5,GZ6]
   refine aM (i:=3) (v:=?_) rfl (by kernel_rfl) (by kernel_rfl) (by kernel_rfl) (fun _ _ _ h=>h) (by rfl) ?_ hHeld ?_
   rotate_left
   ·(intro w hSw;(try dsimp only at hSw);go_simp;(try with_reducible rfl))
   try simp only[Act.put,GZ7,GZ5,GZ6]
   refine aM (i:=4) (v:=?_) rfl (by kernel_rfl) (by kernel_rfl) (by kernel_rfl) (fun _ _ _ h=>h) (by rfl) ?_ hHeld ?_
   rotate_left
   ·(intro w hSw;(try dsimp only at hSw);go_simp;(try with_reducible rfl))
   try simp only[Act.put,GZ7,GZ5,GZ6]
   refine aM (i:=5) (v:=?_) rfl (by kernel_rfl) (by kernel_rfl) (by kernel_rfl) (fun _ _ _ h=>h) (by rfl) ?_ hHeld ?_
   rotate_left
   ·(intro w hSw;(try dsimp only at hSw);go_simp;(try with_reducible rfl))
   try simp only[Act.put,GZ7,GZ5,GZ6]
   refine aM (i:=6) (v:=?_) rfl (by kernel_rfl) (by kernel_rfl) (by kernel_rfl) (fun _ _ _ h=>h) (by rfl) ?_ hHeld ?_
   rotate_left
   ·(intro w hSw;(try dsimp only at hSw);go_simp;(try with_reducible rfl))
   try simp only[Act.put,GZ7,GZ5,GZ6]
   refine aM (i:=7) (v:=?_) rfl (by kernel_rfl) (by kernel_rfl) (by kernel_rfl) (fun _ _ _ h=>h) (by rfl) ?_ hHeld ?_
   rotate_left
   ·(intro w hSw;(try dsimp only at hSw);go_simp;(try with_reducible rfl))
   try simp only[Act.put,GZ7,GZ5,GZ6]
   refine aM (i:=8) (v:=?_) rfl (by kernel_rfl) (by kernel_rfl) (by kernel_rfl) (fun _ _ _ h=>h) (by rfl) ?_ hHeld ?_
   rotate_left
   ·(intro w hSw;(try dsimp only at hSw);go_simp;(try with_reducible rfl))
   try simp only[Act.put,GZ7,GZ5,GZ6]
   refine aM (i:=9) (v:=?_) rfl (by kernel_rfl) (by kernel_rfl) (by kernel_rfl) (fun _ _ _ h=>h) (by rfl) ?_ hHeld ?_
   rotate_left
   ·(intro w hSw;(try dsimp only at hSw);go_simp;(try with_reducible rfl))
   try simp only[Act.put,GZ7,GZ5,GZ6]
   refine aM (i:=10) (v:=?_) rfl (by kernel_rfl) (by kernel_rfl) (by kernel_rfl) (fun _ _ _ h=>h) (by rfl) ?_ hHeld ?_
   rotate_left
   ·(intro w hSw;(try dsimp only at hSw);go_simp;(try with_reducible rfl))
   try simp only[Act.put,GZ7,GZ5,GZ6]
   refine aM (i:=11) (v:=?_) rfl (by kernel_rfl) (by kernel_rfl) (by kernel_rfl) (fun _ _ _ h=>h) (by rfl) ?_ hHeld ?_
   rotate_left
   ·(intro w hSw;(try dsimp only at hSw);go_simp;(try with_reducible rfl))
   try simp only[Act.put,GZ7,GZ5,GZ6]
   refine aM (i:=12) (v:=?_) rfl (by kernel_rfl) (by kernel_rfl) (by kernel_rfl) (fun _ _ _ h=>h) (by rfl) ?_ hHeld ?_
   rotate_left
   ·(intro w hSw;(try dsimp only at hSw);go_simp;(try with_reducible rfl))
   try simp only[Act.put,GZ7,GZ5,GZ6]
   refine aM (i:=13) (v:=?_) rfl (by kernel_rfl) (by kernel_rfl) (by kernel_rfl) (fun _ _ _ h=>h) (by rfl) ?_ hHeld ?_
   rotate_left
   ·(intro w hSw;(try dsimp only at hSw);go_simp;(try with_reducible rfl))
   try simp only[Act.put,GZ7,GZ5,GZ6]
   refine aM (i:=14) (v:=?_) rfl (by kernel_rfl) (by kernel_rfl) (by kernel_rfl) (fun _ _ _ h=>h) (by rfl) ?_ hHeld ?_
   rotate_left
   ·(intro w hSw;(try dsimp only at hSw);go_simp;(try with_reducible rfl))
   try simp only[Act.put,GZ7,GZ5,GZ6]
   refine aM (i:=15) (v:=?_) rfl (by kernel_rfl) (by kernel_rfl) (by kernel_rfl) (fun _ _ _ h=>h) (by rfl) ?_ hHeld ?_
   rotate_left
   ·(intro w hSw;(try dsimp only at hSw);go_simp;(try with_reducible rfl))
   try simp only[Act.put,GZ7,GZ5,GZ6]
   refine aM (i:=16) (v:=?_) rfl (by kernel_rfl) (by kernel_rfl) (by kernel_rfl) (fun _ _ _ h=>h) (by rfl) ?_ hHeld ?_
   rotate_left
   ·(intro w hSw;(try dsimp only at hSw);go_simp;(try with_reducible rfl))
   try simp only[Act.put,GZ7,GZ5,GZ6]
   refine aM (i:=17) (v:=?_) rfl (by kernel_rfl) (by kernel_rfl) (by kernel_rfl) (fun _ _ _ h=>h) (by rfl) ?_ hHeld ?_
   rotate_left
   ·(intro w hSw;(try dsimp only at hSw);go_simp;(try with_reducible rfl))
   try simp only[Act.put,GZ7,GZ5,GZ6]
   refine aM (i:=18) (v:=?_) rfl (by kernel_rfl) (by kernel_rfl) (by kernel_rfl) (fun _ _ _ h=>h) (by rfl) ?_ hHeld ?_
   rotate_left
   ·(intro w hSw;(try dsimp only at hSw);go_simp;(try with_reducible rfl))
   try simp only[Act.put,GZ7,GZ5,GZ6]
   refine aM (i:=19) (v:=?_) rfl (by kernel_rfl) (by kernel_rfl) (by kernel_rfl) (fun _ _ _ h=>h) (by rfl) ?_ hHeld ?_
   rotate_left
   ·(intro w hSw;(try dsimp only at hSw);go_simp;(try with_reducible rfl))
   try simp only[Act.put,GZ7,GZ5,GZ6]
   refine aM (i:=20) (v:=?_) rfl (by kernel_rfl) (by kernel_rfl) (by kernel_rfl) (fun _ _ _ h=>h) (by rfl) ?_ hHeld ?_
   rotate_left
   ·(intro w hSw;(try dsimp only at hSw);go_simp;(try with_reducible rfl))
   try simp only[Act.put,GZ7,GZ5,GZ6]
   refine aM (i:=21) (v:=?_) rfl (by kernel_rfl) (by kernel_rfl) (by kernel_rfl) (fun _ _ _ h=>h) (by rfl) ?_ hHeld ?_
   rotate_left
   ·(intro w hSw;(try dsimp only at hSw);go_simp;(try with_reducible rfl))
   try simp only[Act.put,GZ7,GZ5,GZ6]
   refine aM (i:=22) (v:=?_) rfl (by kernel_rfl) (by kernel_rfl) (by kernel_rfl) (fun _ _ _ h=>h) (by rfl) ?_ hHeld ?_
   rotate_left
   ·(intro w hSw;(try dsimp only at hSw);go_simp;(try with_reducible rfl))
   try simp only[Act.put,GZ7,GZ5,GZ6]
   refine aM (i:=23) (v:=?_) rfl (by kernel_rfl) (by kernel_rfl) (by kernel_rfl) (fun _ _ _ h=>h) (by rfl) ?_ hHeld ?_
   rotate_left
   ·(intro w hSw;(try dsimp only at hSw);go_simp;(try with_reducible rfl))
   try simp only[Act.put,GZ7,GZ5,GZ6]
   refine aM (i:=24) (v:=?_) rfl (by kernel_rfl) (by kernel_rfl) (by kernel_rfl) (fun _ _ _ h=>h) (by rfl) ?_ hHeld ?_
   rotate_left
   ·(intro w hSw;(try dsimp only at hSw);go_simp;(try with_reducible rfl))
   try simp only[Act.put,GZ7,GZ5,GZ6]
   refine aM (i:=25) (v:=?_) rfl (by kernel_rfl) (by kernel_rfl) (by kernel_rfl) (fun _ _ _ h=>h) (by rfl) ?_ hHeld ?_
   rotate_left
   ·(intro w hSw;(try dsimp only at hSw);go_simp;(try with_reducible rfl))
   try simp only[Act.put,GZ7,GZ5,GZ6]
   refine aM (i:=26) (v:=?_) rfl (by kernel_rfl) (by kernel_rfl) (by kernel_rfl) (fun _ _ _ h=>h) (by rfl) ?_ hHeld ?_
   rotate_left
   ·(intro w hSw;(try dsimp only at hSw);go_simp;(try with_reducible rfl))
   try simp only[Act.put,GZ7,GZ5,GZ6]
   refine aM (i:=27) (v:=?_) rfl (by kernel_rfl) (by kernel_rfl) (by kernel_rfl) (fun _ _ _ h=>h) (by rfl) ?_ hHeld ?_
   rotate_left
   ·(intro w hSw;(try dsimp only at hSw);go_simp;(try with_reducible rfl))
   try simp only[Act.put,GZ7,GZ5,GZ6]
   refine aM (i:=28) (v:=?_) rfl (by kernel_rfl) (by kernel_rfl) (by kernel_rfl) (fun _ _ _ h=>h) (by rfl) ?_ hHeld ?_
   rotate_left
   ·(intro w hSw;(try dsimp only at hSw);go_simp;(try with_reducible rfl))
   try simp only[Act.put,GZ7,GZ5,GZ6]
   refine aM (i:=29) (v:=?_) rfl (by kernel_rfl) (by kernel_rfl) (by kernel_rfl) (fun _ _ _ h=>h) (by rfl) ?_ hHeld ?_
   rotate_left
   ·(intro w hSw;(try dsimp only at hSw);go_simp;(try with_reducible rfl))
   try simp only[Act.put,GZ7,GZ5,GZ6]
   refine TE (i:=30) rfl (by kernel_rfl) (fun K hK=>?_)
   clear hHeld
   go_simp
   refine hK.out _ _ (by exact HVA.out _ _ (HVD.out _ HV0.out)) (fun hHeld=>?_)
   clear hK K
   try simp only[Act.put,GZ7,GZ5,GZ6]
   refine TE (i:=31) rfl (by kernel_rfl) (fun K hK=>?_)
   go_simp
   go_at_call 21
   with_reducible refine(IE eA3 (some ⟨_,0,none⟩) ec3 4 _ (Row.below HER15.out (HVL.out _ hHeld)) (Mc _)).mono ?_
   rintro e w16 ⟨rfl,hb16⟩
   have hS2:=HVS.out _ _ hHeld hb16
   clear hHeld
   refine hK.out _ _ (by exact hS2) (fun hHeld=>?_)
   clear hK K
   try simp only[Act.put,GZ7,GZ5,GZ6]
   refine aM (i:=32) (v:=?_) rfl (by kernel_rfl) (by kernel_rfl) (by kernel_rfl) (fun _ _ _ h=>h) (by rfl) ?_ hHeld ?_
   rotate_left
   ·(intro w hSw;(try dsimp only at hSw);go_simp;(try with_reducible rfl))
   try simp only[Act.put,GZ7,GZ5,GZ6]
   refine aM (i:=33) (v:=?_) rfl (by kernel_rfl) (by kernel_rfl) (by kernel_rfl) (fun _ _ _ h=>h) (by rfl) ?_ hHeld ?_
   rotate_left
   ·(intro w hSw;(try dsimp only at hSw);go_simp;(try with_reducible rfl))
   try simp only[Act.put,GZ7,GZ5,GZ6]
   refine aM (i:=34) (v:=?_) rfl (by kernel_rfl) (by kernel_rfl) (by kernel_rfl) (fun _ _ _ h=>h) (by rfl) ?_ hHeld ?_
   rotate_left
   ·(intro w hSw;(try dsimp only at hSw);go_simp;(try with_reducible rfl))
   try simp only[Act.put,GZ7,GZ5,GZ6]
   refine aM (i:=35) (v:=?_) rfl (by kernel_rfl) (by kernel_rfl) (by kernel_rfl) (fun _ _ _ h=>h) (by rfl) ?_ hHeld ?_
   rotate_left
   ·(intro w hSw;(try dsimp only at hSw);go_simp;(try with_reducible rfl))
   try simp only[Act.put,GZ7,GZ5,GZ6]
   refine TE (i:=36) rfl (by kernel_rfl) (fun K hK=>?_)
   go_simp
   go_at_call 21
   with_reducible refine(IE eA3 eA9 ec3 ec9 _ (Row.below HER15.out (HVL.out _ hHeld)) (Row.below HEP15.out (HVL.out _ hHeld))).mono ?_
   rintro e w17 ⟨rfl,hb17⟩
   have hS2:=HVS.out _ _ hHeld hb17
   clear hHeld
   refine hK.out _ _ (by exact hS2) (fun hHeld=>?_)
   clear hK K
   try simp only[Act.put,GZ7,GZ5,GZ6]
   refine aM (i:=37) (v:=?_) rfl (by kernel_rfl) (by kernel_rfl) (by kernel_rfl) (fun _ _ _ h=>h) (by rfl) ?_ hHeld ?_
   rotate_left
   ·(intro w hSw;(try dsimp only at hSw);go_simp;(try with_reducible rfl))
   try simp only[Act.put,GZ7,GZ5,GZ6]
   refine aM (i:=38) (v:=?_) rfl (by kernel_rfl) (by kernel_rfl) (by kernel_rfl) (fun _ _ _ h=>h) (by rfl) ?_ hHeld ?_
   rotate_left
   ·(intro w hSw;(try dsimp only at hSw);go_simp;(try with_reducible rfl))
   try simp only[Act.put,GZ7,GZ5,GZ6]
   refine aM (i:=39) (v:=?_) rfl (by kernel_rfl) (by kernel_rfl) (by kernel_rfl) (fun _ _ _ h=>h) (by rfl) ?_ hHeld ?_
   rotate_left
   ·(intro w hSw;(try dsimp only at hSw);go_simp;(try with_reducible rfl))
   try simp only[Act.put,GZ7,GZ5,GZ6]
   refine aM (i:=40) (v:=?_) rfl (by kernel_rfl) (by kernel_rfl) (by kernel_rfl) (fun _ _ _ h=>h) (by rfl) ?_ hHeld ?_
   rotate_left
   ·(intro w hSw;(try dsimp only at hSw);go_simp;(try with_reducible rfl))
   try simp only[Act.put,GZ7,GZ5,GZ6]
   refine TE (i:=41) rfl (by kernel_rfl) (fun K hK=>?_)
   go_simp
   go_at_call 22
   with_reducible refine(Mq (c:=c3) (c':=c11) (HT15.out.below (HVL.out _ hHeld)) (HTY15.out.below (HVL.out _ hHeld)) HN3.out HNY.out (HKE.out.trans HKY.out.symm) (HLE.out.trans HLY.out.symm)).mono ?_
   rintro e w18 ⟨rfl,hb18⟩
   have hS2:=HVS.out _ _ hHeld hb18
   clear hHeld
   refine hK.out _ _ (by exact hS2) (fun hHeld=>?_)
   clear hK K
   try simp only[Act.put,GZ7,GZ5,GZ6]
   refine aM (i:=42) (v:=?_) rfl (by kernel_rfl) (by kernel_rfl) (by kernel_rfl) (fun _ _ _ h=>h) (by rfl) ?_ hHeld ?_
   rotate_left
   ·(intro w hSw;(try dsimp only at hSw);go_simp;(try with_reducible rfl))
   try simp only[Act.put,GZ7,GZ5,GZ6]
   refine aM (i:=43) (v:=?_) rfl (by kernel_rfl) (by kernel_rfl) (by kernel_rfl) (fun _ _ _ h=>h) (by rfl) ?_ hHeld ?_
   rotate_left
   ·(intro w hSw;(try dsimp only at hSw);go_simp;(try with_reducible rfl))
   try simp only[Act.put,GZ7,GZ5,GZ6]
   refine aM (i:=44) (v:=?_) rfl (by kernel_rfl) (by kernel_rfl) (by kernel_rfl) (fun _ _ _ h=>h) (by rfl) ?_ hHeld ?_
   rotate_left
   ·(intro w hSw;(try dsimp only at hSw);go_simp;(try with_reducible rfl))
   try simp only[Act.put,GZ7,GZ5,GZ6]
   refine aM (i:=45) (v:=?_) rfl (by kernel_rfl) (by kernel_rfl) (by kernel_rfl) (fun _ _ _ h=>h) (by rfl) ?_ hHeld ?_
   rotate_left
   ·(intro w hSw;(try dsimp only at hSw);go_simp;(try with_reducible rfl))
   try simp only[Act.put,GZ7,GZ5,GZ6]
   refine aM (i:=46) (v:=?_) rfl (by kernel_rfl) (by kernel_rfl) (by kernel_rfl) (fun _ _ _ h=>h) (by rfl) ?_ hHeld ?_
   rotate_left
   ·(intro w hSw;(try dsimp only at hSw);go_simp;(try with_reducible rfl))
   try simp only[Act.put,GZ7,GZ5,GZ6]
   refine aM (i:=47) (v:=?_) rfl (by kernel_rfl) (by kernel_rfl) (by kernel_rfl) (fun _ _ _ h=>h) (by rfl) ?_ hHeld ?_
   rotate_left
   ·(intro w hSw;(try dsimp only at hSw);go_simp;(try with_reducible rfl))
   try simp only[Act.put,GZ7,GZ5,GZ6]
   refine aM (i:=48) (v:=?_) rfl (by kernel_rfl) (by kernel_rfl) (by kernel_rfl) (fun _ _ _ h=>h) (by rfl) ?_ hHeld ?_
   rotate_left
   ·(intro w hSw;(try dsimp only at hSw);go_simp;(try with_reducible rfl))
   try simp only[Act.put,GZ7,GZ5,GZ6]
   refine TE (i:=49) rfl (by kernel_rfl) (fun K hK=>?_)
   go_simp
   go_at_call 70
   with_reducible refine(vB _).mono ?_
   rintro e w19 ⟨⟨cA,cc,b1,b2,b3,a1,a2,a3,b4,b5,b6,a4,a5,a6,rfl,hc19⟩,hb19⟩
   obtain⟨ad,rfl,hab,p0,p1,p2,p3,p4,p5,p6,p7,p8⟩:=Jv hc19.row (GZ4 _ _) 2 (by show 2<4;omega)
   simp[Addr.add]at p0 p1 p2 p3 p4 p5 p6 p7 p8
   simp only[iU,jB,List.getElem_cons_succ,List.getElem_cons_zero,List.length_nil]at p0 p1 p2 p3 p4 p5 p6 p7 p8
   have hS2:=HVS.out _ _ hHeld hb19
   clear hHeld
   refine hK.out _ _ (by exact hS2) (fun hHeld=>?_)
   clear hK K
   try simp only[Act.put,GZ7,GZ5,GZ6]
   refine aM (i:=50) (v:=?_) rfl (by kernel_rfl) (by kernel_rfl) (by kernel_rfl) (fun _ _ _ h=>h) (by rfl) ?_ hHeld ?_
   rotate_left
   ·(intro w hSw;(try dsimp only at hSw);go_simp;(try with_reducible rfl))
   try simp only[Act.put,GZ7,GZ5,GZ6]
   refine TE (i:=51) rfl (by kernel_rfl) (fun K hK=>?_)
   go_simp
   refine hK.out _ _ (by exact hHeld) (fun hHeld=>?_)
   clear hK K
   try simp only[Act.put,GZ7,GZ5,GZ6]
   refine TE (i:=52) rfl (by kernel_rfl) (fun K hK=>?_)
   go_simp
   go_at_call 66
   with_reducible refine(Mi m _ (HM15.out.below (HVL.out _ hHeld)) HSA.out).mono ?_
   rintro e w20 ⟨rfl,hb20⟩
   have hS2:=HVS.out _ _ hHeld hb20
   clear hHeld
   refine hK.out _ _ (by exact hS2) (fun hHeld=>?_)
   clear hK K
   try simp only[Act.put,GZ7,GZ5,GZ6]
   refine aM (i:=53) (v:=?_) rfl (by kernel_rfl) (by kernel_rfl) (by kernel_rfl) (fun _ _ _ h=>h) (by rfl) ?_ hHeld ?_
   rotate_left
   ·(intro w hSw;(try dsimp only at hSw);go_simp;(try with_reducible rfl))
   try simp only[Act.put,GZ7,GZ5,GZ6]
   refine aM (i:=54) (v:=?_) rfl (by kernel_rfl) (by kernel_rfl) (by kernel_rfl) (fun _ _ _ h=>h) (by rfl) ?_ hHeld ?_
   rotate_left
   ·(intro w hSw;(try dsimp only at hSw);go_simp;(try with_reducible rfl))
   try simp only[Act.put,GZ7,GZ5]
   refine wpAnyH_done (by kernel_rfl) ?_ _
   go_wp2_with fail
   go_ret
   exact⟨rfl,HB15.trans ((HVL.out _ hHeld).mono HB15.size)⟩
end Go.Proofs.YtjiedaialianmaaGreat
