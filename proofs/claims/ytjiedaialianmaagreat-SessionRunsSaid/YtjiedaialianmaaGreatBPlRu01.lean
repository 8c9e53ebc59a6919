import Derived.Test.YtjiedaialianmaaGreatBPlReRu08
import Derived.Test.YtjiedaialianmaaGreatKTiny
open Go
set_option maxRecDepth 100000
set_option maxHeartbeats 8000000
namespace Go.Proofs.YtjiedaialianmaaGreat
open Go.RowKit Go.Lib
structure ND (w:World) (k:Krn) (l:List Plc) (cs:List Cm) (j:Nat) (v:Value) (W:World):Prop where
 reg:∃k' A' l' c',W.heap[w.heap.size]? =some (.cells (rgA k' A' l' c') 39 (0,0))/\Rn w W k' A' l' c'/\k'.bare=k.bare/\aD l'=aD (Rl k l (cs.take j))
 res:W.heap[w.heap.size+1]? =some (.cells #[.int .i64 0,.int .i64 0,.slice none 0 0,.slice none 0 0] 39 (0,0))
 errs:dN W (w.heap.size+2) v (eD k l (cs.take j))
 bel:Below w.heap.size w W
theorem Dz {α:Type} {l:List α} {j:Nat} (h:j<l.length):l.take (j+1)=l.take j++[l[j]]:=(List.take_append_getElem h).symm
theorem Lt {k:Krn} {l:List Plc} {cs:List Cm} {j:Nat} (h:j<cs.length):Rl k l (cs.take (j+1))=doL k (Rl k l (cs.take j)) cs[j]:=by
 rw[Dz h,nM];rfl
theorem Kn {k:Krn} {l:List Plc} {cs:List Cm} {j:Nat} (h:j<cs.length):eD k l (cs.take (j+1))=eD k l (cs.take j)++[doE k (Rl k l (cs.take j)) cs[j]]:=by
 rw[Dz h,qC];rfl
theorem D8 (k:Krn) (A:Option Addr) (c:Nat) (l:List Plc) (cA:Option Addr) (cs:List Cm) (cc:Nat) (w:World) (hk:k.ok w) (h:aU w A l) (hc:nE w cA cs) (h40:cs.length<=1000) (hrg:aZ k l=0):
  Calls Tryz.prog 67 #[rgV k A l c,.slice cA cs.length cc] w fun e w'=>(∃k' A' l' c' eA ec,e=.returned (.tuple #[rgV k' A' l' c',.slice eA (eD k l cs).length ec])/\Rn w w' k' A' l' c'/\k'.bare=k.bare/\aD l'=aD (Rl k l cs)/\dN w' (w.heap.size+2) (.slice eA (eD k l cs).length ec) (eD k l cs))/\Below w.heap.size w w':=by
 obtain⟨w0,hw0⟩:=Nm (w.alloc (.cells (rgA k A l c) 39))
 obtain⟨w1,hw1⟩:=Nm (w0.alloc (.cells #[.int .i64 0,.int .i64 0,.slice none 0 0,.slice none 0 0] 39))
 have hb0:Below w.heap.size w w0:=hw0▸(Below.refl _ _).alloc (Nat.le_refl _) _
 have hb1:Below w0.heap.size w0 w1:=hw1▸(Below.refl _ _).alloc (Nat.le_refl _) _
 have z0:w0.heap.size=w.heap.size+1:=by rw[hw0];simp
 have z1:w1.heap.size=w.heap.size+2:=by rw[hw1];simp;omega
 have hB1:Below w.heap.size w w1:=hb0.trans (hb1.mono hb0.size)
 have HI1:=Hp (show ND w k l cs 0 (.slice none 0 0) w1 from⟨⟨k,A,l,c,aF hb1 (show w0.heap[w.heap.size]? =some (.cells (rgA k A l c) 39 (0,0)) by rw[hw0];exact heap_alloc_new w _),⟨hk,h.each,h.len,.inl h.row,hB1⟩,rfl,rfl⟩,
  (by rw[hw1,<-z0];exact heap_alloc_new w0 _),dN.nil _ _,hB1⟩)
 have HC:=Hp hc
 have HRG:=Hp hrg
 have HZ1:=Hp z1
 have H40:=Hp h40
 have hl40:=hc.len
 unfold big at hl40
 have hw0':=hw0.symm
 have hw1':=hw1.symm
 clear hw0 hw1 hb0 hb1 z1 hB1 hk h hc hrg
 go_enter Tryz.func67,Tryz.ntmps67
 go_wp2_with fail
 go_loopw [6,7] (fun v i wr=>∃(j:Nat) (oA:Option Addr) (oC:Nat),i=.int .i64 j/\v=.slice oA j oC/\j<=cs.length/\ND w k l cs j (.slice oA j oC) wr) (fun _ i _=>cs.length -(intOf i).toNat)
 case atStart=>exact⟨0,none,0,rfl,rfl,Nat.zero_le _,HI1.out⟩
 case round=>
  obtain⟨j,oA,oC,rfl,rfl,hj,hI⟩:=hrel
  have HI:=Hp hI
  clear hI
  by_cases hlt:j<cs.length
  ·have hlt':(j:Int)<cs.length:=by omega
   obtain⟨k1,A1,l1,c1,hg,ht,e1,e2⟩:=HI.out.reg
   have HG:=Hp hg
   have HT:=Hp ht
   have E1:=Hp e1
   have E2:=Hp e2
   obtain⟨_,g0,g1,g2,g3,_⟩:=aB hg
   have hcm:=HC.out.below HI.out.bel
   obtain⟨ad,rfl,hab,p0,p1,p2,p3,p4,p5,p6,p7,p8⟩:=Jv hcm.row (Below.refl _ _) j hlt
   obtain⟨hm,hn⟩:=HC.out.each _ (List.getElem_mem hlt)
   have hr1:aZ k1 l1=0:=by rw[kQ e1 e2];exact lG _ HRG.out
   obtain⟨E,hE⟩:=Nm (doE k1 l1 (cs[j]'hlt))
   obtain⟨L,hL⟩:=Nm (doL k1 l1 (cs[j]'hlt))
   have HEN:=Hp (show eD k l (cs.take (j+1))=eD k l (cs.take j)++[E] by rw[Kn hlt,hE,Tz e1 e2 rfl])
   have HLN:=Hp (show aD L=aD (Rl k l (cs.take (j+1))) by rw[Lt hlt,hL];exact Su e1 e2 rfl)
   obtain⟨y,hy⟩:=Nm (cs[j]'hlt)
   simp only[<-hy]at p0 p1 p2 p3 p4 p5 p6 p7 p8 hm hn hE hL
   have cD:=Hp (fun W (hb:Below wr.heap.size wr W)=>show Calls Tryz.prog 146 #[.agg #[.int .i64 k1.major,.int .i64 k1.minor,.slice k1.eA k1.ex.length k1.eC,.slice A1 l1.length c1],.agg #[.int .i64 y.kind,.string y.m.name,.int .i64 y.m.major,.int .i64 y.m.minor,.string y.m.text,.slice y.m.eA y.m.ex.length y.m.eC,.slice y.m.iA y.m.im.length y.m.iC,.slice y.m.pA y.m.pa.length y.m.pC,.string y.nm]] W (KU w W (doE k1 l1 y) k1 (doL k1 l1 y)) from GH k1 A1 c1 l1 y w W (ht.below hb) hm hn hr1)
   rw[<-hE,<-hL]at cD
   have HBS:=Hp (show w.heap.size<=wr.heap.size from HI.out.bel.size)
   have l1':w.heap.size<wr.heap.size:=(Array.getElem?_eq_some_iff.1 hg).1
   clear hg ht e1 e2 hcm hm hn hr1 hE hL hy
   go_upto_region 5 with fail
   have HC9H:=Hp (show fI wr (fun W'=>Below wr.heap.size wr W'/\W'.cell? ⟨w.heap.size,0,none⟩=some (.int .i64 k1.major)/\W'.cell? ⟨w.heap.size,1,none⟩=some (.int .i64 k1.minor)/\W'.cell? ⟨w.heap.size,2,none⟩=some (.slice k1.eA k1.ex.length k1.eC)/\W'.cell? ⟨w.heap.size,3,none⟩=some (.slice A1 l1.length c1)/\W'.cell? (ad.add (j*9))=some (.int .i64 y.kind)/\W'.cell? ⟨(ad.add (j*9)).block,(ad.add (j*9)).off+1,none⟩=some (.string y.m.name)/\W'.cell? ⟨(ad.add (j*9)).block,(ad.add (j*9)).off+2,none⟩=some (.int .i64 y.m.major)/\W'.cell? ⟨(ad.add (j*9)).block,(ad.add (j*9)).off+3,none⟩=some (.int .i64 y.m.minor)/\W'.cell? ⟨(ad.add (j*9)).block,(ad.add (j*9)).off+4,none⟩=some (.string y.m.text)/\W'.cell? ⟨(ad.add (j*9)).block,(ad.add (j*9)).off+5,none⟩=some (.slice y.m.eA y.m.ex.length y.m.eC)/\W'.cell? ⟨(ad.add (j*9)).block,(ad.add (j*9)).off+6,none⟩=some (.slice y.m.iA y.m.im.length y.m.iC)/\W'.cell? ⟨(ad.add (j*9)).block,(ad.add (j*9)).off+7,none⟩=some (.slice y.m.pA y.m.pa.length y.m.pC)/\W'.cell? ⟨(ad.add (j*9)).block,(ad.add (j*9)).off+8,none⟩=some (.string y.nm)) from dE (by repeat' first|(with_reducible exact bC.cell (by first|omega|(simp;omega)|(simp only[aA];omega)))|refine bC.and ?_ ?_))
   have HC90:=Hp (HC9H.out.now ⟨Below.refl _ _,by assumption,by assumption,by assumption,by assumption,by assumption,by assumption,by assumption,by assumption,by assumption,by assumption,by assumption,by assumption,by assumption⟩)
   have HC9D:=Hp HC9H.out.D
   have HC9S:=Hp HC9H.out.S
   have HC9A:=Hp HC9H.out.A
   have HC9X:=Hp HC9H.out.X
   have HC9L:=Hp HC9H.out.L
   go_cut [8,9] from 16 to 24 (fun p e wx=>uN w wr E k1 L p e wx)
   case first=>
    have HZN:=Hp (show∀W':World,Below (wr.alloc (.cells #[.int .i64 0,.int .i64 0,.slice none 0 0,.slice none 0 0] 39)).drew.heap.size (wr.alloc (.cells #[.int .i64 0,.int .i64 0,.slice none 0 0,.slice none 0 0] 39)).drew W'->W'.heap[wr.heap.size]? =some (.cells #[.int .i64 0,.int .i64 0,.slice none 0 0,.slice none 0 0] 39 (0,0)) from
     fun W' hb=>(hb.block wr.heap.size (by show wr.heap.size<(wr.alloc _).heap.size;simp)).trans (heap_alloc_new wr _))
    have HX4:=Hp (show∀(W:World),(Below wr.heap.size wr W/\W.cell? ⟨w.heap.size,0,none⟩=some (.int .i64 k1.major)/\W.cell? ⟨w.heap.size,1,none⟩=some (.int .i64 k1.minor)/\W.cell? ⟨w.heap.size,2,none⟩=some (.slice k1.eA k1.ex.length k1.eC)/\W.cell? ⟨w.heap.size,3,none⟩=some (.slice A1 l1.length c1)/\W.cell? (ad.add (j*9))=some (.int .i64 y.kind)/\W.cell? ⟨(ad.add (j*9)).block,(ad.add (j*9)).off+1,none⟩=some (.string y.m.name)/\W.cell? ⟨(ad.add (j*9)).block,(ad.add (j*9)).off+2,none⟩=some (.int .i64 y.m.major)/\W.cell? ⟨(ad.add (j*9)).block,(ad.add (j*9)).off+3,none⟩=some (.int .i64 y.m.minor)/\W.cell? ⟨(ad.add (j*9)).block,(ad.add (j*9)).off+4,none⟩=some (.string y.m.text)/\W.cell? ⟨(ad.add (j*9)).block,(ad.add (j*9)).off+5,none⟩=some (.slice y.m.eA y.m.ex.length y.m.eC)/\W.cell? ⟨(ad.add (j*9)).block,(ad.add (j*9)).off+6,none⟩=some (.slice y.m.iA y.m.im.length y.m.iC)/\W.cell? ⟨(ad.add (j*9)).block,(ad.add (j*9)).off+7,none⟩=some (.slice y.m.pA y.m.pa.length y.m.pC)/\W.cell? ⟨(ad.add (j*9)).block,(ad.add (j*9)).off+8,none⟩=some (.string y.nm))->∀(b:Nat),wr.heap.size<=b->∀v0 v1 v2 v3 W2,W2=(((W.setCell ⟨b,0,none⟩ v0).setCell ⟨b,1,none⟩ v1).setCell ⟨b,2,none⟩ v2).setCell ⟨b,3,none⟩ v3->(Below wr.heap.size wr W2/\W2.cell? ⟨w.heap.size,0,none⟩=some (.int .i64 k1.major)/\W2.cell? ⟨w.heap.size,1,none⟩=some (.int .i64 k1.minor)/\W2.cell? ⟨w.heap.size,2,none⟩=some (.slice k1.eA k1.ex.length k1.eC)/\W2.cell? ⟨w.heap.size,3,none⟩=some (.slice A1 l1.length c1)/\W2.cell? (ad.add (j*9))=some (.int .i64 y.kind)/\W2.cell? ⟨(ad.add (j*9)).block,(ad.add (j*9)).off+1,none⟩=some (.string y.m.name)/\W2.cell? ⟨(ad.add (j*9)).block,(ad.add (j*9)).off+2,none⟩=some (.int .i64 y.m.major)/\W2.cell? ⟨(ad.add (j*9)).block,(ad.add (j*9)).off+3,none⟩=some (.int .i64 y.m.minor)/\W2.cell? ⟨(ad.add (j*9)).block,(ad.add (j*9)).off+4,none⟩=some (.string y.m.text)/\W2.cell? ⟨(ad.add (j*9)).block,(ad.add (j*9)).off+5,none⟩=some (.slice y.m.eA y.m.ex.length y.m.eC)/\W2.cell? ⟨(ad.add (j*9)).block,(ad.add (j*9)).off+6,none⟩=some (.slice y.m.iA y.m.im.length y.m.iC)/\W2.cell? ⟨(ad.add (j*9)).block,(ad.add (j*9)).off+7,none⟩=some (.slice y.m.pA y.m.pa.length y.m.pC)/\W2.cell? ⟨(ad.add (j*9)).block,(ad.add (j*9)).off+8,none⟩=some (.string y.nm)) from
     fun W hc b hb v0 v1 v2 v3 W2 e=>e▸HC9X.out _ b 3 v3 hb (HC9X.out _ b 2 v2 hb (HC9X.out _ b 1 v1 hb (HC9X.out _ b 0 v0 hb hc))))
    go_region_held3 (fun W'=>Below wr.heap.size wr W'/\W'.cell? ⟨w.heap.size,0,none⟩=some (.int .i64 k1.major)/\W'.cell? ⟨w.heap.size,1,none⟩=some (.int .i64 k1.minor)/\W'.cell? ⟨w.heap.size,2,none⟩=some (.slice k1.eA k1.ex.length k1.eC)/\W'.cell? ⟨w.heap.size,3,none⟩=some (.slice A1 l1.length c1)/\W'.cell? (ad.add (j*9))=some (.int .i64 y.kind)/\W'.cell? ⟨(ad.add (j*9)).block,(ad.add (j*9)).off+1,none⟩=some (.string y.m.name)/\W'.cell? ⟨(ad.add (j*9)).block,(ad.add (j*9)).off+2,none⟩=some (.int .i64 y.m.major)/\W'.cell? ⟨(ad.add (j*9)).block,(ad.add (j*9)).off+3,none⟩=some (.int .i64 y.m.minor)/\W'.cell? ⟨(ad.add (j*9)).block,(ad.add (j*9)).off+4,none⟩=some (.string y.m.text)/\W'.cell? ⟨(ad.add (j*9)).block,(ad.add (j*9)).off+5,none⟩=some (.slice y.m.eA y.m.ex.length y.m.eC)/\W'.cell? ⟨(ad.add (j*9)).block,(ad.add (j*9)).off+6,none⟩=some (.slice y.m.iA y.m.im.length y.m.iC)/\W'.cell? ⟨(ad.add (j*9)).block,(ad.add (j*9)).off+7,none⟩=some (.slice y.m.pA y.m.pa.length y.m.pC)/\W'.cell? ⟨(ad.add (j*9)).block,(ad.add (j*9)).off+8,none⟩=some (.string y.nm)) (first|with_reducible exact HC90.out|with_reducible exact HC9D.out _ HC90.out|with_reducible assumption|with_reducible exact HC9S.out _ _ HC90.out HBW2.out|with_reducible exact HC9A.out _ _ (HC9D.out _ HC90.out)|with_reducible exact HC9A.out _ _ HC90.out|with_reducible exact HC9D.out _ (HC9A.out _ _ HC90.out)|with_reducible exact HC9A.out _ _ (HC9S.out _ _ HC90.out HBW2.out)|with_reducible exact HX4.out _ (HC9S.out _ _ HC90.out HBW2.out) _ (Nat.le_refl _) _ _ _ _ _ rfl|with_reducible exact HX4.out _ (HC9A.out _ _ (HC9S.out _ _ HC90.out HBW2.out)) _ HBW2.out.size _ _ _ _ _ rfl) (first|(go_at_call 146;(with_reducible refine(cD.out _ (HC9L.out _ (by assumption))).mono ?_);rintro e w2 ⟨⟨k2,A2,l2,c2,rfl,ht2,hk2,hl2⟩,hb2⟩;have HBW2:=Hp ((HC9L.out _ (by assumption)).trans (hb2.mono (HC9L.out _ (by assumption)).size));have HT2:=Hp ht2;have HK2:=Hp hk2;have HL2:=Hp hl2;(try(have hz2:=HZN.out w2 hb2;obtain⟨_,z0,z1,z2,z3,zf0,zf1,zf2,zf3⟩:=aB hz2))))
    all_goals(
     go_wp2_with fail
     go_meet
     first
      |exact uN.new HBW2.out HT2.out HK2.out HL2.out
      |exact uN.old hz2 (Nat.le_refl _) HBS.out HBW2.out HT2.out HK2.out HL2.out)
   case rest=>
    obtain⟨B,k2,A2,l2,c2,rfl,rfl,hB,hlo,ht2,hk2,hl2,hb2⟩:=hcut
    obtain⟨w2,rfl⟩:=Nm wc
    have HS2:=Hp (Nat.le_trans HBS.out hb2.size)
    have hG2:=aF hb2 HG.out
    obtain⟨w3,e3,h3,ht3,hb3,ho3⟩:=iO (w:=w) (c':=c2) hG2 (Nat.le_refl _) (HI.out.bel.trans (hb2.mono HI.out.bel.size)) (Nat.le_refl _) ht2
    obtain⟨_,z0,z1,z2,z3,_⟩:=aB hB
    obtain⟨_,g0,g1,g2,g3,gf0,gf1,gf2,gf3⟩:=aB hG2
    have hle2:w.heap.size+2<=wr.heap.size:=by have:=(Array.getElem?_eq_some_iff.1 HI.out.res).1;omega
    have H3:=Hp h3
    have HT3:=Hp ht3
    have HB3:=Hp hb3
    have HR3:=Hp ((ho3.block (w.heap.size+1) (Array.getElem?_eq_some_iff.1 (aF hb2 HI.out.res)).1 (by omega)).trans (aF hb2 HI.out.res))
    have HV3:=Hp (show dN w3 (w.heap.size+2) (.slice oA j oC) (eD k l (cs.take j)) from own_kp (aO HI.out.errs hb2) (ho3.kp hG2 (ts:=[39]) (by simp)) (by decide))
    have HK2:=Hp hk2
    have HL2:=Hp (hl2.trans HLN.out)
    have HZ3:=Hp (show w.heap.size+2<=w3.heap.size from Nat.le_trans hle2 (Nat.le_trans hb2.size ho3.size))
    obtain⟨es,hes⟩:=Nm (eD k l (cs.take j))
    have HLJ:=Hp (show es.length=j by rw[hes,lY,List.length_take];omega)
    have HLE:=Hp (show es.length<=1000000 by have:=HLJ.out;have:=H40.out;omega)
    rw[<-hes]at HV3 HEN
    clear hB hlo ht2 hk2 hl2 hb2 hG2 h3 ht3 hb3 ho3 hes cD HC90 HC9D HC9S HC9A HC9L HC9X p0 p1 p2 p3 p4 p5 p6 p7 p8 hle2
    go_upto_region 7 with fail
    rw[<-e3]
    clear e3
    go_wp2_with (at_builtin;refine uL w3 rfl (.tmp 26) (.tmp 28) rfl (w.heap.size+2) (.slice oA j oC) es E rfl rfl HV3.out HLE.out HZ3.out ?_;intro v' w4 ho4 hk4 hb4;obtain⟨oA',oC',hv4⟩:=bG ho4;rw[List.length_append,HLJ.out]at hv4;subst hv4;have HO4:=Hp ho4;have HK4:=Hp hk4;have HB4:=Hp hb4;clear ho4 hk4 hb4)
    go_roundw
    case rel=>
     have hb:=HB3.out.trans (HB4.out.mono (Nat.le_add_right _ 2))
     exact⟨j+1,oA',oC',by go_num,rfl,by omega,⟨⟨k2,A2,l2,c2,HK4.out _ _ _ _ H3.out (by decide),HT3.out.next hb HK4.out (by decide),HK2.out.trans E1.out,HL2.out⟩,HK4.out _ _ _ _ HR3.out (by decide),by rw[HEN.out];exact HO4.out,hb⟩⟩
    case measure=>(simp[intOf];try omega)
  ·obtain rfl:j=cs.length:=by omega
   obtain⟨k1,A1,l1,c1,hg,ht,e1,e2⟩:=HI.out.reg
   have hv:=HI.out.errs
   rw[List.take_of_length_le (Nat.le_refl _)]at e2 hv
   obtain⟨_,g0,g1,g2,g3,_⟩:=aB hg
   obtain⟨HR,r0,r1,r2,r3,f0,f1,f2,f3⟩:=aB HI.out.res
   have HT:=Hp ht
   have HV:=Hp hv
   have E1:=Hp e1
   have E2:=Hp e2
   have HB:=Hp HI.out.bel
   have HLN:=Hp (show cs.length=(eD k l cs).length by rw[lY])
   clear hg ht e1 e2 hv HI
   go_wp2_with fail
   obtain⟨w5,e5,h5,ht5,hb5,ho5⟩:=iO (w:=w) (k:=Rk) (A:=none) (l:=[]) (c:=0) (c':=c1) (b:=w.heap.size+1) HR.out (by omega) HB.out (Nat.le_refl _) HT.out
   rw[<-e5]
   have hv5:=own_kp HV.out (ho5.kp HR.out (ts:=[39]) (by simp)) (by decide)
   rw[HLN.out]at hv5 ⊢
   exact bodyPost_ret (results_cell_tmp rfl _ _ (w.heap.size+1) 39 _ (0,0) _ rfl h5 Tryz.underlying39 rfl Tryz.RP) rfl ⟨⟨k1,A1,l1,c1,oA,oC,rfl,ht5,E1.out,E2.out,hv5⟩,hb5⟩
end Go.Proofs.YtjiedaialianmaaGreat
