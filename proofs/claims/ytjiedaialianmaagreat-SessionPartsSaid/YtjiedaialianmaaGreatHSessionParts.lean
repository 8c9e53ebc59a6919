import Derived.Test.YtjiedaialianmaaGreatA25
import Derived.Test.YtjiedaialianmaaGreatBLaPa01
import Derived.Test.YtjiedaialianmaaGreatBLaPaPl01
import Derived.Test.YtjiedaialianmaaGreatBLaPaPlRe01
import Derived.Test.YtjiedaialianmaaGreatCParts01
import Derived.Test.YtjiedaialianmaaGreatCParts03
import Derived.Test.YtjiedaialianmaaGreatCParts06
import Derived.Test.YtjiedaialianmaaGreatKTiny
/- SessionParts: commands that are played in two parts are played as one. No condition. -/
open Go
set_option maxRecDepth 100000
set_option maxHeartbeats 8000000
namespace Go.Proofs.YtjiedaialianmaaGreat
open Go.ChangeShapes Go.WideShapes Go.ChangeAt Go.RowKit Go.WideMaps Go.WideElems
open Go.ChangeMaps (setBlock shut_map_nil open_string shut_string keptBut_setBlock frozen?_setBlock heap_setBlock_same)
theorem SessionParts_any (k:Krn) (cA:Option Addr) (cs:List Cm) (cc:Nat) (cut:Int) (w:World) (hk:k.ok w) (hc:nE w cA cs) (hcc:cs.length<=cc/\cc<=maxLen):
  Calls Tryz.prog 7 #[k.v,.slice cA cs.length cc,.int .i64 cut] w fun e w'=>e=.returned (.bool true)/\Below w.heap.size w w':=by
 show Calls Tryz.prog 7 #[.agg #[.int .i64 k.major,.int .i64 k.minor,.slice k.eA k.ex.length k.eC],.slice cA cs.length cc,.int .i64 cut] w _
 have HBw:=Hp (Below.refl w.heap.size w)
 obtain⟨w0,e0⟩:=Nm w
 have HB0:=Hp (show Below w.heap.size w w0 from e0▸Below.refl _ _)
 have HK0:=Hp (show k.ok w0 from e0▸hk)
 have HC0:=Hp (show nE w0 cA cs from e0▸hc)
 subst e0
 obtain⟨w1,hw1⟩:=Nm (w0.alloc (.cells #[.int .i64 k.major,.int .i64 k.minor,.slice k.eA k.ex.length k.eC] 24))
 have hb1:Below w0.heap.size w0 w1:=hw1▸(Below.refl _ _).alloc (Nat.le_refl _) _
 have HB1:=Hp (HB0.out.trans (hb1.mono HB0.out.size))
 have HK1:=Hp (HK0.out.below hb1)
 have HC1:=Hp (HC0.out.below hb1)
 have HR1:=Hp (show w1.heap[w0.heap.size]? =some (.cells #[.int .i64 k.major,.int .i64 k.minor,.slice k.eA k.ex.length k.eC] 24 (0,0)) by rw[hw1];exact heap_alloc_new w0 _)
 have HSZ1:=Hp (show w1.heap.size=w0.heap.size+1 by rw[hw1];simp)
 have hw1':=hw1.symm
 clear hw1 hb1
 have hl63:=hc.len
 unfold big at hl63
 have hlc:=hcc.1
 have HCC:=Hp hcc.1
 clear hk hc hcc
 go_enter Tryz.func7,Tryz.ntmps7
 go_wp2_with fail
 refine(dG _).mono ?_;rintro e w2 ⟨rfl,hb2⟩
 have HB2:=Hp (HB1.out.trans (hb2.mono HB1.out.size))
 have HK2:=Hp (HK1.out.below hb2)
 have HC2:=Hp (HC1.out.below hb2)
 have HR2:=Hp (aF hb2 HR1.out)
 clear hb2
 go_wp2_with fail
 refine(jF _).mono ?_;rintro e w3 ⟨rfl,hb3⟩
 have HB3:=Hp (HB2.out.trans (hb3.mono HB2.out.size))
 have HK3:=Hp (HK2.out.below hb3)
 have HC3:=Hp (HC2.out.below hb3)
 have HR3:=Hp (aF hb3 HR2.out)
 clear hb3
 go_wp2_with fail
 refine(format32 _).mono ?_;rintro e w4 ⟨⟨g,rfl,_,hgok,hgF⟩,hb4⟩
 have HB4:=Hp (HB3.out.trans (hb4.mono HB3.out.size))
 have HK4:=Hp (HK3.out.below hb4)
 have HC4:=Hp (HC3.out.below hb4)
 have HR4:=Hp (aF hb4 HR3.out)
 have HG4:=Hp hgok
 have HGF:=Hp hgF
 clear hb4 hgok hgF
 obtain⟨w5,hw5⟩:=Nm (w4.alloc (.cells #[.slice g.a g.bl.length g.c] 29))
 have hb5:Below w4.heap.size w4 w5:=hw5▸(Below.refl _ _).alloc (Nat.le_refl _) _
 have hneRD:=Hp (Nat.ne_of_lt (Array.getElem?_eq_some_iff.1 HR4.out).1)
 have HB5:=Hp (HB4.out.trans (hb5.mono HB4.out.size))
 have HK5:=Hp (HK4.out.below hb5)
 have HC5:=Hp (HC4.out.below hb5)
 have HR5:=Hp (aF hb5 HR4.out)
 have HG5:=Hp (HG4.out.below hb5)
 have HD5:=Hp (show w5.heap[w4.heap.size]? =some (.cells #[.slice g.a g.bl.length g.c] 29 (0,0)) by rw[hw5];exact heap_alloc_new w4 _)
 have HSZ5:=Hp (show w5.heap.size=w4.heap.size+1 by rw[hw5];simp)
 have hw5':=hw5.symm
 clear hw5 hb5
 obtain⟨E,hE⟩:=Nm (bJ k)
 have HE:=Hp hE
 have f1:=Hp (iT k w5 HK5.out)
 rw[<-hE]at f1
 clear hE
 by_cases t:E=0/\cs.length<=40/\0<=cut/\cut<=(cs.length:Int)
 ·obtain⟨t0,t1,t2,t3⟩:=t
  obtain⟨n,rfl⟩:∃n:Nat,cut=n:=⟨cut.toNat,by omega⟩
  have HK0':=Hp (HE.out.symm.trans t0)
  have H40:=Hp t1
  obtain⟨P,hP⟩:=Nm (fD k F32 cs)
  obtain⟨F1,es1,c1⟩:=P
  have HP:=Hp hP
  have t1':¬((40:Int)<cs.length):=by omega
  have t2':¬((n:Int)<0):=by omega
  have t3':¬((cs.length:Int)<n):=by omega
  have HNL:=Hp (show n<=cs.length by omega)
  subst t0
  clear hP t1 t2 t3
  obtain⟨r0,r1,r2⟩:=qL HR5.out
  go_wp2_with fail
  refine(f1.out).mono ?_;rintro e w6 ⟨rfl,hb6⟩
  have HB6:=Hp (HB5.out.trans (hb6.mono HB5.out.size))
  have HK6:=Hp (HK5.out.below hb6)
  have HC6:=Hp (HC5.out.below hb6)
  have HR6:=Hp (aF hb6 HR5.out)
  have HG6:=Hp (HG5.out.below hb6)
  have HD6:=Hp (aF hb6 HD5.out)
  clear hb6 f1 r0 r1 r2
  have f2:=Hp (play_c (F:=F1) (es:=es1) (c:=c1) (cc:=cc) HK6.out HG6.out HC6.out (by rw[HGF.out];exact HP.out.symm))
  obtain⟨r0,r1,r2⟩:=qL HR6.out
  have d0:=J4 HD6.out
  go_wp2_with fail
  refine(f2.out).mono ?_;rintro e w7 ⟨⟨x,eA,ec,rfl,hrx,hox⟩,hb7⟩
  have HB7:=Hp (HB6.out.trans (hb7.mono HB6.out.size))
  have HK7:=Hp (HK6.out.below hb7)
  have HC7:=Hp (HC6.out.below hb7)
  have HR7:=Hp (aF hb7 HR6.out)
  have HG7:=Hp (HG6.out.below hb7)
  have HD7:=Hp (aF hb7 HD6.out)
  have HX7:=Hp (hrx.own)
  have HO7:=Hp hox
  have HXC:=Hp (And.intro hrx.cap hrx.is)
  clear hrx hox hb7 f2 r0 r1 r2 d0
  obtain⟨w8,hw8⟩:=Nm (w7.alloc (.cells #[.slice x.a x.bl.length x.c] 29))
  have hb8:Below w7.heap.size w7 w8:=hw8▸(Below.refl _ _).alloc (Nat.le_refl _) _
  have hneRM:=Hp (Nat.ne_of_lt (Array.getElem?_eq_some_iff.1 HR7.out).1)
  have hneDM:=Hp (Nat.ne_of_lt (Array.getElem?_eq_some_iff.1 HD7.out).1)
  have HB8:=Hp (HB7.out.trans (hb8.mono HB7.out.size))
  have HK8:=Hp (HK7.out.below hb8)
  have HC8:=Hp (HC7.out.below hb8)
  have HR8:=Hp (aF hb8 HR7.out)
  have HG8:=Hp (HG7.out.below hb8)
  have HD8:=Hp (aF hb8 HD7.out)
  have HX8:=Hp (aO HX7.out hb8)
  have HO8:=Hp (aO HO7.out hb8)
  have HM8:=Hp (show w8.heap[w7.heap.size]? =some (.cells #[.slice x.a x.bl.length x.c] 29 (0,0)) by rw[hw8];exact heap_alloc_new w7 _)
  have HSZ8:=Hp (show w8.heap.size=w7.heap.size+1 by rw[hw8];simp)
  have hw8':=hw8.symm
  clear hw8 hb8
  by_cases tc:c1=0
  ·subst tc
   have hpl:=Kw (n:=n) HK0'.out H40.out (by rw[<-HP.out])
   rw[<-HP.out]at hpl
   obtain⟨P2,hP2⟩:=Nm (fD k F32 (cs.take n))
   obtain⟨F2,es2,c2⟩:=P2
   rw[<-hP2]at hpl
   obtain⟨P3,hP3⟩:=Nm (fD k F2 (cs.drop n))
   obtain⟨F3,es3,c3⟩:=P3
   obtain⟨z2,z3,hes,hfl,hre,hk1,hk2⟩:=hpl
   dsimp only at z2 z3 hes hfl hre hk1 hk2
   rw[<-hP3]at z3 hes hfl
   dsimp only at z3 hes hfl
   have hfl:=hfl.symm
   subst z2 z3 hfl
   have HES:=Hp hes
   have HRE:=Hp hre
   have HP3:=Hp hP3
   have HF1:=Hp hk1
   have HF2:=Hp hk2
   have hlen:(cs.take n).length=n:=by rw[List.length_take];have:=HNL.out;omega
   have hlr:(cs.drop n).length=cs.length -n:=List.length_drop ..
   have cY:=fun W (hW:Below w8.heap.size w8 W)=>play_c (F:=F2) (es:=es2) (c:=0) (cc:=cc) (cs:=cs.take n) (HK8.out.below hW) (HG8.out.below hW) ((HC8.out.below hW).take n) (by rw[HGF.out];exact hP2.symm)
   rw[hlen]at cY
   have CY:=Hp cY
   have HL2:=Hp (show es2.length<=40/\es3.length<=40/\es1.length<=big from by
    have h1:=play_len' k F32 (cs.take n)
    have h2:=play_len' k F2 (cs.drop n)
    have h3:=play_len' k F32 cs
    rw[<-hP2]at h1
    rw[<-hP3]at h2
    rw[<-HP.out]at h3
    have h4:=H40.out
    dsimp only at h1 h2 h3
    rw[hlen]at h1
    rw[hlr]at h2
    have:=HNL.out
    unfold big
    omega)
   obtain⟨A2,hA2⟩:∃A2,(if cc=n then cA else Option.map (fun x:Addr=>x.add (n*9)) cA)=A2:=⟨_,rfl⟩
   have HA2:=Hp hA2
   have hnc:(n:Int)<=cc:=by have:=HNL.out;have:=HCC.out;omega
   have hnl:(n:Int)<=cs.length:=by have:=HNL.out;omega
   clear hes hre hP2 hP3 cY hlen hA2 hk1 hk2
   obtain⟨r0,r1,r2⟩:=qL HR8.out
   have d0:=J4 HD8.out
   have lr:w0.heap.size<w8.heap.size:=(Array.getElem?_eq_some_iff.1 HR8.out).1
   have ld:w4.heap.size<w8.heap.size:=(Array.getElem?_eq_some_iff.1 HD8.out).1
   go_upto_region 9 with fail
   have HCH:=Hp (show fI w8 (fun W'=>Below w8.heap.size w8 W'/\W'.cell? ⟨w0.heap.size,0,none⟩=some (.int .i64 k.major)/\W'.cell? ⟨w0.heap.size,1,none⟩=some (.int .i64 k.minor)/\W'.cell? ⟨w0.heap.size,2,none⟩=some (.slice k.eA k.ex.length k.eC)/\W'.cell? ⟨w4.heap.size,0,none⟩=some (.slice g.a g.bl.length g.c)) from dE (by repeat' first|(with_reducible exact bC.cell (by first|omega|(simp;omega)|(simp only[aA];omega)))|refine bC.and ?_ ?_))
   have HC0:=Hp (HCH.out.now ⟨Below.refl _ _,by assumption,by assumption,by assumption,by assumption⟩)
   have HCD:=Hp HCH.out.D
   have HCS:=Hp HCH.out.S
   have HCA:=Hp HCH.out.A
   have HCX:=Hp HCH.out.X
   have HCL:=Hp HCH.out.L
   go_cut [11,12,8] from 65 to 73 (fun p v e wx=>PlayCut w8 F2 es2 0 p v e wx)
   case first=>
    have HZN:=Hp (show∀W':World,Below (w8.alloc (.cells #[.slice none 0 0] 29)).drew.heap.size (w8.alloc (.cells #[.slice none 0 0] 29)).drew W'->W'.heap[w8.heap.size]? =some (.cells #[.slice none 0 0] 29 (0,0)) from
     fun W' hb=>(hb.block w8.heap.size (by show w8.heap.size<(w8.alloc _).heap.size;simp)).trans (heap_alloc_new w8 _))
    go_region_held3 (fun W'=>Below w8.heap.size w8 W'/\W'.cell? ⟨w0.heap.size,0,none⟩=some (.int .i64 k.major)/\W'.cell? ⟨w0.heap.size,1,none⟩=some (.int .i64 k.minor)/\W'.cell? ⟨w0.heap.size,2,none⟩=some (.slice k.eA k.ex.length k.eC)/\W'.cell? ⟨w4.heap.size,0,none⟩=some (.slice g.a g.bl.length g.c)) (first|with_reducible exact HC0.out|with_reducible exact HCD.out _ HC0.out|with_reducible exact HCS.out _ _ (by assumption) (by assumption)|with_reducible exact HCS.out _ _ HC0.out (by assumption)|with_reducible exact HCS.out _ _ (HCD.out _ HC0.out) (by assumption)|with_reducible exact HCS.out _ _ (HCD.out _ (by assumption)) (by assumption)|with_reducible exact HCD.out _ (by assumption)|with_reducible exact HCA.out _ _ (by assumption)|with_reducible exact HCA.out _ _ HC0.out|with_reducible exact HCA.out _ _ (HCD.out _ HC0.out)|with_reducible exact HCD.out _ (HCA.out _ _ (by assumption))|with_reducible exact HCA.out _ _ (HCS.out _ _ HC0.out (by assumption))|with_reducible exact HCA.out _ _ (HCS.out _ _ (HCD.out _ HC0.out) (by assumption))|with_reducible exact HCX.out _ _ _ _ (Nat.le_refl _) (by assumption)|with_reducible exact HCX.out _ _ _ _ (Nat.le_refl _) (HCS.out _ _ (HCA.out _ _ HC0.out) (by assumption))|with_reducible exact HCX.out _ _ _ _ (Nat.le_refl _) (HCS.out _ _ (HCD.out _ (HCA.out _ _ HC0.out)) (by assumption))|with_reducible assumption|exact HC0.out|exact HCD.out _ HC0.out|exact HCS.out _ _ (by assumption) (by assumption)|exact HCS.out _ _ HC0.out (by assumption)|exact HCS.out _ _ (HCD.out _ HC0.out) (by assumption)|exact HCS.out _ _ (HCD.out _ (by assumption)) (by assumption)|exact HCD.out _ (by assumption)|exact HCA.out _ _ (by assumption)|exact HCA.out _ _ HC0.out|exact HCA.out _ _ (HCD.out _ HC0.out)|exact HCD.out _ (HCA.out _ _ (by assumption))|exact HCA.out _ _ (HCS.out _ _ HC0.out (by assumption))|exact HCA.out _ _ (HCS.out _ _ (HCD.out _ HC0.out) (by assumption))|exact HCX.out _ _ _ _ (Nat.le_refl _) (by assumption)|exact HCX.out _ _ _ _ (Nat.le_refl _) (HCS.out _ _ (HCA.out _ _ HC0.out) (by assumption))|exact HCX.out _ _ _ _ (Nat.le_refl _) (HCS.out _ _ (HCD.out _ (HCA.out _ _ HC0.out)) (by assumption))|assumption) (first|(go_at_call 18;(with_reducible refine(CY.out _ (HCL.out _ (by assumption))).mono ?_);rintro e w9 ⟨⟨f',fA,fc,rfl,hr9,ho9⟩,hb9⟩;have hq:=HCL.out _ (by assumption);have hbw6:=Hp (mR hq hb9);have hrw6:=Hp (hr9.down hq.size);have how6:=Hp (RH ho9 hq.size);(try(have hz6:=HZN.out w9 hb9;have z6:=heap_cell hz6 0;have zf6:=heap_free hz6 0;simp only[List.getElem?_toArray,List.getElem?_cons_zero]at z6))))
    all_goals(
     go_wp2_with fail
     go_meet
     first
      |exact play_fresh hbw6.out hrw6.out how6.out
      |exact play_there hz6 (Nat.le_refl _) hbw6.out hrw6.out how6.out)
   case rest=>
    obtain⟨y,yA,yc,B9,rfl,rfl,rfl,hh9,hB9,hr9,ho9,hb9⟩:=hcut
    obtain⟨w9,rfl⟩:=Nm wc
    clear r0 r1 r2 d0 lr ld
    have HB9:=Hp (HB8.out.trans (hb9.mono HB8.out.size))
    have HK9:=Hp (HK8.out.below hb9)
    have HC9:=Hp (HC8.out.below hb9)
    have HR9:=Hp (aF hb9 HR8.out)
    have HG9:=Hp (HG8.out.below hb9)
    have HD9:=Hp (aF hb9 HD8.out)
    have HX9:=Hp (aO HX8.out hb9)
    have HO9:=Hp (aO HO8.out hb9)
    have HM9:=Hp (aF hb9 HM8.out)
    have HY9:=Hp (hr9.ok (.inr HF2.out))
    have HYC:=Hp (hr9.is)
    have HU9:=Hp ho9
    have HN9:=Hp hh9
    have cZ:=fun c' W (hW:Below w9.heap.size w9 W)=>play_c (F:=F1) (es:=es3) (c:=0) (cc:=c') (cs:=cs.drop n) (HK9.out.below hW) (HY9.out.below hW) (HA2.out▸(HC9.out.below hW).drop cc n HCC.out) (by rw[HYC.out];exact HP3.out.symm)
    rw[hlr]at cZ
    have CZ:=Hp cZ
    clear hh9 hB9 hr9 ho9 hb9 cZ CY HC0 HCD HCS HCA HCL HCX
    obtain⟨r0,r1,r2⟩:=qL HR9.out
    have d0:=J4 HN9.out
    have lr:w0.heap.size<w9.heap.size:=(Array.getElem?_eq_some_iff.1 HR9.out).1
    have ld:B9<w9.heap.size:=(Array.getElem?_eq_some_iff.1 HN9.out).1
    have hA2:=HA2.out
    clear hlr
    go_upto_region 10 with fail
    have HDH:=Hp (show fI w9 (fun W'=>Below w9.heap.size w9 W'/\W'.cell? ⟨w0.heap.size,0,none⟩=some (.int .i64 k.major)/\W'.cell? ⟨w0.heap.size,1,none⟩=some (.int .i64 k.minor)/\W'.cell? ⟨w0.heap.size,2,none⟩=some (.slice k.eA k.ex.length k.eC)/\W'.cell? ⟨B9,0,none⟩=some (.slice y.a y.bl.length y.c)) from dE (by repeat' first|(with_reducible exact bC.cell (by first|omega|(simp;omega)|(simp only[aA];omega)))|refine bC.and ?_ ?_))
    have HD0:=Hp (HDH.out.now ⟨Below.refl _ _,by assumption,by assumption,by assumption,by assumption⟩)
    have HDD:=Hp HDH.out.D
    have HDS:=Hp HDH.out.S
    have HDA:=Hp HDH.out.A
    have HDX:=Hp HDH.out.X
    have HDL:=Hp HDH.out.L
    go_cut [13,14,15] from 75 to 83 (fun p v e wx=>PlayCut w9 F1 es3 0 p v e wx)
    case first=>
     have HZN:=Hp (show∀W':World,Below (w9.alloc (.cells #[.slice none 0 0] 29)).drew.heap.size (w9.alloc (.cells #[.slice none 0 0] 29)).drew W'->W'.heap[w9.heap.size]? =some (.cells #[.slice none 0 0] 29 (0,0)) from
      fun W' hb=>(hb.block w9.heap.size (by show w9.heap.size<(w9.alloc _).heap.size;simp)).trans (heap_alloc_new w9 _))
     go_region_held3 (fun W'=>Below w9.heap.size w9 W'/\W'.cell? ⟨w0.heap.size,0,none⟩=some (.int .i64 k.major)/\W'.cell? ⟨w0.heap.size,1,none⟩=some (.int .i64 k.minor)/\W'.cell? ⟨w0.heap.size,2,none⟩=some (.slice k.eA k.ex.length k.eC)/\W'.cell? ⟨B9,0,none⟩=some (.slice y.a y.bl.length y.c)) (first|with_reducible exact HD0.out|with_reducible exact HDD.out _ HD0.out|with_reducible exact HDS.out _ _ (by assumption) (by assumption)|with_reducible exact HDS.out _ _ HD0.out (by assumption)|with_reducible exact HDS.out _ _ (HDD.out _ HD0.out) (by assumption)|with_reducible exact HDS.out _ _ (HDD.out _ (by assumption)) (by assumption)|with_reducible exact HDD.out _ (by assumption)|with_reducible exact HDA.out _ _ (by assumption)|with_reducible exact HDA.out _ _ HD0.out|with_reducible exact HDA.out _ _ (HDD.out _ HD0.out)|with_reducible exact HDD.out _ (HDA.out _ _ (by assumption))|with_reducible exact HDA.out _ _ (HDS.out _ _ HD0.out (by assumption))|with_reducible exact HDA.out _ _ (HDS.out _ _ (HDD.out _ HD0.out) (by assumption))|with_reducible exact HDX.out _ _ _ _ (Nat.le_refl _) (by assumption)|with_reducible exact HDX.out _ _ _ _ (Nat.le_refl _) (HDS.out _ _ (HDA.out _ _ HD0.out) (by assumption))|with_reducible exact HDX.out _ _ _ _ (Nat.le_refl _) (HDS.out _ _ (HDD.out _ (HDA.out _ _ HD0.out)) (by assumption))|with_reducible assumption|exact HD0.out|exact HDD.out _ HD0.out|exact HDS.out _ _ (by assumption) (by assumption)|exact HDS.out _ _ HD0.out (by assumption)|exact HDS.out _ _ (HDD.out _ HD0.out) (by assumption)|exact HDS.out _ _ (HDD.out _ (by assumption)) (by assumption)|exact HDD.out _ (by assumption)|exact HDA.out _ _ (by assumption)|exact HDA.out _ _ HD0.out|exact HDA.out _ _ (HDD.out _ HD0.out)|exact HDD.out _ (HDA.out _ _ (by assumption))|exact HDA.out _ _ (HDS.out _ _ HD0.out (by assumption))|exact HDA.out _ _ (HDS.out _ _ (HDD.out _ HD0.out) (by assumption))|exact HDX.out _ _ _ _ (Nat.le_refl _) (by assumption)|exact HDX.out _ _ _ _ (Nat.le_refl _) (HDS.out _ _ (HDA.out _ _ HD0.out) (by assumption))|exact HDX.out _ _ _ _ (Nat.le_refl _) (HDS.out _ _ (HDD.out _ (HDA.out _ _ HD0.out)) (by assumption))|assumption) (first|(go_at_call 18;(with_reducible refine(CZ.out _ _ (HDL.out _ (by assumption))).mono ?_);rintro e w10 ⟨⟨f',fA,fc,rfl,hr9,ho9⟩,hb9⟩;have hq:=HDL.out _ (by assumption);have hbw6:=Hp (mR hq hb9);have hrw6:=Hp (hr9.down hq.size);have how6:=Hp (RH ho9 hq.size);(try(have hz6:=HZN.out w10 hb9;have z6:=heap_cell hz6 0;have zf6:=heap_free hz6 0;simp only[List.getElem?_toArray,List.getElem?_cons_zero]at z6))))
     all_goals(
      go_wp2_with fail
      go_meet
      first
       |exact play_fresh hbw6.out hrw6.out how6.out
       |exact play_there hz6 (Nat.le_refl _) hbw6.out hrw6.out how6.out)
    case rest=>
     obtain⟨z,zA,zc,B10,rfl,rfl,rfl,hh10,hB10,hr10,ho10,hb10⟩:=hcut
     obtain⟨w10,rfl⟩:=Nm wc
     clear r0 r1 r2 d0 lr ld hA2
     have HB10:=Hp (HB9.out.trans (hb10.mono HB9.out.size))
     have HK10:=Hp (HK9.out.below hb10)
     have HC10:=Hp (HC9.out.below hb10)
     have HR10:=Hp (aF hb10 HR9.out)
     have HG10:=Hp (HG9.out.below hb10)
     have HD10:=Hp (aF hb10 HD9.out)
     have HX10:=Hp (aO HX9.out hb10)
     have HO10:=Hp (aO HO9.out hb10)
     have HM10:=Hp (aF hb10 HM9.out)
     have HY10:=Hp (HY9.out.below hb10)
     have HU10:=Hp (aO HU9.out hb10)
     have HN10:=Hp (aF hb10 HN9.out)
     have HZ10:=Hp (hr10.ok (.inr HF1.out))
     have HZC:=Hp (hr10.is)
     have HV10:=Hp ho10
     have HQ10:=Hp hh10
     have HXO:=Hp (show x.ok w10 from(show Rt w10 w6.heap.size x F1 from⟨HX10.out,HXC.out.1,HXC.out.2⟩).ok (.inr HF1.out))
     clear hh10 hB10 hr10 ho10 hb10 CZ HD0 HDD HDS HDA HDL HDX
     have HX10:=HXO
     obtain⟨w11,hw11⟩:=Nm (w10.alloc (.cells #[] 30))
     have hb11:Below w10.heap.size w10 w11:=hw11▸(Below.refl _ _).alloc (Nat.le_refl _) _
     have HE11:=Hp (show dN w11 w10.heap.size (.slice (some ⟨w10.heap.size,0,none⟩) 0 0) [] from hw11▸dN.empty w10 w10.heap.size (Nat.le_refl _))
     have HU11:=Hp (aO HU10.out hb11)
     have HB11':=Hp hb11
     have hw11':=hw11.symm
     clear hb11 hw11
     go_wp2_with (first
      |(at_builtin;refine wpList_errs w11 ?_ (.tmp 91) (.tmp 92) ?_ w10.heap.size (.slice (some ⟨w10.heap.size,0,none⟩) 0 0) [] ?_ HE11.out w8.heap.size yA yc es2 ?_ HU11.out (by have:=HL2.out.1;simp only[List.length_nil];omega) HB11'.out.size ?_;rfl;rfl;rfl;rfl
        intro v12 w12 ho12 hb12 _
        rw[List.nil_append]at ho12
        have HE12:=Hp ho12
        have HB12':=Hp (HB11'.out.trans hb12)
        have HV12:=Hp (aO HV10.out (HB11'.out.trans hb12))
        clear ho12 hb12)
      |(at_builtin;refine wpList_errs w12 ?_ (.tmp 93) (.tmp 94) ?_ w10.heap.size v12 es2 ?_ HE12.out w9.heap.size zA zc es3 ?_ HV12.out (by have:=HL2.out.1;have:=HL2.out.2.1;omega) HB12'.out.size ?_;rfl;rfl;rfl;rfl
        intro v13 w13 ho13 hb13 _
        rw[HES.out]at ho13
        obtain⟨A13,c13,rfl,hrow13⟩:=dN.row ho13
        have HW13:=Hp hrow13
        have hb13:=HB12'.out.trans hb13
        clear ho13 hrow13))
     have HB13:=Hp (HB10.out.trans (hb13.mono HB10.out.size))
     have HK13:=Hp (HK10.out.below hb13)
     have HR13:=Hp (aF hb13 HR10.out)
     have HO13:=Hp (aO HO10.out hb13)
     have HM13:=Hp (aF hb13 HM10.out)
     have HZ13:=Hp (HZ10.out.below hb13)
     have HQ13:=Hp (aF hb13 HQ10.out)
     have HX13:=Hp (HX10.out.below hb13)
     clear hb13 HE11 HE12 HB11' HB12' HV12 HU11
     have f5:=Hp (fO A13 eA c13 ec es1 w13 HW13.out (AO HO13.out) HL2.out.2.2)
     go_wp2_with fail
     refine(f5.out).mono ?_;rintro e w14 ⟨rfl,hb14⟩
     have HB14:=Hp (HB13.out.trans (hb14.mono HB13.out.size))
     have HK14:=Hp (HK13.out.below hb14)
     have HR14:=Hp (aF hb14 HR13.out)
     have HM14:=Hp (aF hb14 HM13.out)
     have HZ14:=Hp (HZ13.out.below hb14)
     have HQ14:=Hp (aF hb14 HQ13.out)
     have HX14:=Hp (HX13.out.below hb14)
     clear hb14 f5 HW13
     have f6:=Hp (reopen_c HK14.out HX14.out HXC.out.2 HK0'.out HRE.out)
     obtain⟨r0,r1,r2⟩:=qL HR14.out
     have d0:=J4 HM14.out
     go_wp2_with fail
     refine(f6.out).mono ?_;rintro e w15 ⟨⟨k1,A1,l1,c1,rfl,ht1,hk1,hl1⟩,hb15⟩
     have HB15:=Hp (HB14.out.trans (hb15.mono HB14.out.size))
     have HK15:=Hp (HK14.out.below hb15)
     have HR15:=Hp (aF hb15 HR14.out)
     have HM15:=Hp (aF hb15 HM14.out)
     have HZ15:=Hp (HZ14.out.below hb15)
     have HQ15:=Hp (aF hb15 HQ14.out)
     have HX15:=Hp (HX14.out.below hb15)
     have HP15:=Hp ht1
     have HK1:=Hp hk1
     have HM1:=Hp hl1
     clear ht1 hk1 hl1 hb15 f6 r0 r1 r2 d0
     obtain⟨w16,hw16⟩:=Nm (w15.alloc (.cells #[.int .i64 k1.major,.int .i64 k1.minor,.slice k1.eA k1.ex.length k1.eC,.slice A1 l1.length c1] 39))
     have hb16:Below w15.heap.size w15 w16:=hw16▸(Below.refl _ _).alloc (Nat.le_refl _) _
     have hneRS:=Hp (Nat.ne_of_lt (Array.getElem?_eq_some_iff.1 HR15.out).1)
     have hneQS:=Hp (Nat.ne_of_lt (Array.getElem?_eq_some_iff.1 HQ15.out).1)
     have HB16:=Hp (HB15.out.trans (hb16.mono HB15.out.size))
     have HK16:=Hp (HK15.out.below hb16)
     have HR16:=Hp (aF hb16 HR15.out)
     have HZ16:=Hp (HZ15.out.below hb16)
     have HQ16:=Hp (aF hb16 HQ15.out)
     have HP16:=Hp (HP15.out.below hb16)
     have HS16:=Hp (show w16.heap[w15.heap.size]? =some (.cells #[.int .i64 k1.major,.int .i64 k1.minor,.slice k1.eA k1.ex.length k1.eC,.slice A1 l1.length c1] 39 (0,0)) by rw[hw16];exact heap_alloc_new w15 _)
     have HSZ16:=Hp (show w16.heap.size=w15.heap.size+1 by rw[hw16];simp)
     have hw16':=hw16.symm
     clear hw16 hb16
     have f7:=Hp (reopen_c HK16.out HZ16.out HZC.out HK0'.out HRE.out)
     obtain⟨r0,r1,r2⟩:=qL HR16.out
     have d0:=J4 HQ16.out
     go_wp2_with fail
     refine(f7.out).mono ?_;rintro e w17 ⟨⟨k2,A2,l2,c2,rfl,ht2,hk2,hl2⟩,hb17⟩
     have HB17:=Hp (HB16.out.trans (hb17.mono HB16.out.size))
     have HK17:=Hp (HK16.out.below hb17)
     have HR17:=Hp (aF hb17 HR16.out)
     have HZ17:=Hp (HZ16.out.below hb17)
     have HQ17:=Hp (aF hb17 HQ16.out)
     have HP17:=Hp (HP16.out.below hb17)
     have HS17:=Hp (aF hb17 HS16.out)
     have HJ17:=Hp ht2
     have HK2:=Hp hk2
     have HM2:=Hp hl2
     clear ht2 hk2 hl2 hb17 f7 r0 r1 r2 d0
     obtain⟨w18,hw18⟩:=Nm (w17.alloc (.cells #[.int .i64 k2.major,.int .i64 k2.minor,.slice k2.eA k2.ex.length k2.eC,.slice A2 l2.length c2] 39))
     have hb18:Below w17.heap.size w17 w18:=hw18▸(Below.refl _ _).alloc (Nat.le_refl _) _
     have hneRT:=Hp (Nat.ne_of_lt (Array.getElem?_eq_some_iff.1 HR17.out).1)
     have hneST:=Hp (Nat.ne_of_lt (Array.getElem?_eq_some_iff.1 HS17.out).1)
     have HB18:=Hp (HB17.out.trans (hb18.mono HB17.out.size))
     have HK18:=Hp (HK17.out.below hb18)
     have HR18:=Hp (aF hb18 HR17.out)
     have HP18:=Hp (HP17.out.below hb18)
     have HS18:=Hp (aF hb18 HS17.out)
     have HJ18:=Hp (HJ17.out.below hb18)
     have HT18:=Hp (show w18.heap[w17.heap.size]? =some (.cells #[.int .i64 k2.major,.int .i64 k2.minor,.slice k2.eA k2.ex.length k2.eC,.slice A2 l2.length c2] 39 (0,0)) by rw[hw18];exact heap_alloc_new w17 _)
     have HSZ18:=Hp (show w18.heap.size=w17.heap.size+1 by rw[hw18];simp)
     have hw18':=hw18.symm
     clear hw18 hb18
     have f8:=Hp (Rw k1 k2 A1 A2 c1 c2 l1 l2 w18 HP18.out.1 HP18.out.2 HJ18.out.1 HJ18.out.2 (HK1.out.trans HK2.out.symm) (HM1.out.trans HM2.out.symm))
     obtain⟨_,u0,u1,u2,u3,uf0,uf1,uf2,uf3⟩:=aB HS18.out
     obtain⟨_,v0,v1,v2,v3,vf0,vf1,vf2,vf3⟩:=aB HT18.out
     go_wp2_with fail
     refine(f8.out).mono ?_;rintro e w19 ⟨rfl,hb19⟩
     have HB19:=Hp (HB18.out.trans (hb19.mono HB18.out.size))
     have HK19:=Hp (HK18.out.below hb19)
     have HR19:=Hp (aF hb19 HR18.out)
     have HP19:=Hp (HP18.out.below hb19)
     have HS19:=Hp (aF hb19 HS18.out)
     have HJ19:=Hp (HJ18.out.below hb19)
     have HT19:=Hp (aF hb19 HT18.out)
     clear u0 u1 u2 u3 uf0 uf1 uf2 uf3;clear v0 v1 v2 v3 vf0 vf1 vf2 vf3
     clear hb19 f8
     go_wp2_with fail
     go_ret
     exact⟨by simp,HB19.out⟩
  ·have hc8:c1=8:=by
    have:=DW HK0'.out H40.out
    rw[<-HP.out]at this
    exact this.resolve_left tc
   subst hc8
   go_wp2_with fail
   go_ret
   exact⟨by simp,HB8.out⟩
 ·have HT:=Hp t
  clear t
  obtain⟨r0,r1,r2⟩:=qL HR5.out
  by_cases t0:E=0
  ·by_cases t1:cs.length<=40
   ·have t1':¬((40:Int)<cs.length):=by omega
    by_cases t2:cut<0
    ·subst t0
     go_wp2_with fail
     refine(f1.out).mono ?_;rintro e w6 ⟨rfl,hb6⟩
     have HB6:=Hp (HB5.out.trans (hb6.mono HB5.out.size))
     go_wp2_with fail
     go_ret
     exact⟨rfl,HB6.out⟩
    ·have t3:(cs.length:Int)<cut:=by have:=HT.out;omega
     subst t0
     go_wp2_with fail
     refine(f1.out).mono ?_;rintro e w6 ⟨rfl,hb6⟩
     have HB6:=Hp (HB5.out.trans (hb6.mono HB5.out.size))
     go_wp2_with fail
     go_ret
     exact⟨rfl,HB6.out⟩
   ·have t1':(40:Int)<cs.length:=by omega
    subst t0
    go_wp2_with fail
    refine(f1.out).mono ?_;rintro e w6 ⟨rfl,hb6⟩
    have HB6:=Hp (HB5.out.trans (hb6.mono HB5.out.size))
    go_wp2_with fail
    go_ret
    exact⟨rfl,HB6.out⟩
  ·have t1:(E != 0)=true:=by simp[t0]
   go_wp2_with fail
   refine(f1.out).mono ?_;rintro e w6 ⟨rfl,hb6⟩
   have HB6:=Hp (HB5.out.trans (hb6.mono HB5.out.size))
   go_wp2_with fail
   go_ret
   exact⟨rfl,HB6.out⟩
theorem UJ :joinedFacts Tryz.prog 7 Tryz.f7 Rows.sessionPartsSpec Rows.sessionPartsRow=true:=by
 unfold joinedFacts
 simp only[Bool.and_eq_true]
 and_intros
 ·as_aux_lemma=>kernel_rfl
 ·exact Tryz.laidOut
 ·exact Tryz.Sa
 ·as_aux_lemma=>kernel_rfl
 ·as_aux_lemma=>kernel_rfl
 ·as_aux_lemma=>kernel_rfl
 ·exact Tryz.UF
 ·as_aux_lemma=>kernel_rfl
 ·exact Tryz.SS
 ·as_aux_lemma=>kernel_rfl
 ·as_aux_lemma=>kernel_rfl
 ·as_aux_lemma=>kernel_rfl
 ·as_aux_lemma=>kernel_rfl
 ·as_aux_lemma=>kernel_rfl
 ·as_aux_lemma=>kernel_rfl
 ·as_aux_lemma=>kernel_rfl
 ·as_aux_lemma=>kernel_rfl
 ·as_aux_lemma=>kernel_rfl
 ·as_aux_lemma=>kernel_rfl
 ·as_aux_lemma=>kernel_rfl
 ·as_aux_lemma=>kernel_rfl
 ·as_aux_lemma=>kernel_rfl
 ·exact Tryz.Sc
 ·as_aux_lemma=>kernel_rfl
 ·exact Tryz.jD
 ·exact Tryz.kY
 ·exact Tryz.rW
 ·exact Tryz.xI
 ·as_aux_lemma=>kernel_rfl
 ·as_aux_lemma=>kernel_rfl
 ·as_aux_lemma=>kernel_rfl
 ·as_aux_lemma=>kernel_rfl
theorem sF (os:Os) (started:os.Started) (H:Type) (enc:TypeId×Value->H):
  ReturnsInHanded {} Tryz.checked os 7 .any (Rows.sessionPartsSpec.pre6 enc Tryz.prog Tryz.f7 Rows.sessionPartsRow.domain false) (Rows.sessionPartsSpec.post enc Tryz.prog Tryz.f7 false true false false):=by
 refine returnsInHanded_of_change_sized (C:=Tryz.checked) Tryz.own started (by kernel_rfl) Tryz.func7
  (ChangeSpec.witness6 (enc:=enc) (C:=Tryz.checked) false ⟨#[],#[.agg #[.int .i64 0,.int .i64 0,.slice none 0 0],.slice none 0 0,.int .i64 0],[]⟩ 8 (by kernel_rfl) (by kernel_rfl) (by kernel_rfl) (by kernel_rfl)) ?_
 intro W base args ds gs before hval0 hW hcnd hsz0 _
 have hval:∀(j:Nat) t v,Tryz.f7.params[j]? =some t->args[j]? =some v->Value.okWide Tryz.prog W .any base t v:=hval0
 have hsz:(DataW.weightsEach Tryz.prog (Tryz.f7.params.toList++Rows.sessionPartsSpec.plain.varTypes Tryz.prog) (ds++gs)).all (· <=reachBytes)=true:=hsz0
 have hW':=hW
 obtain⟨p,q,hA0,hV,rfl,hfz,hnd⟩:=hW
 have hA:DataW.TrodAll enc Tryz.prog W 0 (fun _=>true) true Tryz.f7.params.toList args.toList ds p:=hA0
 rw[Tryz.params7]at hA hval hsz
 obtain⟨v0,vs0,d0,ds0,p0,q0,hargs,rfl,rfl,h0,r0⟩:=trodAll_cons hA
 obtain⟨v1,vs1,d1,ds1,p1,q1,rfl,rfl,rfl,h1,r1⟩:=trodAll_cons r0
 obtain⟨v2,vs2,d2,ds2,p2,q2,rfl,rfl,rfl,h2,r2⟩:=trodAll_cons r1
 obtain⟨rfl,rfl,rfl⟩:=trodAll_nil r2
 obtain rfl:args=#[v0,v1,v2]:=by cases args;simp_all
 obtain⟨rfl,rfl⟩:=trodVars_none hV
 have ft0:=fF hsz (j:=0) rfl rfl
 obtain⟨k,rfl,ok0⟩:=nO (hval 0 24 v0 rfl rfl) h0 ft0
 have ft1:=fF hsz (j:=1) rfl rfl
 obtain⟨lA,l,lc,rfl,ok1⟩:=UD (hval 1 25 v1 rfl rfl) h1 ft1
 obtain⟨cut,rfl,rfl,rfl,w2⟩:=open_int Tryz.underlying3 (hval 2 3 v2 rfl rfl) h2
 refine(SessionParts_any k lA l lc cut W ok0 ok1 (cmds_cap h1)).mono fun e W' ⟨he,hb⟩=>?_
 subst he
 exact⟨_,rfl,nZ Tryz.laidOut hW' rfl (by decide+kernel) rfl Tryz.underlying4 rfl rfl rfl hb⟩
theorem sessionParts_holds :Rows.SessionPartsSaid:=
 OpenClaim.holds_of_wide 7 Tryz.f7 rfl rfl rfl rfl rfl rfl rfl ⟨rfl,rfl,rfl,rfl,rfl⟩ rfl rfl rfl rfl rfl (by kernel_rfl) Tryz.func7 UJ
  (of_decide_eq_true (by kernel_rfl)) (by unfold Func.isWrapper;first|(rw[if_pos (by decide+kernel)];kernel_rfl)|(rw[if_neg (by decide+kernel)];exact⟨rfl,rfl⟩))
  (fun os started H enc _=>sF os started H enc)
#print axioms sessionParts_holds
end Go.Proofs.YtjiedaialianmaaGreat
