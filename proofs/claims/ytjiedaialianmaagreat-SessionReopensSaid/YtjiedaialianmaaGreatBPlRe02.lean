import Derived.Test.YtjiedaialianmaaGreatBCoPlRe03
import Derived.Test.YtjiedaialianmaaGreatBPlReRu08
open Go
set_option maxRecDepth 100000
set_option maxHeartbeats 8000000
namespace Go.Proofs.YtjiedaialianmaaGreat
open Go.RowKit Go.Lib
theorem dL.from_ {W:World}{k:Krn}{A:Option Addr}{l:List Plc}(h:dL W k A l)(c:Nat):Rn W W k A l c:=⟨h.1,h.2.each,h.2.len,.inl h.2.row,GZ4 _ _⟩
structure Ob (w:World)(k:Krn)(R:List ByteArray)(j:Nat)(W:World):Prop where
 reg:∃k' A' l' c',W.heap[w.heap.size+2]? =some (.cells (rgA k' A' l' c') 39 (0,0))/\dL W k' A' l'/\k'.bare=k.bare/\aD l'=aD (reL k (R.take j))
 res:W.heap[w.heap.size+1]? =some (.cells #[.int .i64 0,.int .i64 0,.slice none 0 0,.slice none 0 0] 39 (0,0))
 bel:Below w.heap.size w W
theorem wU (k:Krn)(A:Option Addr)(R:List ByteArray)(c:Nat)(w:World)(hk:k.ok w)(hA:jK w A R)(hk0:bJ k=0):
  Calls Tryz.prog 68 #[k.v,.slice A R.length c] w fun e w'=>(∃k' A' l' c',e=.returned (rgV k' A' l' c')/\dL w' k' A' l'/\k'.bare=k.bare/\aD l'=aD (reL k R))/\Below w.heap.size w w':=by
 obtain⟨w0,hw0⟩:=Nm (w.alloc (.cells #[.int .i64 k.major,.int .i64 k.minor,.slice k.eA k.ex.length k.eC] 24))
 obtain⟨w1,hw1⟩:=Nm (w0.alloc (.cells #[.int .i64 0,.int .i64 0,.slice none 0 0,.slice none 0 0] 39))
 obtain⟨w2,hw2⟩:=Nm (w1.alloc (.cells #[.int .i64 k.major,.int .i64 k.minor,.slice k.eA k.ex.length k.eC,.slice none 0 0] 39))
 have hb0:Below w.heap.size w w0:=hw0▸ZB
 have hb1:Below w0.heap.size w0 w1:=hw1▸ZB
 have hb2:Below w1.heap.size w1 w2:=hw2▸ZB
 have z0:w0.heap.size=w.heap.size+1:=by rw[hw0];simp
 have z1:w1.heap.size=w.heap.size+2:=by rw[hw1];simp;omega
 have hB2:=hb0.trans ((hb1.mono hb0.size).trans (hb2.mono (GY1 hb0.size hb1.size)))
 have HI2:=Hp (show Ob w k R 0 w2 from⟨⟨k,none,[],0,by rw[hw2,<-z1];exact heap_alloc_new w1 _,⟨hk.below hB2,⟨Row.nil,Nat.zero_le _,by simp⟩⟩,rfl,rfl⟩,
  aF hb2 (show w1.heap[w.heap.size+1]? =_ by rw[hw1,<-z0];exact heap_alloc_new w0 _),hB2⟩)
 have hK1:=aF hb1 (show w0.heap[w.heap.size]? =some (.cells #[.int .i64 k.major,.int .i64 k.minor,.slice k.eA k.ex.length k.eC] 24 (0,0)) by rw[hw0];exact heap_alloc_new w _)
 have k0:=heap_cell hK1 0
 have k1:=heap_cell hK1 1
 have k2:=heap_cell hK1 2
 simp only[GZ2,GZ0,GZ1]at k0 k1 k2
 have HA:=Hp hA
 have HK0:=Hp hk0
 have hn:=hA.len
 unfold big at hn
 have hw0':=hw0.symm
 have hw1':=hw1.symm
 have hw2':=Hp hw2.symm
 clear hw0 hw1 hw2 hb0 hb1 hb2 hB2 hk hA hk0 hK1
 go_enter Tryz.func68,Tryz.ntmps68
 go_wp2_with fail
 rw[hw2'.out]
 go_loopw [6] (fun i wr=>∃j:Nat,i=.int .i64 j/\j<=R.length/\Ob w k R j wr) (fun i _=>R.length -(intOf i).toNat)
 case atStart=>exact⟨0,rfl,Nat.zero_le _,HI2.out⟩
 case round=>
  obtain⟨j,rfl,hj,hI⟩:=hrel
  have HI:=Hp hI
  clear hI
  by_cases hlt:j<R.length
  ·have hlt':(j:Int)<R.length:=by omega
   obtain⟨ad,rfl,hab,s0⟩:=nT (HA.below HI.bel).row (GZ4 _ _) j hlt
   have HNX:=Hp (G9 (k:=k) hlt)
   have hsz:=HA.each _ (GZ9 hlt)
   obtain⟨s,hs⟩:=Nm (R[j]'hlt)
   rw[<-hs]at s0 HNX hsz
   have e0:s=sof (bytesOf s):=(iJ s).symm
   have cD:=Hp (fun W=>show Calls Tryz.prog 65 #[.string s] W _ from by
    have:=Dw (bytesOf s) W (by rw[rD,<-e0];exact hsz)
    rw[<-e0]at this
    exact this)
   obtain⟨D,hD⟩:=Nm (aS (bytesOf s))
   have HDO:=Hp (fun h=>uM (l:=bytesOf s) h)
   rw[<-hD]at cD HNX HDO
   obtain⟨b,hb⟩:=Nm (decide (D.1=0))
   rw[<-hb]at cD
   have HBD:=Hp hb
   clear hs e0 hD hsz hb
   go_upto_region 6 with(go_at_call 65;refine(cD.out _).mono ?_;rintro e w7 ⟨⟨m,rfl,hok,hown,hsame⟩,hb7⟩;have HOK7:=Hp hok;have HSA:=Hp hsame;have HB7:=Hp hb7;clear hok hown hsame hb7)
   obtain⟨w8,hw8⟩:=Nm (w7.alloc (.cells (cmA ⟨D.2.kind,m,D.2.nm⟩) 102))
   have hb8:Below w7.heap.size w7 w8:=hw8▸ZB
   obtain⟨p0,p1,p2,p3,p4,p5,p6,p7,p8⟩:=dJ (W:=w8) (b:=w7.heap.size) (c:=⟨D.2.kind,m,D.2.nm⟩) (by rw[hw8];exact heap_alloc_new w7 _)
   have hb78:=HB7.trans (hb8.mono HB7.size)
   obtain⟨k1,A1,l1,c1,hg,ht,e1,e2⟩:=HI.reg
   have HG8:=Hp (aF hb78 hg)
   have HT8:=Hp (ht.below hb78)
   have HR8:=Hp (aF hb78 HI.res)
   have HB8:=Hp (HI.bel.trans (hb78.mono HI.bel.size))
   have HM8:=Hp (HOK7.below hb8)
   have E1:=Hp e1
   have E2:=Hp e2
   obtain⟨_,g0,g1,g2,g3,_⟩:=aB HG8.out
   rw[<-hw8]
   clear hw8 hb8 hb78 s0 hg ht e1 e2
   by_cases d:D.1=0
   ·obtain rfl:b=true:=by rw[HBD.out];simp[d]
    have hce:RL ⟨D.2.kind,m,D.2.nm⟩=0:=by
     rw[<-HDO.out d]
     exact Sr (show Cm.bare _=Cm.bare _ by unfold Cm.bare;simp only[iL HSA.out])
    have hr1:aZ k1 l1=0:=by rw[kQ E1.out E2.out];exact oO HK0.out _
    have c3:=Hp (GH k1 A1 c1 l1 ⟨D.2.kind,m,D.2.nm⟩ w8 w8 (HT8.from_ c1) HM8.out (GY1 (JL hce) (by unfold big;omega)) hr1)
    have HN2:=Hp (show aD (doL k1 l1 ⟨D.2.kind,m,D.2.nm⟩)=aD (reL k (R.take (j+1))) by
     rw[HNX.out,if_pos d]
     exact Su E1.out E2.out (show Cm.bare _=Cm.bare _ by unfold Cm.bare;simp only[iL HSA.out]))
    clear hce d hr1
    go_wp2_with fail
    refine(c3.out).mono ?_;rintro e w9 ⟨⟨k2,A2,l2,c2,rfl,ht2,hk2,hl2⟩,hb9⟩
    have hG9:=aF hb9 HG8.out
    obtain⟨hg4,ho4⟩:=gY hG9 (.int .i64 k2.major) (.int .i64 k2.minor) (.slice k2.eA k2.ex.length k2.eC) (.slice A2 l2.length c2)
    obtain⟨_,g0,g1,g2,g3,gf0,gf1,gf2,gf3⟩:=aB hG9
    have hR9:=aF hb9 HR8.out
    have HN:=Hp (show Ob w k R (j+1) _ from⟨⟨k2,A2,l2,c2,hg4,ht2.there.other ⟨_,_,_,_,_,_,_,_,hG9⟩ ho4,hk2.trans E1.out,hl2.trans HN2.out⟩,(ho4.block _ (ZL hR9) (by omega)).trans hR9,
     (HB8.trans (hb9.mono HB8.size)).trans ((ho4.below (GY2 (ZL hG9))).mono (by omega))⟩)
    clear ht2 hk2 hl2 hb9 hG9 hg4 ho4 hR9 c3 p0 p1 p2 p3 p4 p5 p6 p7 p8
    go_wp2_with fail
    go_roundw
    case rel=>exact⟨j+1,by go_num,by omega,HN.out⟩
    case measure=>(simp[intOf];try omega)
   ·obtain rfl:b=false:=by rw[HBD.out];simp[d]
    have HN:=Hp (show Ob w k R (j+1) w8 from⟨⟨k1,A1,l1,c1,HG8.out,HT8.out,E1.out,by rw[HNX.out,if_neg d];exact E2.out⟩,HR8.out,HB8.out⟩)
    clear d p0 p1 p2 p3 p4 p5 p6 p7 p8 g0 g1 g2 g3
    go_wp2_with fail
    go_roundw
    case rel=>exact⟨j+1,by go_num,by omega,HN.out⟩
    case measure=>(simp[intOf];try omega)
  ·obtain rfl:j=R.length:=by omega
   obtain⟨k1,A1,l1,c1,hg,ht,e1,e2⟩:=HI.reg
   rw[List.take_of_length_le (GZ3 _)]at e2
   obtain⟨_,g0,g1,g2,g3,_⟩:=aB hg
   obtain⟨HR,r0,r1,r2,r3,f0,f1,f2,f3⟩:=aB HI.res
   have HT:=Hp ht
   have E1:=Hp e1
   have E2:=Hp e2
   have HB:=Hp HI.bel
   clear hg ht e1 e2 HI
   go_wp2_with fail
   obtain⟨h5,ho5⟩:=gY HR.out (.int .i64 k1.major) (.int .i64 k1.minor) (.slice k1.eA k1.ex.length k1.eC) (.slice A1 l1.length c1)
   exact bodyPost_ret (results_cell_row rfl _ _ (w.heap.size+1) 39 _ (0,0) _ rfl h5 Tryz.underlying39 rfl Tryz.RP) rfl ⟨⟨k1,A1,l1,c1,rfl,HT.other ⟨_,_,_,_,_,_,_,_,HR.out⟩ ho5,E1.out,E2.out⟩,HB.trans ((ho5.below (GY2 (ZL HR.out))).mono (by omega))⟩
end Go.Proofs.YtjiedaialianmaaGreat
