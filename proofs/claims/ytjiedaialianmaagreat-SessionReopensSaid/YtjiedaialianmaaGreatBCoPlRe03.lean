import Derived.Test.YtjiedaialianmaaGreatA22
import Derived.Test.YtjiedaialianmaaGreatBCoPlRe02
open Go
set_option maxRecDepth 100000
set_option maxHeartbeats 4000000
namespace Go.Proofs.YtjiedaialianmaaGreat
open Go.RowKit
open Gs (Tx)
theorem Py {W:World}{b:Nat}{c0 c1 c2 c3 c4 c5 c6 c7 c8:Value}{t:TypeId}(h:W.heap[b]? =some (.cells #[c0,c1,c2,c3,c4,c5,c6,c7,c8] t (0,0)))(x1 x2 x3 x4 x5 x6 x7:Value):
  ∃W',W'=((((((W.setCell ⟨b,1,none⟩ x1).setCell ⟨b,2,none⟩ x2).setCell ⟨b,3,none⟩ x3).setCell ⟨b,4,none⟩ x4).setCell ⟨b,5,none⟩ x5).setCell ⟨b,6,none⟩ x6).setCell ⟨b,7,none⟩ x7/\
   W'.heap[b]? =some (.cells #[c0,x1,x2,x3,x4,x5,x6,x7,c8] t (0,0))/\Only b W W':=by
 have h1:=dS 1 x1 #[c0,x1,c2,c3,c4,c5,c6,c7,c8] h rfl
 have h2:=dS 2 x2 #[c0,x1,x2,c3,c4,c5,c6,c7,c8] h1 rfl
 have h3:=dS 3 x3 #[c0,x1,x2,x3,c4,c5,c6,c7,c8] h2 rfl
 have h4:=dS 4 x4 #[c0,x1,x2,x3,x4,c5,c6,c7,c8] h3 rfl
 have h5:=dS 5 x5 #[c0,x1,x2,x3,x4,x5,c6,c7,c8] h4 rfl
 have h6:=dS 6 x6 #[c0,x1,x2,x3,x4,x5,x6,c7,c8] h5 rfl
 have h7:=dS 7 x7 #[c0,x1,x2,x3,x4,x5,x6,x7,c8] h6 rfl
 exact⟨_,rfl,h7,((((((Only.set 1 x1).trans (Only.set 2 x2)).trans (Only.set 3 x3)).trans (Only.set 4 x4)).trans (Only.set 5 x5)).trans (Only.set 6 x6)).trans (Only.set 7 x7)⟩
theorem JC (nm:ByteArray):RL ⟨2,zeroMod,nm⟩=if isName nm=true then 0 else 1:=by
 have h:RL ⟨2,zeroMod,nm⟩=Cf 2 (Si zeroMod) (nm.toList==[]) (isName nm) (aL zeroMod):=UR 2 zeroMod nm
 rw[h]
 generalize(nm.toList==[])=Z
 generalize aL zeroMod=M
 cases isName nm<;>cases Z<;>rfl
theorem FX (nm:ByteArray):RL ⟨4,zeroMod,nm⟩=if(nm.toList==[])=true then 0 else 1:=by
 have h:RL ⟨4,zeroMod,nm⟩=Cf 4 (Si zeroMod) (nm.toList==[]) (isName nm) (aL zeroMod):=UR 4 zeroMod nm
 rw[h]
 generalize isName nm=I
 generalize aL zeroMod=M
 cases(nm.toList==[])<;>cases I<;>rfl
theorem Im {k:Int}(h1:k≠1)(h2:k≠2)(h3:k≠3)(h4:k≠4)(m:Mod)(nm:ByteArray):RL ⟨k,m,nm⟩=7:=by
 unfold RL
 rw[if_pos (by show k<1\/4<k;omega)]
theorem Dw (l:List UInt8)(w:World)(hl:l.length<=big):
  Calls Tryz.prog 65 #[.string (sof l)] w fun e w'=>(∃m:Mod,e=.returned (.tuple #[(⟨(aS l).2.kind,m,(aS l).2.nm⟩:Cm).v,.bool (decide ((aS l).1=0))])/\m.ok w'/\m.own w' w.heap.size/\gI m (aS l).2.m)/\Below w.heap.size w w':=by
 cases l with
 |nil=>
  go_enter Tryz.func65,Tryz.ntmps65
  go_wp2_with fail
  have hg:=heap_alloc_new w (.cells #[.int .i64 0,.string ⟨#[]⟩,.int .i64 0,.int .i64 0,.string ⟨#[]⟩,.slice none 0 0,.slice none 0 0,.slice none 0 0,.string ⟨#[]⟩] 102)
  refine bodyPost_ret (results_cell_tmp rfl _ _ w.heap.size 102 _ (0,0) _ rfl hg Tryz.underlying102 rfl Tryz.iK) rfl ?_
  exact⟨⟨zeroMod,rfl,zero_ok _,dW _ _,⟨rfl,rfl,rfl,rfl,rfl,rfl,rfl⟩⟩,ZB⟩
 |cons b r=>
  have e0:=Tp b r
  obtain⟨K,hK⟩:∃K:Int,K=(b.toNat:Int):=⟨_,rfl⟩
  have e1:∀h,((sof (b::r))[0]'h)=b:=fun _=>rfl
  have e2:wrap64 (b.toNat:Int)=K:=by rw[hK];have:=b.toNat_lt;unfold wrap64;omega
  have e3:(sof (b::r)).extract 1 (r.length+1)=sof r:=ba_eq (by simp[ByteArray.data_extract])
  have HK:=Hp hK
  obtain⟨w0,hw0⟩:∃w0,w0=(w.alloc (.cells #[.int .i64 0,.string ⟨#[]⟩,.int .i64 0,.int .i64 0,.string ⟨#[]⟩,.slice none 0 0,.slice none 0 0,.slice none 0 0,.string ⟨#[]⟩] 102)).alloc (.cells #[.int .i64 K,.string ⟨#[]⟩,.int .i64 0,.int .i64 0,.string ⟨#[]⟩,.slice none 0 0,.slice none 0 0,.slice none 0 0,.string ⟨#[]⟩] 102):=⟨_,rfl⟩
  have hw0':=Hp hw0.symm
  have HB0:=Hp (show Below w.heap.size w w0 from hw0▸((ZB).alloc (by simp) _))
  have HR0:=Hp (show w0.heap[w.heap.size]? =some (.cells #[.int .i64 0,.string ⟨#[]⟩,.int .i64 0,.int .i64 0,.string ⟨#[]⟩,.slice none 0 0,.slice none 0 0,.slice none 0 0,.string ⟨#[]⟩] 102 (0,0)) by rw[hw0,heap_alloc_old _ _ (by simp)];exact heap_alloc_new w _)
  have HQ0:=Hp (show w0.heap[w.heap.size+1]? =some (.cells #[.int .i64 K,.string ⟨#[]⟩,.int .i64 0,.int .i64 0,.string ⟨#[]⟩,.slice none 0 0,.slice none 0 0,.slice none 0 0,.string ⟨#[]⟩] 102 (0,0)) by
   rw[hw0]
   have:=heap_alloc_new (w.alloc (.cells #[.int .i64 0,.string ⟨#[]⟩,.int .i64 0,.int .i64 0,.string ⟨#[]⟩,.slice none 0 0,.slice none 0 0,.slice none 0 0,.string ⟨#[]⟩] 102)) (.cells #[.int .i64 K,.string ⟨#[]⟩,.int .i64 0,.int .i64 0,.string ⟨#[]⟩,.slice none 0 0,.slice none 0 0,.slice none 0 0,.string ⟨#[]⟩] 102)
   simpa using this)
  obtain⟨⟨q0,q1,q2,q3,q4,q5,q6,q7,q8⟩,g0,g1,g2,g3,g4,g5,g6,g7,g8⟩:=Rv HQ0.out
  obtain⟨⟨r0,r1,r2,r3,r4,r5,r6,r7,r8⟩,f0,f1,f2,f3,f4,f5,f6,f7,f8⟩:=Rv HR0.out
  have hlt:w.heap.size+1<w0.heap.size:=(ZL HQ0.out)
  have HL:=Hp hl
  clear hK hw0 hl
  by_cases t1:K=1
  ·subst t1
   have cd:=Hp (fun W=>wV r W (by have:=HL.out;simp only[GY8]at this;omega))
   have HCD:=Hp (show aS (b::r)=if dO r≠0 then(1,jP)else(0,⟨1,iD r,⟨#[]⟩⟩) by unfold aS;simp only;rw[<-HK.out];rfl)
   obtain⟨E,hE⟩:=Nm (dO r)
   rw[<-hE]at cd HCD
   obtain⟨D,hD⟩:=Nm (iD r)
   rw[<-hD]at cd HCD
   clear hE hD HL r0 r1 r2 r3 r4 r5 r6 r7 r8 f0 f1 f2 f3 f4 f5 f6 f7 f8 g0 g1 g2 g3 g4 g5 g6 g7 g8
   go_enter Tryz.func65,Tryz.ntmps65
   go_upto_region 4 with fail
   rw[hw0'.out]
   clear hw0'
   go_wp2_with fail
   refine(cd.out _).mono ?_;rintro e w2 ⟨⟨m,rfl,hok,hown,hsame⟩,hb2⟩
   obtain⟨w3,hw3⟩:=Nm (w2.alloc (.cells #[.string m.name,.int .i64 m.major,.int .i64 m.minor,.string m.text,.slice m.eA m.ex.length m.eC,.slice m.iA m.im.length m.iC,.slice m.pA m.pa.length m.pC] 70))
   have hb3:Below w2.heap.size w2 w3:=hw3▸ZB
   obtain⟨m0,m1,m2,m3,m4,m5,m6⟩:=RF (show w3.heap[w2.heap.size]? =_ by rw[hw3];exact heap_alloc_new w2 _)
   have HR3:=Hp (aF hb3 (aF hb2 HR0))
   have HQ3:=Hp (aF hb3 (aF hb2 HQ0))
   have HB3:=Hp (HB0.trans ((hb2.mono HB0.size).trans (hb3.mono (GY1 HB0.size hb2.size))))
   have HOW3:=Hp ((hown.below hb3).le HB0.size)
   have HOK2:=Hp hok
   have HSA:=Hp hsame
   have hne:w.heap.size+1<w2.heap.size:=GY0 hlt hb2.size
   obtain⟨⟨r0,r1,r2,r3,r4,r5,r6,r7,r8⟩,f0,f1,f2,f3,f4,f5,f6,f7,f8⟩:=Rv HR3.out
   obtain⟨⟨q0,q1,q2,q3,q4,q5,q6,q7,q8⟩,g0,g1,g2,g3,g4,g5,g6,g7,g8⟩:=Rv HQ3.out
   have hw3':=hw3.symm
   clear hw3 hb2 hb3 hok hown hsame cd
   by_cases s:E=0
   ·subst s
    have HCE:=Hp (show aS (b::r)=(0,⟨1,D,⟨#[]⟩⟩) by rw[HCD.out,if_neg (by decide)])
    clear HCD
    go_upto_region 11 with fail
    obtain⟨w4,e4,h4,ho4⟩:=Py HQ3.out (.string m.name) (.int .i64 m.major) (.int .i64 m.minor) (.string m.text) (.slice m.eA m.ex.length m.eC) (.slice m.iA m.im.length m.iC) (.slice m.pA m.pa.length m.pC)
    rw[<-e4]
    have hkp:=ho4.kp HQ3.out (ts:=[102]) (by simp)
    have HOW4:=Hp (HOW3.kp hkp (by decide) (by decide) (by decide))
    have HR4:=Hp ((ho4.block w.heap.size (ZL HR3.out) (by omega)).trans HR3.out)
    have HB4:=Hp (HB3.trans ((ho4.below (GY2 (ZL HQ3.out))).mono (by omega)))
    obtain⟨⟨q0,q1,q2,q3,q4,q5,q6,q7,q8⟩,_⟩:=Rv h4
    obtain⟨⟨r0,r1,r2,r3,r4,r5,r6,r7,r8⟩,f0,f1,f2,f3,f4,f5,f6,f7,f8⟩:=Rv HR4.out
    clear e4 h4 ho4 hkp m0 m1 m2 m3 m4 m5 m6 hw3' g0 g1 g2 g3 g4 g5 g6 g7 g8
    go_wp2_with fail
    obtain⟨hg,ho⟩:=Uq HR4.out (.int .i64 1) (.string m.name) (.int .i64 m.major) (.int .i64 m.minor) (.string m.text) (.slice m.eA m.ex.length m.eC) (.slice m.iA m.im.length m.iC) (.slice m.pA m.pa.length m.pC) (.string ⟨#[]⟩)
    refine bodyPost_ret (results_cell_tmp rfl _ _ w.heap.size 102 _ (0,0) _ rfl hg Tryz.underlying102 rfl Tryz.iK) rfl ?_
    rw[HCE.out]
    have hown:=HOW4.kp (ho.kp HR4.out (ts:=[102]) (by simp)) (by decide) (by decide) (by decide)
    exact⟨⟨m,rfl,hown.ok ⟨rfl,rfl,rfl,rfl,rfl,rfl,rfl⟩ HOK2.out,hown,HSA.out⟩,HB4.trans (ho.below (GY2 (ZL HR4.out)))⟩
   ·have s':(E != 0)=true:=by simp[s]
    have HCE:=Hp (show aS (b::r)=(1,jP) by rw[HCD.out,if_pos s])
    clear s HCD
    go_wp2_with fail
    obtain⟨hg,ho⟩:=Uq HR3.out (.int .i64 0) (.string ⟨#[]⟩) (.int .i64 0) (.int .i64 0) (.string ⟨#[]⟩) (.slice none 0 0) (.slice none 0 0) (.slice none 0 0) (.string ⟨#[]⟩)
    refine bodyPost_ret (results_cell_tmp rfl _ _ w.heap.size 102 _ (0,0) _ rfl hg Tryz.underlying102 rfl Tryz.iK) rfl ?_
    rw[HCE.out]
    exact⟨⟨zeroMod,rfl,zero_ok _,dW _ _,⟨rfl,rfl,rfl,rfl,rfl,rfl,rfl⟩⟩,HB3.trans (ho.below (GY2 (ZL HR3.out)))⟩
  by_cases t3:K=3
  ·subst t3
   clear t1
   have cd:=Hp (fun W=>wV r W (by have:=HL.out;simp only[GY8]at this;omega))
   have HCD:=Hp (show aS (b::r)=if dO r≠0 then(1,jP)else(0,⟨3,iD r,⟨#[]⟩⟩) by unfold aS;simp only;rw[<-HK.out];rfl)
   obtain⟨E,hE⟩:=Nm (dO r)
   rw[<-hE]at cd HCD
   obtain⟨D,hD⟩:=Nm (iD r)
   rw[<-hD]at cd HCD
   clear hE hD HL r0 r1 r2 r3 r4 r5 r6 r7 r8 f0 f1 f2 f3 f4 f5 f6 f7 f8 g0 g1 g2 g3 g4 g5 g6 g7 g8
   go_enter Tryz.func65,Tryz.ntmps65
   go_upto_region 4 with fail
   rw[hw0'.out]
   clear hw0'
   go_wp2_with fail
   refine(cd.out _).mono ?_;rintro e w2 ⟨⟨m,rfl,hok,hown,hsame⟩,hb2⟩
   obtain⟨w3,hw3⟩:=Nm (w2.alloc (.cells #[.string m.name,.int .i64 m.major,.int .i64 m.minor,.string m.text,.slice m.eA m.ex.length m.eC,.slice m.iA m.im.length m.iC,.slice m.pA m.pa.length m.pC] 70))
   have hb3:Below w2.heap.size w2 w3:=hw3▸ZB
   obtain⟨m0,m1,m2,m3,m4,m5,m6⟩:=RF (show w3.heap[w2.heap.size]? =_ by rw[hw3];exact heap_alloc_new w2 _)
   have HR3:=Hp (aF hb3 (aF hb2 HR0))
   have HQ3:=Hp (aF hb3 (aF hb2 HQ0))
   have HB3:=Hp (HB0.trans ((hb2.mono HB0.size).trans (hb3.mono (GY1 HB0.size hb2.size))))
   have HOW3:=Hp ((hown.below hb3).le HB0.size)
   have HOK2:=Hp hok
   have HSA:=Hp hsame
   have hne:w.heap.size+1<w2.heap.size:=GY0 hlt hb2.size
   obtain⟨⟨r0,r1,r2,r3,r4,r5,r6,r7,r8⟩,f0,f1,f2,f3,f4,f5,f6,f7,f8⟩:=Rv HR3.out
   obtain⟨⟨q0,q1,q2,q3,q4,q5,q6,q7,q8⟩,g0,g1,g2,g3,g4,g5,g6,g7,g8⟩:=Rv HQ3.out
   have hw3':=hw3.symm
   clear hw3 hb2 hb3 hok hown hsame cd
   by_cases s:E=0
   ·subst s
    have HCE:=Hp (show aS (b::r)=(0,⟨3,D,⟨#[]⟩⟩) by rw[HCD.out,if_neg (by decide)])
    clear HCD
    go_upto_region 11 with fail
    obtain⟨w4,e4,h4,ho4⟩:=Py HQ3.out (.string m.name) (.int .i64 m.major) (.int .i64 m.minor) (.string m.text) (.slice m.eA m.ex.length m.eC) (.slice m.iA m.im.length m.iC) (.slice m.pA m.pa.length m.pC)
    rw[<-e4]
    have hkp:=ho4.kp HQ3.out (ts:=[102]) (by simp)
    have HOW4:=Hp (HOW3.kp hkp (by decide) (by decide) (by decide))
    have HR4:=Hp ((ho4.block w.heap.size (ZL HR3.out) (by omega)).trans HR3.out)
    have HB4:=Hp (HB3.trans ((ho4.below (GY2 (ZL HQ3.out))).mono (by omega)))
    obtain⟨⟨q0,q1,q2,q3,q4,q5,q6,q7,q8⟩,_⟩:=Rv h4
    obtain⟨⟨r0,r1,r2,r3,r4,r5,r6,r7,r8⟩,f0,f1,f2,f3,f4,f5,f6,f7,f8⟩:=Rv HR4.out
    clear e4 h4 ho4 hkp m0 m1 m2 m3 m4 m5 m6 hw3' g0 g1 g2 g3 g4 g5 g6 g7 g8
    go_wp2_with fail
    obtain⟨hg,ho⟩:=Uq HR4.out (.int .i64 3) (.string m.name) (.int .i64 m.major) (.int .i64 m.minor) (.string m.text) (.slice m.eA m.ex.length m.eC) (.slice m.iA m.im.length m.iC) (.slice m.pA m.pa.length m.pC) (.string ⟨#[]⟩)
    refine bodyPost_ret (results_cell_tmp rfl _ _ w.heap.size 102 _ (0,0) _ rfl hg Tryz.underlying102 rfl Tryz.iK) rfl ?_
    rw[HCE.out]
    have hown:=HOW4.kp (ho.kp HR4.out (ts:=[102]) (by simp)) (by decide) (by decide) (by decide)
    exact⟨⟨m,rfl,hown.ok ⟨rfl,rfl,rfl,rfl,rfl,rfl,rfl⟩ HOK2.out,hown,HSA.out⟩,HB4.trans (ho.below (GY2 (ZL HR4.out)))⟩
   ·have s':(E != 0)=true:=by simp[s]
    have HCE:=Hp (show aS (b::r)=(1,jP) by rw[HCD.out,if_pos s])
    clear s HCD
    go_wp2_with fail
    obtain⟨hg,ho⟩:=Uq HR3.out (.int .i64 0) (.string ⟨#[]⟩) (.int .i64 0) (.int .i64 0) (.string ⟨#[]⟩) (.slice none 0 0) (.slice none 0 0) (.slice none 0 0) (.string ⟨#[]⟩)
    refine bodyPost_ret (results_cell_tmp rfl _ _ w.heap.size 102 _ (0,0) _ rfl hg Tryz.underlying102 rfl Tryz.iK) rfl ?_
    rw[HCE.out]
    exact⟨⟨zeroMod,rfl,zero_ok _,dW _ _,⟨rfl,rfl,rfl,rfl,rfl,rfl,rfl⟩⟩,HB3.trans (ho.below (GY2 (ZL HR3.out)))⟩
  by_cases t2:K=2
  ·subst t2
   clear t1 t3
   have cn:=Hp (fun W=>Sl (sof r) W (by rw[<-rD];have:=HL.out;simp only[GY8]at this;omega))
   have HCD:=Hp (show aS (b::r)=if isName (sof r)=true then(0,⟨2,zeroMod,sof r⟩)else(1,jP) by
    unfold aS
    simp only
    rw[<-HK.out,if_neg (by decide),JC]
    cases isName (sof r)<;>rfl)
   generalize isName (sof r)=I at cn HCD
   have ho2:Only (w.heap.size+1) w0 (w0.setCell ⟨w.heap.size+1,8,none⟩ (.string (sof r))):=Only.set 8 _
   have hq2:=dS 8 (.string (sof r)) #[.int .i64 2,.string ⟨#[]⟩,.int .i64 0,.int .i64 0,.string ⟨#[]⟩,.slice none 0 0,.slice none 0 0,.slice none 0 0,.string (sof r)] HQ0.out rfl
   have HR2:=Hp ((ho2.block w.heap.size (by omega) (by omega)).trans HR0.out)
   have HB2:=Hp (HB0.trans ((ho2.below (by omega)).mono (by omega)))
   go_enter Tryz.func65,Tryz.ntmps65
   go_upto_region 4 with fail
   rw[hw0'.out]
   clear hw0'
   go_wp2_with fail
   generalize w0.setCell ⟨w.heap.size+1,8,none⟩ (.string (sof r))=w2 at*
   refine(cn.out w2).mono ?_;rintro e w' ⟨rfl,rfl⟩
   obtain⟨⟨q0,q1,q2,q3,q4,q5,q6,q7,q8⟩,_⟩:=Rv hq2
   obtain⟨⟨r0,r1,r2,r3,r4,r5,r6,r7,r8⟩,f0,f1,f2,f3,f4,f5,f6,f7,f8⟩:=Rv HR2.out
   cases I
   ·have HCE:=Hp (show aS (b::r)=(1,jP) by rw[HCD.out];rfl)
    clear HCD
    go_wp2_with fail
    obtain⟨hg,ho⟩:=Uq HR2.out (.int .i64 0) (.string ⟨#[]⟩) (.int .i64 0) (.int .i64 0) (.string ⟨#[]⟩) (.slice none 0 0) (.slice none 0 0) (.slice none 0 0) (.string ⟨#[]⟩)
    refine bodyPost_ret (results_cell_tmp rfl _ _ w.heap.size 102 _ (0,0) _ rfl hg Tryz.underlying102 rfl Tryz.iK) rfl ?_
    rw[HCE.out]
    exact⟨⟨zeroMod,rfl,zero_ok _,dW _ _,⟨rfl,rfl,rfl,rfl,rfl,rfl,rfl⟩⟩,HB2.trans (ho.below (GY2 (ZL HR2.out)))⟩
   ·have HCE:=Hp (show aS (b::r)=(0,⟨2,zeroMod,sof r⟩) by rw[HCD.out];rfl)
    clear HCD
    go_wp2_with fail
    obtain⟨hg,ho⟩:=Uq HR2.out (.int .i64 2) (.string ⟨#[]⟩) (.int .i64 0) (.int .i64 0) (.string ⟨#[]⟩) (.slice none 0 0) (.slice none 0 0) (.slice none 0 0) (.string (sof r))
    refine bodyPost_ret (results_cell_tmp rfl _ _ w.heap.size 102 _ (0,0) _ rfl hg Tryz.underlying102 rfl Tryz.iK) rfl ?_
    rw[HCE.out]
    exact⟨⟨zeroMod,rfl,zero_ok _,dW _ _,⟨rfl,rfl,rfl,rfl,rfl,rfl,rfl⟩⟩,HB2.trans (ho.below (GY2 (ZL HR2.out)))⟩
  by_cases t4:K=4
  ·subst t4
   clear t1 t2 t3
   have HCD:=Hp (show aS (b::r)=if((sof r).toList==[])=true then(0,⟨4,zeroMod,sof r⟩)else(1,jP) by
    unfold aS
    simp only
    rw[<-HK.out,if_neg (by decide),FX]
    cases((sof r).toList==[])<;>rfl)
   cases r with
   |nil=>
    have HCE:=Hp (show aS [b]=(0,⟨4,zeroMod,⟨#[]⟩⟩) by rw[HCD.out,mW];rfl)
    clear HCD
    go_enter Tryz.func65,Tryz.ntmps65
    go_upto_region 4 with fail
    rw[hw0'.out]
    clear hw0'
    go_wp2_with fail
    obtain⟨hg,ho⟩:=Uq HR0.out (.int .i64 4) (.string ⟨#[]⟩) (.int .i64 0) (.int .i64 0) (.string ⟨#[]⟩) (.slice none 0 0) (.slice none 0 0) (.slice none 0 0) (.string ⟨#[]⟩)
    refine bodyPost_ret (results_cell_tmp rfl _ _ w.heap.size 102 _ (0,0) _ rfl hg Tryz.underlying102 rfl Tryz.iK) rfl ?_
    rw[HCE.out]
    exact⟨⟨zeroMod,rfl,zero_ok _,dW _ _,⟨rfl,rfl,rfl,rfl,rfl,rfl,rfl⟩⟩,HB0.trans (ho.below (GY2 (ZL HR0.out)))⟩
   |cons b2 r2=>
    have HCE:=Hp (show aS (b::b2::r2)=(1,jP) by rw[HCD.out,Tp];rfl)
    have t4':((((b::b2::r2).length:Nat):Int)==1)=false:=by rw[beq_eq_false_iff_ne];simp only[GY8];omega
    clear HCD
    go_enter Tryz.func65,Tryz.ntmps65
    go_upto_region 4 with fail
    rw[hw0'.out]
    clear hw0'
    go_wp2_with fail
    obtain⟨hg,ho⟩:=Uq HR0.out (.int .i64 0) (.string ⟨#[]⟩) (.int .i64 0) (.int .i64 0) (.string ⟨#[]⟩) (.slice none 0 0) (.slice none 0 0) (.slice none 0 0) (.string ⟨#[]⟩)
    refine bodyPost_ret (results_cell_tmp rfl _ _ w.heap.size 102 _ (0,0) _ rfl hg Tryz.underlying102 rfl Tryz.iK) rfl ?_
    rw[HCE.out]
    exact⟨⟨zeroMod,rfl,zero_ok _,dW _ _,⟨rfl,rfl,rfl,rfl,rfl,rfl,rfl⟩⟩,HB0.trans (ho.below (GY2 (ZL HR0.out)))⟩
  have HCE:=Hp (show aS (b::r)=(1,jP) by
   have h7:=Im t1 t2 t3 t4 zeroMod (sof r)
   unfold aS
   simp only
   rw[<-HK.out,if_neg (by rw[VX];omega),if_pos (by rw[h7];decide)])
  have t1':(K==1)=false:=by simp[t1]
  have t2':(K==2)=false:=by simp[t2]
  have t3':(K==3)=false:=by simp[t3]
  have t4':(K==4)=false:=by simp[t4]
  clear t1 t2 t3 t4
  go_enter Tryz.func65,Tryz.ntmps65
  go_upto_region 4 with fail
  rw[hw0'.out]
  clear hw0'
  go_wp2_with fail
  obtain⟨hg,ho⟩:=Uq HR0.out (.int .i64 0) (.string ⟨#[]⟩) (.int .i64 0) (.int .i64 0) (.string ⟨#[]⟩) (.slice none 0 0) (.slice none 0 0) (.slice none 0 0) (.string ⟨#[]⟩)
  refine bodyPost_ret (results_cell_tmp rfl _ _ w.heap.size 102 _ (0,0) _ rfl hg Tryz.underlying102 rfl Tryz.iK) rfl ?_
  rw[HCE.out]
  exact⟨⟨zeroMod,rfl,zero_ok _,dW _ _,⟨rfl,rfl,rfl,rfl,rfl,rfl,rfl⟩⟩,HB0.trans (ho.below (GY2 (ZL HR0.out)))⟩
end Go.Proofs.YtjiedaialianmaaGreat
