import Derived.Test.YtjiedaialianmaaGreatA24
import Derived.Test.YtjiedaialianmaaGreatBPlRe01
import Derived.Test.YtjiedaialianmaaGreatKTiny
namespace Go.Proofs.YtjiedaialianmaaGreat
section
open Go
def tornP (d:Ded) (part:List UInt8) (i:Nat):Nat:=
 if d.kind=2/\i<part.length then(part.getD i 0).toNat else if d.kind=1/\part≠[]then 255 -(part.getD 0 0).toNat else 0
def tornL (f:List ByteArray) (d:Ded) (part:List UInt8):List ByteArray:=fB f d (tornP d part)
end
section
set_option maxRecDepth 100000
set_option maxHeartbeats 2000000
open Go.RowKit
theorem deed_any (n:Nat) (A:Option Addr) (c:Nat) (K P V:Int) (w:World) (h:n<=32):Calls Tryz.prog 97 #[.agg #[.slice A n c],.agg #[.int .i64 K,.int .i64 P,.int .i64 V]] w fun e w'=>e=.returned (.int .i64 (eB n ⟨K,P,V⟩))/\Below w.heap.size w w':=by
 obtain⟨w1,hw1⟩:=Nm (w.alloc (.cells #[.slice A n c] 29))
 obtain⟨f0,hz1,hb1⟩:=Ui hw1
 obtain⟨w2,hw2⟩:=Nm (w1.alloc (.cells #[.int .i64 K,.int .i64 P,.int .i64 V] 60))
 obtain⟨d0,d1,d2,hz2,hb2⟩:=uE hw2
 rw[hz1]at d0 d1 d2 hz2 hb2
 have k0:=(hb2.cell (p:=⟨w.heap.size,0,none⟩) (by simp)).trans f0
 have HB:=Hp (hb1.trans (hb2.mono (by omega)))
 have hw1':=hw1.symm
 have hw2':=hw2.symm
 have q1:wrap64 ((n:Int)*128)=(n:Int)*128:=IntWalk.wrap64_in _ (by omega)
 obtain⟨E,hE⟩:=Nm (eB n ⟨K,P,V⟩)
 rw[<-hE]
 have HE:=Hp (show E=if K=1 then(if 0<=P/\P<(n:Int)*128/\0<=V/\V<=255 then 0 else 3)else if K=2 then(if 0<=P/\P<(n:Int)/\V=0 then 0 else 3)else 7 from hE)
 clear hE hw1 hw2 hb1 hb2 f0 hz2
 go_enter Tryz.func97,Tryz.ntmps97
 go_wp2_with fail
 all_goals(go_ret;exact⟨aC (by rw[HE.out];simp at*;(repeat' split)<;>first|rfl|omega),HB.out⟩)
end
section
open Go.RowKit
theorem firstErr_cons (n:Nat) (d:Ded) (l:List Ded):qM n (d::l)=if eB n d=0 then qM n l else eB n d:=rfl
theorem first_step {n:Nat} {l:List Ded} {j:Nat} (h:j<l.length):qM n (l.drop j)=if eB n l[j]=0 then qM n (l.drop (j+1))else eB n l[j]:=by
 rw[List.drop_eq_getElem_cons h,firstErr_cons]
end
section
set_option maxRecDepth 100000
set_option maxHeartbeats 2000000
open Go.RowKit
theorem xor_255 (x:UInt8):bits .xor .u8 IntKind.u8.max (x.toNat:Int)=((255 -x.toNat:Nat):Int):=by
 have h:=u8_xor_nat 255 x.toNat (by omega) (kJ x)
 have e:255^^^x.toNat=255 -x.toNat:=by
  refine Ma (Nat.xor_lt_two_pow (n:=8) (by omega) (kJ x)) (by omega) fun i hi=>?_
  rw[KT _ i (kJ x) hi,Nat.testBit_xor]
  have:(255:Nat).testBit i=true:=by
   rw[show(255:Nat)=2^8 -1 from rfl,Nat.testBit_two_pow_sub_one];simp[hi]
  rw[this];simp
 rw[e]at h
 exact h
theorem TornPart_any (D P:Nat) (K:Int) (d:Ded) (hd:d.kind=K) (s:ByteArray) (i:Nat) (w:World) (h0:w.cell? ⟨D,0,none⟩=some (.int .i64 K)) (h1:w.cell? ⟨P,0,none⟩=some (.string s)) (hs:s.size<=big):
  Calls Tryz.prog 99 #[.int .i64 (i:Int),.pointer (some ⟨D,0,none⟩),.pointer (some ⟨P,0,none⟩)] w fun e w'=>e=.returned (.int .u8 (tornP d (bytesOf s) i:Nat))/\w'=w:=by
 obtain⟨T,hT⟩:=Nm (tornP d (bytesOf s) i)
 rw[<-hT]
 unfold tornP at hT
 rw[hd,RB]at hT
 have hne:bytesOf s=[]↔s.size=0:=by rw[<-RB];exact List.length_eq_zero_iff.symm
 by_cases k2:K=2
 ·by_cases hi:i<s.size
  ·rw[if_pos ⟨k2,hi⟩]at hT
   have hx:=bZ s i hi
   have HT:=Hp hT
   clear hT hne
   subst k2
   go_enter Tryz.func99,Tryz.ntmps99
   go_wp2_with fail
   go_ret
   exact⟨aC (by rw[HT.out,List.getD_eq_getElem?_getD]),rfl⟩
  ·rw[if_neg (by omega),if_neg (by omega)]at hT
   have HT:=Hp hT
   clear hT hne
   subst k2
   go_enter Tryz.func99,Tryz.ntmps99
   go_wp2_with fail
   all_goals go_ret
   all_goals exact⟨aC (by rw[HT.out];rfl),rfl⟩
 ·have k2':(K==2)=false:=by simp[k2]
  rw[if_neg (by omega)]at hT
  by_cases k1:K=1
  ·by_cases hz:s.size=0
   ·rw[if_neg (fun h=>h.2 (hne.2 hz))]at hT
    have HT:=Hp hT
    obtain rfl:s=⟨#[]⟩:=by
     obtain⟨x⟩:=s
     rw[Array.eq_empty_of_size_eq_zero hz]
    clear hT hne
    subst k1
    go_enter Tryz.func99,Tryz.ntmps99
    go_wp2_with fail
    all_goals go_ret
    all_goals exact⟨aC (by rw[HT.out];rfl),rfl⟩
   ·rw[if_pos ⟨k1,by rw[Ne,hne];exact hz⟩]at hT
    have hx:=bZ s 0 (by omega)
    have HT:=Hp hT
    have hsn:(s.toList==(⟨#[]⟩:ByteArray).toList)=false:=mY (by rintro rfl;exact hz rfl)
    have hse:s.toList.isEmpty=false:=by
     cases h:s.toList with
     |nil=>rw[h,show(⟨#[]⟩:ByteArray).toList=[] from by kernel_rfl]at hsn;exact absurd hsn (by decide)
     |cons a l=>rfl
    have hsg:IntKind.u8.signed=false:=rfl
    have hpos:0<s.size:=by omega
    have HX:=Hp (NZ s 0 hpos)
    clear hT hne hsn hz
    subst k1
    go_enter Tryz.func99,Tryz.ntmps99
    go_wp2_with fail
    go_ret
    exact⟨aC (by rw[HT.out,HX.out];exact xor_255 _),rfl⟩
  ·rw[if_neg (by omega)]at hT
   have HT:=Hp hT
   have k1':(K==1)=false:=by simp[k1]
   clear hT hne k1 k2
   go_enter Tryz.func99,Tryz.ntmps99
   go_wp2_with fail
   all_goals go_ret
   all_goals exact⟨aC (by rw[HT.out];rfl),rfl⟩
end
section
set_option maxRecDepth 100000
set_option maxHeartbeats 4000000
open Go.RowKit
theorem ret_fl_err {a b:Int} (h:a=b):Ending.returned (.tuple #[.agg #[.slice none 0 0],.int .i64 a])=.returned (.tuple #[F5.v,.int .i64 b]):=by rw[h];rfl
theorem Do_any (f:Fl) (A:Option Addr) (c:Nat) (l:List Ded) (w:World) (h:f.ok w) (h':ES w A l):
  Calls Tryz.prog 29 #[f.v,.slice A l.length c] w fun e w'=>Below w.heap.size w w'/\∃f':Fl,e=.returned (.tuple #[f'.v,.int .i64 (Eg f.bl l)])/\Rt w' w.heap.size f' (Bu (Eg f.bl l) (bT f.bl l)):=by
 obtain⟨w1,hw1⟩:=Nm (w.alloc (.cells #[.slice f.a f.bl.length f.c] 29))
 obtain⟨f0,hz1,hb1⟩:=Ui hw1
 obtain⟨w2,hw2⟩:=Nm (w1.alloc (.cells #[.slice none 0 0] 29))
 obtain⟨_,hR,hz2,hb2⟩:=jG hw2
 have k0:=(hb2.cell (p:=⟨w.heap.size,0,none⟩) (by simp;omega)).trans f0
 have HB2:=Hp (hb1.trans (hb2.mono (by omega)))
 have hw1':=hw1.symm
 have hw2':=hw2.symm
 have HR:=Hp hR
 have HZ2:=Hp hz2
 have HZ1:=Hp hz1
 have HROW:=Hp h'.row
 have hl:=h'.len
 unfold big at hl
 have cF:=Hp (yN f w2 (h.below HB2.out))
 have cX:=Hp (fun hf hd W hW=>Gg f A c l W (h.below hW) hf hd (h'.below hW))
 obtain⟨E,hE⟩:=Nm (Eg f.bl l)
 rw[<-hE]
 obtain⟨e0,he0⟩:=Nm (bP f.bl)
 rw[<-he0]at cF
 by_cases t0:e0=0
 ·have HF:=Hp (he0.symm.trans t0)
  have h32:=(fP.1 (he0.symm.trans t0)).1.2
  have HE:=Hp (show E=qM f.bl.length l by rw[hE];unfold Eg;rw[if_pos (he0.symm.trans t0)])
  have cD:=Hp (fun(d:Ded) W=>deed_any f.bl.length f.a f.c d.kind d.at_ d.value W h32)
  subst t0
  clear hw1 hw2 hb1 hb2 hR h h' hE he0 hz1 f0 h32
  go_enter Tryz.func29,Tryz.ntmps29
  go_wp2_with (go_at_call 94;refine(cF.out).mono ?_;rintro e w3 ⟨rfl,hb3⟩)
  have HB3:=Hp hb3
  clear hb3
  go_loopw [6,7] (fun e i wr=>∃(j:Nat) (er:Int),j<=l.length/\i=.int .i64 j/\e=.int .i64 er/\(if er=0 then qM f.bl.length (l.drop j)else er)=E/\Below w2.heap.size w2 wr) (fun _ i _=>l.length -(intOf i).toNat)
  case atStart=>exact⟨0,0,by omega,rfl,rfl,by rw[if_pos rfl,List.drop_zero];exact HE.out.symm,HB3.out⟩
  case round=>
   obtain⟨j,er,hj,rfl,rfl,hN,hb⟩:=hrel
   have HN:=Hp hN
   have HBR:=Hp hb
   have hz:=HZ2.out
   have hwz:=hb.size
   have r0:=(hb.cell (p:=⟨w.heap.size,0,none⟩) (by have:=HZ1.out;simp;omega)).trans k0
   have HX:=Hp (HB2.out.trans (hb.mono HB2.out.size))
   have hRr:wr.heap[w1.heap.size]? =some (.cells #[.slice none 0 0] 29 (0,0)):=(hb.block _ (by have:=HZ2.out;omega)).trans HR.out
   have v0:=cell_of_heap hRr 0
   have vf:=aQ hRr 0
   simp only[List.getElem?_toArray,List.getElem?_cons_zero]at v0
   have HRR:=Hp hRr
   clear hN hb hz hRr
   by_cases hlt:j<l.length
   ·have hlt':(j:Int)<l.length:=by omega
    by_cases u:er=0
    ·subst u
     obtain⟨ad,rfl,hab,h0,h1,h2⟩:=QW HROW.out HX.out j hlt
     have hN2:=HN.out
     rw[if_pos rfl,first_step hlt]at hN2
     have cJ:=Hp (fun W=>cD.out (l[j]'hlt) W)
     change Hid (∀W,Calls _ _ _ W fun e w'=>e=.returned (.int .i64 (eB f.bl.length (l[j]'hlt)))/\_)at cJ
     obtain⟨de,hde⟩:=Nm (eB f.bl.length (l[j]'hlt))
     rw[<-hde]at hN2
     rw[<-hde]at cJ
     have HN2:=Hp hN2
     clear hN2 hde
     have hbm:(ad.add (j*3)).block<wr.heap.size:=by rw[aA];have:=HX.out.size;omega
     have hbw:w.heap.size<wr.heap.size:=by have:=HZ1.out;have:=HZ2.out;omega
     clear v0 vf
     have HCH:=Hp (show fI wr (fun W'=>Below wr.heap.size wr W'/\W'.cell? ⟨w.heap.size,0,none⟩=some (.slice f.a f.bl.length f.c)/\W'.cell? (ad.add (j*3))=some (.int .i64 (l[j]'hlt).kind)/\W'.cell? ⟨(ad.add (j*3)).block,(ad.add (j*3)).off+1,none⟩=some (.int .i64 (l[j]'hlt).at_)/\W'.cell? ⟨(ad.add (j*3)).block,(ad.add (j*3)).off+2,none⟩=some (.int .i64 (l[j]'hlt).value)) from dE (by repeat' first|(with_reducible exact bC.cell (by first|omega|(simp;omega)|(simp only[aA];omega)))|refine bC.and ?_ ?_))
     have HC0:=Hp (HCH.out.now ⟨Below.refl _ _,by assumption,by assumption,by assumption,by assumption⟩)
     have HCD:=Hp HCH.out.D
     have HCS:=Hp HCH.out.S
     have HCA:=Hp HCH.out.A
     have HCX:=Hp HCH.out.X
     have HCL:=Hp HCH.out.L
     go_wp2_with fail
     go_region_held3 (fun W'=>Below wr.heap.size wr W'/\W'.cell? ⟨w.heap.size,0,none⟩=some (.slice f.a f.bl.length f.c)/\W'.cell? (ad.add (j*3))=some (.int .i64 (l[j]'hlt).kind)/\W'.cell? ⟨(ad.add (j*3)).block,(ad.add (j*3)).off+1,none⟩=some (.int .i64 (l[j]'hlt).at_)/\W'.cell? ⟨(ad.add (j*3)).block,(ad.add (j*3)).off+2,none⟩=some (.int .i64 (l[j]'hlt).value)) (first|exact HC0.out|exact HCD.out _ HC0.out|exact HCS.out _ _ (by assumption) (by assumption)|exact HCS.out _ _ HC0.out (by assumption)|exact HCS.out _ _ (HCD.out _ HC0.out) (by assumption)|exact HCS.out _ _ (HCD.out _ (by assumption)) (by assumption)|exact HCD.out _ (by assumption)|exact HCA.out _ _ (by assumption)|exact HCA.out _ _ HC0.out|exact HCA.out _ _ (HCD.out _ HC0.out)|exact HCD.out _ (HCA.out _ _ (by assumption))|exact HCA.out _ _ (HCS.out _ _ HC0.out (by assumption))|exact HCA.out _ _ (HCS.out _ _ (HCD.out _ HC0.out) (by assumption))|exact HCX.out _ _ _ _ (Nat.le_refl _) (by assumption)|exact HCX.out _ _ _ _ (Nat.le_refl _) (HCS.out _ _ (HCA.out _ _ HC0.out) (by assumption))|exact HCX.out _ _ _ _ (Nat.le_refl _) (HCS.out _ _ (HCD.out _ (HCA.out _ _ HC0.out)) (by assumption))|assumption) (first|(go_at_call 97;with_reducible refine(cJ.out _).mono ?_;rintro e w2 ⟨rfl,hb2⟩))
     have B6:=Hp (HCL.out _ (by assumption))
     clear HC0 HCD HCS HCA HCL cJ
     go_wp2_with fail
     go_roundw
     case rel=>exact⟨j+1,de,by omega,by go_num,rfl,HN2.out,HBR.out.trans (B6.out.mono hwz)⟩
     case measure=>(simp[intOf];try omega)
    ·have u':(er==0)=false:=by simp[u]
     have u2:(er != 0)=true:=by simp[u]
     have e1:=Hp (show er=E by rw[<-HN.out,if_neg u])
     have HU:=Hp u
     clear u
     go_wp2_with fail
     refine EL rfl rfl HRR.out ?_
     exact⟨HX.out.setCell (p:=⟨w1.heap.size,0,none⟩) (by have:=HZ1.out;simp;omega) _,F5,ret_fl_err e1.out,AY _ _,Nat.le_refl _,(AQ (by rw[<-e1.out];exact HU.out)).symm⟩
   ·have HJ:=Hp (show l.drop j=[] from List.drop_eq_nil_of_le (by omega))
    by_cases u:er=0
    ·subst u
     have e1:=Hp (show(0:Int)=E by rw[<-HN.out,if_pos rfl,HJ.out];rfl)
     have HDED:=Hp (show∀d∈l,eB f.bl.length d=0 from nH.1 (by rw[<-HE.out,<-e1.out]))
     have cY:=Hp (cX.out HF.out HDED.out wr HX.out)
     go_wp2_with (
      go_at_call 77
      refine(cY.out).mono ?_
      rintro e w6 ⟨hb6,A6,c6,rfl,hc6,ho6⟩
      have hR6:=(hb6.block _ (Array.getElem?_eq_some_iff.1 HRR.out).1).trans HRR.out
      have z0:=cell_of_heap hR6 0
      have zf:=aQ hR6 0
      simp only[List.getElem?_toArray,List.getElem?_cons_zero]at z0
      have HR6:=Hp hR6
      have HO6:=Hp ho6
      have HB6:=Hp hb6
      clear hR6 ho6 hb6)
     refine EL rfl rfl HR6.out ?_
     have HS:=Hp (SK (l:=bT f.bl l) e1.out.symm)
     have hnd:=(qQ HF.out HDED.out).2
     refine⟨(HX.out.trans (HB6.out.mono HX.out.size)).setCell (p:=⟨w1.heap.size,0,none⟩) (by have:=HZ1.out;simp;omega) _,⟨bT f.bl l,A6,c6⟩,?_,?_,?_,HS.out.symm⟩
     ·rw[<-e1.out];show _=Ending.returned (.tuple #[.agg #[.slice A6 (bT f.bl l).length c6],_]);rw[hnd];rfl
     ·show dA _ _ (.slice A6 (bT f.bl l).length c6) _
      rw[hnd]
      exact(HO6.out.eT HR6.out (by decide) 0 _).more HX.out.size
     ·show(bT f.bl l).length<=c6
      rw[hnd];exact hc6
    ·have u':(er==0)=false:=by simp[u]
     have u2:(er != 0)=true:=by simp[u]
     have e1:=Hp (show er=E by rw[<-HN.out,if_neg u])
     have HU:=Hp u
     clear u
     go_wp2_with fail
     refine EL rfl rfl HRR.out ?_
     exact⟨HX.out.setCell (p:=⟨w1.heap.size,0,none⟩) (by have:=HZ1.out;simp;omega) _,F5,ret_fl_err e1.out,AY _ _,Nat.le_refl _,(AQ (by rw[<-e1.out];exact HU.out)).symm⟩
 ·have t0':(e0==0)=false:=by simp[t0]
  have t2:(e0 != 0)=true:=by simp[t0]
  have HE:=Hp (show e0=E by rw[hE];unfold Eg;rw[if_neg (by rw[<-he0];exact t0)];exact he0)
  have HU:=Hp t0
  clear hw1 hw2 hb1 hb2 hR h h' hE he0 hz1 f0 t0
  go_enter Tryz.func29,Tryz.ntmps29
  go_wp2_with (go_at_call 94;refine(cF.out).mono ?_;rintro e w3 ⟨rfl,hb3⟩)
  have HB3:=Hp hb3
  have hR3:w3.heap[w1.heap.size]? =some (.cells #[.slice none 0 0] 29 (0,0)):=(hb3.block _ (by have:=HZ2.out;omega)).trans HR.out
  have v0:=cell_of_heap hR3 0
  have vf:=aQ hR3 0
  simp only[List.getElem?_toArray,List.getElem?_cons_zero]at v0
  have HR3:=Hp hR3
  clear hb3 hR3
  go_loopw [6,7] (fun e i wr=>e=.int .i64 e0/\i=.int .i64 0/\wr=w3) (fun _ _ _=>0)
  case atStart=>exact⟨rfl,rfl,rfl⟩
  case round=>
   obtain⟨rfl,rfl,rfl⟩:=hrel
   go_wp2_with fail
   all_goals refine EL rfl rfl HR3.out ?_
   all_goals exact⟨(HB2.out.trans (HB3.out.mono HB2.out.size)).setCell (p:=⟨w1.heap.size,0,none⟩) (by have:=HZ1.out;simp;omega) _,F5,ret_fl_err HE.out,AY _ _,Nat.le_refl _,(AQ (by rw[<-HE.out];exact HU.out)).symm⟩
end
section
set_option maxRecDepth 100000
set_option maxHeartbeats 4000000
open Go.RowKit
theorem deds_one (bl:List ByteArray) (d:Ded):Eg bl [d]=if bP bl=0 then eB bl.length d else bP bl:=by
 unfold Eg
 split
 ·show(if eB bl.length d=0 then 0 else eB bl.length d)=_
  split
  ·next h=>exact h.symm
  ·rfl
 ·rfl
theorem tornP_lt (d:Ded) (l:List UInt8) (i:Nat):tornP d l i<256:=by
 unfold tornP
 split
 ·exact kJ _
 ·split
  ·omega
  ·omega
theorem Torn_any (f:Fl) (K P V:Int) (s:ByteArray) (w:World) (h:f.ok w) (hs:s.size<=big):
  Calls Tryz.prog 30 #[f.v,.agg #[.int .i64 K,.int .i64 P,.int .i64 V],.string s] w fun e w'=>Below w.heap.size w w'/\∃f':Fl,e=.returned (.tuple #[f'.v,.int .i64 (Eg f.bl [⟨K,P,V⟩])])/\Rt w' w.heap.size f' (Bu (Eg f.bl [⟨K,P,V⟩]) (tornL f.bl ⟨K,P,V⟩ (bytesOf s))):=by
 obtain⟨w1,hw1⟩:=Nm (w.alloc (.cells #[.slice f.a f.bl.length f.c] 29))
 obtain⟨f0,hz1,hb1⟩:=Ui hw1
 obtain⟨w2,hw2⟩:=Nm (w1.alloc (.cells #[.int .i64 K,.int .i64 P,.int .i64 V] 60))
 obtain⟨d0,d1,d2,hz2,hb2⟩:=uE hw2
 obtain⟨w3,hw3⟩:=Nm (w2.alloc (.cells #[.string s] 9))
 obtain⟨s0,hz3,hb3⟩:=Ui hw3
 obtain⟨w4,hw4⟩:=Nm (w3.alloc (.cells #[.slice none 0 0] 29))
 obtain⟨_,hR,hz4,hb4⟩:=jG hw4
 have HB24:=Hp (hb3.trans (hb4.mono (by omega)))
 have k0:=(HB24.out.cell (p:=⟨w.heap.size,0,none⟩) (by simp;omega)).trans ((hb2.cell (p:=⟨w.heap.size,0,none⟩) (by simp;omega)).trans f0)
 have x0:=(HB24.out.cell (p:=⟨w1.heap.size,0,none⟩) (by simp;omega)).trans d0
 have x1:=(HB24.out.cell (p:=⟨w1.heap.size,1,none⟩) (by simp;omega)).trans d1
 have x2:=(HB24.out.cell (p:=⟨w1.heap.size,2,none⟩) (by simp;omega)).trans d2
 have p0:=(hb4.cell (p:=⟨w2.heap.size,0,none⟩) (by simp;omega)).trans s0
 have HB4:=Hp (hb1.trans ((hb2.mono (by omega)).trans (HB24.out.mono (by omega))))
 have hw1':=hw1.symm
 have hw2':=hw2.symm
 have hw3':=hw3.symm
 have hw4':=hw4.symm
 have HR:=Hp hR
 have HZ:=Hp (show w1.heap.size=w.heap.size+1/\w2.heap.size=w.heap.size+2/\w3.heap.size=w.heap.size+3/\w4.heap.size=w.heap.size+4 by omega)
 have cF:=Hp (yN f w4 (h.below HB4.out))
 have H:=Hp h
 obtain⟨E,hE⟩:=Nm (Eg f.bl [⟨K,P,V⟩])
 rw[<-hE]
 rw[deds_one]at hE
 obtain⟨e0,he0⟩:=Nm (bP f.bl)
 rw[<-he0]at cF hE
 have HF:=Hp he0
 by_cases t0:e0=0
 ·rw[if_pos t0]at hE
  have h32:=(fP.1 (he0.symm.trans t0)).1.2
  have cD:=Hp (fun W=>deed_any f.bl.length f.a f.c K P V W h32)
  rw[<-hE]at cD
  have HE:=Hp hE
  subst t0
  clear hw1 hw2 hw3 hw4 hb1 hb2 hb3 hb4 hR h hE he0 hz1 hz2 hz3 hz4 f0 d0 d1 d2 s0 h32
  by_cases u:E=0
  ·subst u
   go_enter Tryz.func30,Tryz.ntmps30
   go_wp2_with (first
    |(go_at_call 94;refine(cF.out).mono ?_;rintro e w5 ⟨rfl,hb5⟩
      have hk5:=(hb5.cell (p:=⟨w.heap.size,0,none⟩) (by have:=HZ.out;simp;omega)).trans k0
      have ha5:=(hb5.cell (p:=⟨w1.heap.size,0,none⟩) (by have:=HZ.out;simp;omega)).trans x0
      have hb5':=(hb5.cell (p:=⟨w1.heap.size,1,none⟩) (by have:=HZ.out;simp;omega)).trans x1
      have hc5:=(hb5.cell (p:=⟨w1.heap.size,2,none⟩) (by have:=HZ.out;simp;omega)).trans x2
      have HB5:=Hp hb5
      clear hb5)
    |(go_at_call 97;refine(cD.out _).mono ?_;rintro e w6 ⟨rfl,hb6⟩
      have HB6:=Hp (HB5.out.trans (hb6.mono HB5.out.size))
      have hk6:=(HB6.out.cell (p:=⟨w.heap.size,0,none⟩) (by have:=HZ.out;simp;omega)).trans k0
      have ha6:=(HB6.out.cell (p:=⟨w1.heap.size,0,none⟩) (by have:=HZ.out;simp;omega)).trans x0
      have hb6':=(HB6.out.cell (p:=⟨w1.heap.size,1,none⟩) (by have:=HZ.out;simp;omega)).trans x1
      have hc6:=(HB6.out.cell (p:=⟨w1.heap.size,2,none⟩) (by have:=HZ.out;simp;omega)).trans x2
      have hp6:=(HB6.out.cell (p:=⟨w2.heap.size,0,none⟩) (by have:=HZ.out;simp;omega)).trans p0
      have HW6:=Hp (HB4.out.trans (HB6.out.mono (by have:=HZ.out;omega)))
      have cT:=Hp (J7 f.a f.c f.bl K P V 99 #[.pointer (some ⟨w1.heap.size,0,none⟩),.pointer (some ⟨w2.heap.size,0,none⟩)] (tornP ⟨K,P,V⟩ (bytesOf s)) w6 (fun _ _=>by kernel_rfl) (H.out.below HW6.out).row HF.out.symm HE.out.symm
       (fun i W hi hW=>TornPart_any w1.heap.size w2.heap.size K ⟨K,P,V⟩ rfl s i W ((hW.cell (p:=⟨w1.heap.size,0,none⟩) (oG ha6)).trans ha6) ((hW.cell (p:=⟨w2.heap.size,0,none⟩) (oG hp6)).trans hp6) hs) (fun i=>tornP_lt _ _ i))
      clear hb6)
    |(go_at_call 98;refine(cT.out).mono ?_;rintro e w7 ⟨hb7,A7,c7,rfl,hc7,ho7⟩
      have HB7:=Hp (HB6.out.trans (hb7.mono HB6.out.size))
      have hR7:=(HB7.out.block _ (by have:=HZ.out;omega)).trans HR.out
      have z0:=cell_of_heap hR7 0
      have zf:=aQ hR7 0
      simp only[List.getElem?_toArray,List.getElem?_cons_zero]at z0
      have HR7:=Hp hR7
      have HO7:=Hp ho7
      clear hR7 ho7 hb7))
   refine EL rfl rfl HR7.out ?_
   have hnd:=jT f.bl ⟨K,P,V⟩ (tornP ⟨K,P,V⟩ (bytesOf s))
   change(tornL f.bl ⟨K,P,V⟩ (bytesOf s)).length=_ at hnd
   refine⟨(HB4.out.trans (HB7.out.mono (by have:=HZ.out;omega))).setCell (p:=⟨w3.heap.size,0,none⟩) (by have:=HZ.out;simp;omega) _,⟨tornL f.bl ⟨K,P,V⟩ (bytesOf s),A7,c7⟩,?_,?_,?_,(SK rfl).symm⟩
   ·show _=Ending.returned (.tuple #[.agg #[.slice A7 (tornL f.bl ⟨K,P,V⟩ (bytesOf s)).length c7],_]);rw[hnd];rfl
   ·show dA _ _ (.slice A7 (tornL f.bl ⟨K,P,V⟩ (bytesOf s)).length c7) _
    rw[hnd]
    exact(HO7.out.eT HR7.out (by decide) 0 _).more HW6.out.size
   ·show(tornL f.bl ⟨K,P,V⟩ (bytesOf s)).length<=c7
    rw[hnd];exact hc7
  ·have u2:(E != 0)=true:=by simp[u]
   have HU:=Hp u
   clear u
   go_enter Tryz.func30,Tryz.ntmps30
   go_wp2_with (first
    |(go_at_call 94;refine(cF.out).mono ?_;rintro e w5 ⟨rfl,hb5⟩
      have hk5:=(hb5.cell (p:=⟨w.heap.size,0,none⟩) (by have:=HZ.out;simp;omega)).trans k0
      have ha5:=(hb5.cell (p:=⟨w1.heap.size,0,none⟩) (by have:=HZ.out;simp;omega)).trans x0
      have hb5':=(hb5.cell (p:=⟨w1.heap.size,1,none⟩) (by have:=HZ.out;simp;omega)).trans x1
      have hc5:=(hb5.cell (p:=⟨w1.heap.size,2,none⟩) (by have:=HZ.out;simp;omega)).trans x2
      have HB5:=Hp hb5
      clear hb5)
    |(go_at_call 97;refine(cD.out _).mono ?_;rintro e w6 ⟨rfl,hb6⟩
      have HB6:=Hp (HB5.out.trans (hb6.mono HB5.out.size))
      have hR7:=(HB6.out.block _ (by have:=HZ.out;omega)).trans HR.out
      have z0:=cell_of_heap hR7 0
      have zf:=aQ hR7 0
      simp only[List.getElem?_toArray,List.getElem?_cons_zero]at z0
      have HR7:=Hp hR7
      clear hR7 hb6))
   refine EL rfl rfl HR7.out ?_
   exact⟨(HB4.out.trans (HB6.out.mono (by have:=HZ.out;omega))).setCell (p:=⟨w3.heap.size,0,none⟩) (by have:=HZ.out;simp;omega) _,F5,rfl,AY _ _,Nat.le_refl _,(AQ HU.out).symm⟩
 ·rw[if_neg t0]at hE
  have u1:(e0==0)=false:=by simp[t0]
  have u2:(e0 != 0)=true:=by simp[t0]
  have HU:=Hp (show E≠0 by rw[hE];exact t0)
  have HE:=Hp hE.symm
  clear hw1 hw2 hw3 hw4 hb1 hb2 hb3 hb4 hR h hE he0 hz1 hz2 hz3 hz4 f0 d0 d1 d2 s0 t0
  go_enter Tryz.func30,Tryz.ntmps30
  go_wp2_with (
   go_at_call 94
   refine(cF.out).mono ?_
   rintro e w5 ⟨rfl,hb5⟩
   have HB6:=Hp hb5
   have hR7:=(hb5.block _ (by have:=HZ.out;omega)).trans HR.out
   have z0:=cell_of_heap hR7 0
   have zf:=aQ hR7 0
   simp only[List.getElem?_toArray,List.getElem?_cons_zero]at z0
   have HR7:=Hp hR7
   clear hR7 hb5)
  refine EL rfl rfl HR7.out ?_
  exact⟨(HB4.out.trans (HB6.out.mono (by have:=HZ.out;omega))).setCell (p:=⟨w3.heap.size,0,none⟩) (by have:=HZ.out;simp;omega) _,F5,ret_fl_err HE.out,AY _ _,Nat.le_refl _,(AQ HU.out).symm⟩
def readErr (bl:List ByteArray) (at_ many:Int):Int:=if bP bl=0 then(if at_<0\/many<0\/128*bl.length<at_\/128*bl.length -at_<many then 3 else 0)else bP bl
def readStr (bl:List ByteArray) (at_ many:Int):ByteArray:=if readErr bl at_ many=0 then ofBytes (((flat bl).drop at_.toNat).take many.toNat)else⟨#[]⟩
theorem Read_any (f:Fl) (P M:Int) (w:World) (h:f.ok w) (hP: -9223372036854775808<=P/\P<=9223372036854775807) (hM: -9223372036854775808<=M/\M<=9223372036854775807):
  Calls Tryz.prog 93 #[f.v,.int .i64 P,.int .i64 M] w fun e w'=>e=.returned (.tuple #[.string (readStr f.bl P M),.int .i64 (readErr f.bl P M)])/\Below w.heap.size w w':=by
 obtain⟨w1,hw1⟩:=Nm (w.alloc (.cells #[.slice f.a f.bl.length f.c] 29))
 obtain⟨f0,hz1,hb1⟩:=Ui hw1
 have hw1':=hw1.symm
 have HB1:=Hp hb1
 have HZ:=Hp hz1
 have cF:=Hp (yN f w1 (h.below hb1))
 have cA:=Hp (fun W hW hf=>LB f W (h.below hW) hf)
 obtain⟨S,hS⟩:=Nm (readStr f.bl P M)
 obtain⟨E,hE⟩:=Nm (readErr f.bl P M)
 rw[<-hS,<-hE]
 obtain⟨e0,he0⟩:=Nm (bP f.bl)
 rw[<-he0]at cF
 unfold readStr at hS
 rw[<-hE]at hS
 unfold readErr at hE
 rw[<-he0]at hE
 by_cases t0:e0=0
 ·rw[if_pos t0]at hE
  have HF:=Hp (he0.symm.trans t0)
  obtain⟨hl,h2⟩:=fP.1 HF.out
  have hfl:=mP h2
  obtain⟨n,hn⟩:=Nm f.bl.length
  rw[<-hn]at hE hl hfl
  obtain⟨T,hT⟩:=Nm (ofBytes (flat f.bl))
  have hTz:T.size=128*n:=by rw[hT,gJ,hfl]
  rw[<-hT]at cA
  subst t0
  by_cases t1:P<0\/M<0\/128*(n:Int)<P\/128*(n:Int) -P<M
  ·rw[if_pos t1]at hE
   rw[hE,if_neg (by decide)]at hS
   subst hE hS
   have HT1:=Hp t1
   clear hw1 hb1 h he0 hz1 h2 hfl hT hn t1
   go_enter Tryz.func93,Tryz.ntmps93
   go_wp2_with (first
    |(go_at_call 94;refine(cF.out).mono ?_;rintro e w5 ⟨rfl,hb5⟩
      have hk5:=(hb5.cell (p:=⟨w.heap.size,0,none⟩) (by have:=HZ.out;simp;omega)).trans f0
      have HB5:=Hp hb5
      have HW5:=Hp (HB1.out.trans (hb5.mono HB1.out.size))
      clear hb5)
    |(go_at_call 167;refine(cA.out _ HW5.out HF.out).mono ?_;rintro e w6 ⟨rfl,hb6⟩))
   all_goals go_ret2
   all_goals first
    |exact⟨rfl,HW5.out.trans (hb6.mono HW5.out.size)⟩
    |exact absurd HT1.out (by simp at*;omega)
  ·rw[if_neg t1]at hE
   rw[hE,if_pos rfl]at hS
   subst hE
   have q0:0<=P/\0<=M/\P<=128*(n:Int)/\M<=128*(n:Int) -P:=by omega
   have HS:=Hp (show T.extract P.toNat (P+M).toNat=S by
    rw[hS,hT,show(P+M).toNat=P.toNat+M.toNat by omega,uK])
   obtain⟨q1,q2,q3,q4⟩:=q0
   have q5:¬(P<0):=by omega
   have q6:¬(M<0):=by omega
   have q7:¬(128*(n:Int)<P):=by omega
   have q8:¬(128*(n:Int) -P<M):=by omega
   clear hw1 hb1 h he0 hz1 h2 hfl hT hn t1 hS
   go_enter Tryz.func93,Tryz.ntmps93
   go_wp2_with (first
    |(go_at_call 94;refine(cF.out).mono ?_;rintro e w5 ⟨rfl,hb5⟩
      have hk5:=(hb5.cell (p:=⟨w.heap.size,0,none⟩) (by have:=HZ.out;simp;omega)).trans f0
      have HB5:=Hp hb5
      have HW5:=Hp (HB1.out.trans (hb5.mono HB1.out.size))
      clear hb5)
    |(go_at_call 167;refine(cA.out _ HW5.out HF.out).mono ?_;rintro e w6 ⟨rfl,hb6⟩))
   all_goals go_ret2
   all_goals first
    |exact⟨by rw[HS.out];rfl,HW5.out.trans (hb6.mono HW5.out.size)⟩
    |exact absurd q1 (by simp at*;omega)
 ·rw[if_neg t0]at hE
  have u2:(e0 != 0)=true:=by simp[t0]
  have HE:=Hp hE.symm
  rw[hE,if_neg t0]at hS
  subst hS
  clear hw1 hb1 h he0 hz1 t0 hE
  go_enter Tryz.func93,Tryz.ntmps93
  go_wp2_with (go_at_call 94;refine(cF.out).mono ?_;rintro e w5 ⟨rfl,hb5⟩)
  go_ret2
  exact⟨by rw[HE.out];rfl,HB1.out.trans (hb5.mono HB1.out.size)⟩
end
section
set_option maxRecDepth 100000
set_option maxHeartbeats 4000000
open Go.RowKit
theorem deds_block {w:World} {g:Nat} {cs:Array Value} {t:TypeId} {fr:Nat×Nat} {l:List Ded} (h:w.heap[g]? =some (.cells cs t fr)) (e:cs.toList=l.flatMap Ded.cells) (hl:l.length<=1000):ES w (some ⟨g,0,none⟩) l:=
 ⟨pF (enc:=Ded.cells) (k:=3) (fun _=>rfl) h e,by unfold big;omega⟩
def beg0 :List ByteArray:=List.replicate 2 blank
def begL :List Ded:=[⟨1,129,15⟩,⟨1,129,60⟩]
def beg1 :List ByteArray:=bT beg0 begL
def beg2 :List ByteArray:=tornL beg1 ⟨2,1,0⟩ [255,1]
theorem beg_new :uX 2=0:=by kernel_rfl
theorem beg_f0 :bP beg0=0:=by kernel_rfl
theorem beg_do :Eg beg0 begL=0:=by kernel_rfl
theorem beg_f1 :bP beg1=0:=by kernel_rfl
theorem beg_r1 :readErr beg1 128 3=0:=by kernel_rfl
theorem beg_s1 :readStr beg1 128 3=⟨#[255,12,255]⟩:=by kernel_rfl
theorem beg_torn :Eg beg1 [⟨2,1,0⟩]=0:=by kernel_rfl
theorem beg_f2 :bP beg2=0:=by kernel_rfl
theorem beg_r2 :readErr beg2 129 1=0:=by kernel_rfl
theorem beg_s2 :readStr beg2 129 1=⟨#[13]⟩:=by kernel_rfl
theorem flashBegun_any (w:World):Calls Tryz.prog 25 #[] w fun e w'=>e=.returned (.bool true)/\Below w.heap.size w w':=by
 have cN:=Hp (P5 2 w)
 rw[beg_new,SK rfl,show List.replicate (2:Int).toNat blank=beg0 from rfl]at cN
 go_enter Tryz.func25,Tryz.ntmps25
 go_wp2_with (first
  |(go_at_call 74;refine(cN.out).mono ?_;rintro e w1 ⟨hb1,f1,rfl,hr1⟩
    have hf1:=hr1.is
    obtain⟨w2,hw2⟩:=Nm (w1.alloc (.cells #[.slice f1.a f1.bl.length f1.c] 29))
    obtain⟨y2,_,hz2,hb2⟩:=jG hw2
    have hw2':=hw2.symm
    obtain⟨w3,hw3⟩:=Nm (w2.alloc (.cells #[.int .i64 1,.int .i64 129,.int .i64 15,.int .i64 1,.int .i64 129,.int .i64 60] 60))
    have hw3':=hw3.symm
    have hD3:=deds_block (l:=begL) (show w3.heap[w2.heap.size]? =_ from hw3▸heap_alloc_new _ _) rfl (by decide)
    have hb3:Below w2.heap.size w2 w3:=hw3▸(Below.refl _ _).alloc (Nat.le_refl _) _
    have hO3:f1.ok w3:=(((hr1.ok (.inr beg_f0)).below hb2).below hb3)
    rw[hz2]at hD3
    have cD:=Do_any f1 (some ⟨w1.heap.size+1,0,none⟩) 2 begL w3 hO3 hD3
    rw[hf1,beg_do,SK rfl]at cD
    change Calls _ _ #[_,.slice _ 2 2] _ (fun e w'=>_/\∃f':Fl,_/\Rt w' _ f' beg1)at cD
    have CD:=Hp cD
    have HB3:=Hp ((hb1.trans (hb2.mono hb1.size)).trans (hb3.mono (by have:=hb1.size;have:=hb2.size;omega)))
    have HF1:=Hp hf1
    clear hw2 hw3 hD3 hb3 hb2 hb1 hr1 hf1 cD hO3)
  |(go_at_call 29;refine(CD.out).mono ?_;rintro e w4 ⟨hb4,f4,rfl,hr4⟩
    have hf4:=hr4.is
    obtain⟨w5,hw5⟩:=Nm (w4.alloc (.cells #[.slice f4.a f4.bl.length f4.c] 29))
    obtain⟨y5,_,hz5,hb5⟩:=jG hw5
    have hw5':=hw5.symm
    have hO5:=(hr4.ok (.inr beg_f1)).below hb5
    have cR:=Read_any f4 128 3 w5 hO5 (by omega) (by omega)
    rw[hf4,beg_r1,beg_s1]at cR
    have CR:=Hp cR
    have HB5:=Hp (HB3.out.trans ((hb4.trans (hb5.mono hb4.size)).mono HB3.out.size))
    have HO5:=Hp hO5
    have HF4:=Hp hf4
    clear hw5 hb4 hb5 hr4 hf4 hO5 cR)
  |(go_at_call 93;with_reducible refine(CR.out).mono ?_;rintro e w6 ⟨rfl,hb6⟩
    have hO6:=HO5.out.below hb6
    have cT:=Torn_any f4 2 1 0 ⟨#[255,1]⟩ w6 hO6 (by decide)
    rw[HF4.out,beg_torn,SK rfl]at cT
    change Calls _ _ _ _ (fun e w'=>_/\∃f':Fl,_/\Rt w' _ f' beg2)at cT
    have CT:=Hp cT
    have y6:=(hb6.cell (p:=⟨w4.heap.size,0,none⟩) (by simp;omega)).trans y5
    have HO6:=Hp hO6
    have HB6:=Hp (HB5.out.trans (hb6.mono HB5.out.size))
    have HZ6:=Hp (show w4.heap.size<w6.heap.size by have:=hb6.size;omega)
    clear hb6 hO6 cT CR)
  |(go_at_call 30;refine(CT.out).mono ?_;rintro e w7 ⟨hb7,f7,rfl,hr7⟩
    have hf7:=hr7.is
    obtain⟨w8,hw8⟩:=Nm (w7.alloc (.cells #[.slice f7.a f7.bl.length f7.c] 29))
    obtain⟨y8,_,hz8,hb8⟩:=jG hw8
    have hw8':=hw8.symm
    have hO8:=(hr7.ok (.inr beg_f2)).below hb8
    have hb78:=hb7.trans (hb8.mono hb7.size)
    have cS:=Read_any f7 129 1 w8 hO8 (by omega) (by omega)
    rw[hf7,beg_r2,beg_s2]at cS
    have CS:=Hp cS
    have v8:=(hb78.cell (p:=⟨w4.heap.size,0,none⟩) HZ6.out).trans y6
    have HB8:=Hp (HB6.out.trans (hb78.mono HB6.out.size))
    have HO8:=Hp (HO6.out.below hb78)
    have HZ8:=Hp (show w4.heap.size<w8.heap.size by have:=hb78.size;have:=HZ6.out;omega)
    clear hw8 hb7 hb8 hr7 hf7 hO8 cS hb78)
  |(go_at_call 93;with_reducible refine(CS.out).mono ?_;rintro e w9 ⟨rfl,hb9⟩
    have v9:=(hb9.cell (p:=⟨w4.heap.size,0,none⟩) HZ8.out).trans v8
    have cC:=yN f4 w9 (HO8.out.below hb9)
    rw[HF4.out,beg_f1]at cC
    have CC:=Hp cC
    have HB9:=Hp (HB8.out.trans (hb9.mono HB8.out.size))
    clear hb9 cC)
  |(go_at_call 94;refine(CC.out).mono ?_;rintro e w10 ⟨rfl,hb10⟩))
 go_ret
 exact⟨rfl,HB9.out.trans (hb10.mono HB9.out.size)⟩
end
section
open Go
open Go.RowKit Go.Lib
inductive Alk :Value->Value->Prop
 |same (v:Value):Alk v v
 |str (s s':ByteArray):Alk (.string s) (.string s')
 |int (k:IntKind) (n n':Int):Alk (.int k n) (.int k n')
theorem Alk.trans {a b c:Value} (h:Alk a b) (h':Alk b c):Alk a c:=by
 cases h with
 |same=>exact h'
 |str=>cases h' with
  |same=>exact .str _ _
  |str=>exact .str _ _
 |int=>cases h' with
  |same=>exact .int _ _ _
  |int=>exact .int _ _ _
structure Sp (base:Nat) (W W':World):Prop where
 bel:Below base W W'
 each:∀b i v,W.cell? ⟨b,i,none⟩=some v->(∃v',W'.cell? ⟨b,i,none⟩=some v'/\Alk v v')/\W'.frozen? ⟨b,i,none⟩=W.frozen? ⟨b,i,none⟩
theorem Sp.refl (base:Nat) (W:World):Sp base W W:=⟨Below.refl _ _,fun _ _ v h=>⟨⟨v,h,.same v⟩,rfl⟩⟩
theorem Sp.trans {base:Nat} {W W1 W2:World} (h:Sp base W W1) (h':Sp base W1 W2):Sp base W W2:=by
 refine⟨h.bel.trans h'.bel,fun b i v hv=>?_⟩
 obtain⟨⟨v1,h1,a1⟩,f1⟩:=h.each b i v hv
 obtain⟨⟨v2,h2,a2⟩,f2⟩:=h'.each b i v1 h1
 exact⟨⟨v2,h2,a1.trans a2⟩,f2.trans f1⟩
theorem Sp.of_below {base:Nat} {W W':World} (h:Below W.heap.size W W') (hb:base<=W.heap.size):Sp base W W':=by
 refine⟨h.mono hb,fun b i v hv=>?_⟩
 have hl:b<W.heap.size:=World.block_lt_of_cell? W _ hv
 exact⟨⟨v,(h.cell (p:=⟨b,i,none⟩) hl).trans hv,.same v⟩,h.frozen (p:=⟨b,i,none⟩) hl⟩
theorem Sp.size {base:Nat} {W W':World} (h:Sp base W W'):W.heap.size<=W'.heap.size:=h.bel.size
structure StrAt (W0:World) (base:Nat) (A:Option Addr) (n k o:Nat):Prop where
 each:∀j,j<n->∃g s,A=some ⟨g,0,none⟩/\W0.cell? ⟨g,j*k+o,none⟩=some (.string s)/\W0.frozen? ⟨g,j*k+o,none⟩=false/\base<=g/\g<W0.heap.size
structure IntAt (W0:World) (base:Nat) (A:Option Addr) (n k o:Nat):Prop where
 each:∀j,j<n->∃g x,A=some ⟨g,0,none⟩/\W0.cell? ⟨g,j*k+o,none⟩=some (.int .i64 x)/\W0.frozen? ⟨g,j*k+o,none⟩=false/\base<=g/\g<W0.heap.size
structure SpX (base:Nat) (W0 W W':World):Prop where
 sp:Sp base W0 W'
 top:∀b,W0.heap.size<=b->b<W.heap.size->W'.heap[b]? =W.heap[b]?
 size:W.heap.size<=W'.heap.size
theorem SpX.refl {base:Nat} {W0 W:World} (h:Sp base W0 W):SpX base W0 W W:=⟨h,fun _ _ _=>rfl,Nat.le_refl _⟩
theorem SpX.trans {base:Nat} {W0 W W1 W2:World} (h:SpX base W0 W W1) (h':SpX base W0 W1 W2):SpX base W0 W W2:=
 ⟨h'.sp,fun b h1 h2=>(h'.top b h1 (Nat.lt_of_lt_of_le h2 h.size)).trans (h.top b h1 h2),Nat.le_trans h.size h'.size⟩
theorem SpX.alloc {base:Nat} {W0 W W':World} (h:Sp base W0 W) (hb:base<=W0.heap.size) (hw:Below W.heap.size W W'):SpX base W0 W W':=
 ⟨h.trans (Sp.of_below hw (Nat.le_trans hb h.size)),fun b _ h2=>hw.block b h2,hw.size⟩
end
section
open Go
open Go.RowKit Go.Lib
theorem StrAt.keep {w w':World} {base:Nat} {A:Option Addr} {n k o:Nat} (h:StrAt w base A n k o) (hb:Below w.heap.size w w'):StrAt w' base A n k o:=
 ⟨fun j hj=>by
  obtain⟨g,s,e,h1,h2,h3,h4⟩:=h.each j hj
  exact⟨g,s,e,(hb.cell (p:=⟨g,_,none⟩) h4).trans h1,(hb.frozen (p:=⟨g,_,none⟩) h4).trans h2,h3,Nat.lt_of_lt_of_le h4 hb.size⟩⟩
theorem StrAt.below {w w':World} {base:Nat} {A:Option Addr} {n k o:Nat} (h:StrAt w base A n k o) (hb:Below w.heap.size w w'):StrAt w' base A n k o:=h.keep hb
theorem IntAt.below {w w':World} {base:Nat} {A:Option Addr} {n k o:Nat} (h:IntAt w base A n k o) (hb:Below w.heap.size w w'):IntAt w' base A n k o:=
 ⟨fun j hj=>by
  obtain⟨g,s,e,h1,h2,h3,h4⟩:=h.each j hj
  exact⟨g,s,e,(hb.cell (p:=⟨g,_,none⟩) h4).trans h1,(hb.frozen (p:=⟨g,_,none⟩) h4).trans h2,h3,Nat.lt_of_lt_of_le h4 hb.size⟩⟩
structure RfMem (w:World) (k:Krn) (bk bD bI:Nat) (g gi:Fl) (F:List ByteArray) (A6:Option Addr) (Rs:List ByteArray) (oA cA:Option Addr) (cs:List Cm) (W:World):Prop where
 bel:Below w.heap.size w W
 kr:W.heap[bk]? =some (.cells #[.int .i64 k.major,.int .i64 k.minor,.slice k.eA k.ex.length k.eC] 24 (0,0))
 fb:W.heap[bD]? =some (.cells #[.slice g.a g.bl.length g.c] 29 (0,0))
 ib:W.heap[bI]? =some (.cells #[.slice gi.a gi.bl.length gi.c] 29 (0,0))
 fo:g.ok W
 io:gi.ok W
 fe:g.bl=F
 ie:gi.bl=F
 all:Row strCells 1 W A6 Rs
 own:Row Exp.cells 2 W oA k.ex
 krn:k.ok W
 cms:nE W cA cs
theorem RfMem.below {w:World} {k:Krn} {bk bD bI:Nat} {g gi:Fl} {F:List ByteArray} {A6:Option Addr} {Rs:List ByteArray} {oA cA:Option Addr} {cs:List Cm} {W W':World} (h:RfMem w k bk bD bI g gi F A6 Rs oA cA cs W) (hb:Below W.heap.size W W'):RfMem w k bk bD bI g gi F A6 Rs oA cA cs W':=
 ⟨h.bel.trans (hb.mono h.bel.size),aF hb h.kr,aF hb h.fb,aF hb h.ib,h.fo.below hb,h.io.below hb,h.fe,h.ie,h.all.below hb,h.own.below hb,h.krn.below hb,h.cms.below hb⟩
end
end Go.Proofs.YtjiedaialianmaaGreat
