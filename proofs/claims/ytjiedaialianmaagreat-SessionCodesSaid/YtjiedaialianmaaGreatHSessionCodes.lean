import Derived.Test.YtjiedaialianmaaGreatA25
import Derived.Test.YtjiedaialianmaaGreatBCoPl01
import Derived.Test.YtjiedaialianmaaGreatBCoPlRe03
import Derived.Test.YtjiedaialianmaaGreatBCoPlReRu02
import Derived.Test.YtjiedaialianmaaGreatCCodes01
import Derived.Test.YtjiedaialianmaaGreatKTiny
/- SessionCodes: Encode and Decode of commands answer just what the document says, errors too; what is encoded is decoded as it was. No condition. -/
open Go
set_option maxRecDepth 100000
set_option maxHeartbeats 8000000
namespace Go.Proofs.YtjiedaialianmaaGreat
open Go.ChangeShapes Go.WideShapes Go.ChangeAt Go.RowKit Go.WideMaps Go.WideElems
open Go.ChangeMaps (setBlock shut_map_nil open_string shut_string keptBut_setBlock frozen?_setBlock heap_setBlock_same)
theorem Hr (l:List UInt8):(aS l).1=0\/(aS l).1=1:=by
 unfold aS
 split
 ·exact .inr rfl
 ·split
  ·split
   ·exact .inr rfl
   ·exact .inl rfl
  ·split
   ·exact .inr rfl
   ·exact .inl rfl
theorem Iw (l:List UInt8):(aS l).2.nm.size<=l.length:=by
 unfold aS
 split
 ·exact Nat.zero_le _
 ·split
  ·split
   ·exact Nat.zero_le _
   ·exact Nat.zero_le _
  ·split
   ·exact Nat.zero_le _
   ·show(sof _).size<=_
    rw[MH];simp
theorem IY {a b c:Mod} (h:gI a b) (k:gI b c):gI a c:=⟨h.name.trans k.name,h.major.trans k.major,h.minor.trans k.minor,h.text.trans k.text,h.ex.trans k.ex,h.im.trans k.im,h.pa.trans k.pa⟩
theorem xJ (cm:Cm) (s:ByteArray) (w:World) (hmn:cm.m.ok w/\cm.nm.size<=big) (hs:s.size<=big):
  Calls Tryz.prog 8 #[cm.v,.string s] w fun e w'=>e=.returned (.bool true)/\Below w.heap.size w w':=by
 obtain⟨l,rfl,hl⟩:∃l:List UInt8,s=sof l/\l.length<=big:=⟨s.data.toList,(iJ s).symm,by rw[AR];exact hs⟩
 clear hs
 obtain⟨hm,hn⟩:=hmn
 obtain⟨k,m,nm⟩:=cm
 simp only at hm hn
 show Calls Tryz.prog 8 #[.agg #[.int .i64 k,.string m.name,.int .i64 m.major,.int .i64 m.minor,.string m.text,.slice m.eA m.ex.length m.eC,.slice m.iA m.im.length m.iC,.slice m.pA m.pa.length m.pC,.string nm],.string (sof l)] w _
 have HBw:=Hp (Below.refl w.heap.size w)
 obtain⟨w0,e0⟩:=Nm w
 have HB0:=Hp (show Below w.heap.size w w0 from e0▸Below.refl _ _)
 have HMO0:=Hp (show m.ok w0 from e0▸hm)
 subst e0
 obtain⟨w1,hw1⟩:=Nm (w0.alloc (.cells #[.int .i64 k,.string m.name,.int .i64 m.major,.int .i64 m.minor,.string m.text,.slice m.eA m.ex.length m.eC,.slice m.iA m.im.length m.iC,.slice m.pA m.pa.length m.pC,.string nm] 102))
 have hb1:Below w0.heap.size w0 w1:=hw1▸(Below.refl _ _).alloc (Nat.le_refl _) _
 have HB1:=Hp (HB0.out.trans (hb1.mono HB0.out.size))
 have HMO1:=Hp (HMO0.out.below hb1)
 have HR1:=Hp (show w1.heap[w0.heap.size]? =some (.cells #[.int .i64 k,.string m.name,.int .i64 m.major,.int .i64 m.minor,.string m.text,.slice m.eA m.ex.length m.eC,.slice m.iA m.im.length m.iC,.slice m.pA m.pa.length m.pC,.string nm] 102 (0,0)) by rw[hw1];exact heap_alloc_new w0 _)
 have HSZ1:=Hp (show w1.heap.size=w0.heap.size+1 by rw[hw1];simp)
 have hw1':=hw1.symm
 clear hw1 hb1
 obtain⟨E,hE⟩:=Nm (RL ⟨k,m,nm⟩)
 obtain⟨T,hT⟩:=Nm (aG ⟨k,m,nm⟩)
 obtain⟨S,hS⟩:∃S,S=(if RL ⟨k,m,nm⟩≠0 then⟨#[]⟩else sof (aG ⟨k,m,nm⟩):ByteArray):=⟨_,rfl⟩
 obtain⟨D,hD⟩:∃D,D=(aS l).1:=⟨_,rfl⟩
 obtain⟨d,hd⟩:∃d,d=(aS l).2:=⟨_,rfl⟩
 obtain⟨K,M,N⟩:=d
 have HD:=Hp (show D=0\/D=1 from hD▸Hr l)
 have HN:=Hp (show N.size<=big from Nat.le_trans (by have:=Iw l;rw[<-hd]at this;exact this) hl)
 have HE:=Hp hE
 have HNm:=Hp hn
 have cE:=Hp (yD ⟨k,m,nm⟩ w1 HMO1.out hn)
 have cD:=Hp (fun W=>nQ l W hl)
 have cD2:=Hp (fun W=>Dw l W hl)
 rw[<-hS,<-hE]at cE
 rw[<-hd,<-hD]at cD cD2
 have cB:=Hp (fun W (h:m.ok W) (e:E=0)=>hT▸UU ⟨k,m,nm⟩ W h (hE▸e))
 have HBK:=Hp (show E=0->S=sof T/\(aS T).1=0/\(aS T).2.bare=Cm.bare ⟨k,m,nm⟩/\T.length<=big from fun e=>by
  obtain⟨a,b⟩:=GG (hE▸e)
  have:=(kZ (hE▸e)).2
  rw[<-hT]at a b this
  exact⟨by rw[hS,<-hE,if_neg (by omega),hT],a,b,by unfold big;omega⟩)
 have HBE:=Hp (show E≠0->S=⟨#[]⟩ from fun e=>by rw[hS,<-hE,if_pos e])
 obtain⟨p0,p1,p2,p3,p4,p5,p6,p7,p8⟩:=dJ (c:=⟨k,m,nm⟩) HR1.out
 clear hm hn hl hE hT hS hD hd
 go_enter Tryz.func8,Tryz.ntmps8
 go_wp2_with fail
 refine(cE.out).mono ?_;rintro e w2 ⟨rfl,hb2⟩
 have HB2:=Hp (HB1.out.trans (hb2.mono HB1.out.size))
 have HMO2:=Hp (HMO1.out.below hb2)
 have HR2:=Hp (aF hb2 HR1.out)
 clear hb2 cE p0 p1 p2 p3 p4 p5 p6 p7 p8
 go_wp2_with fail
 refine(cD.out _).mono ?_;rintro e w3 ⟨⟨x,rfl,hok,how,hsc⟩,hb3⟩
 have HB3:=Hp (HB2.out.trans (hb3.mono HB2.out.size))
 have HMO3:=Hp (HMO2.out.below hb3)
 have HR3:=Hp (aF hb3 HR2.out)
 have HX3:=Hp hok
 have HSX:=Hp hsc
 clear hok how hsc hb3 cD
 obtain⟨w4,hw4⟩:=Nm (w3.alloc (.cells #[.int .i64 K,.string x.name,.int .i64 x.major,.int .i64 x.minor,.string x.text,.slice x.eA x.ex.length x.eC,.slice x.iA x.im.length x.iC,.slice x.pA x.pa.length x.pC,.string N] 102))
 have hb4:Below w3.heap.size w3 w4:=hw4▸(Below.refl _ _).alloc (Nat.le_refl _) _
 have hneRP:=Hp (Nat.ne_of_lt (Array.getElem?_eq_some_iff.1 HR3.out).1)
 have HB4:=Hp (HB3.out.trans (hb4.mono HB3.out.size))
 have HMO4:=Hp (HMO3.out.below hb4)
 have HR4:=Hp (aF hb4 HR3.out)
 have HX4:=Hp (HX3.out.below hb4)
 have HP4:=Hp (show w4.heap[w3.heap.size]? =some (.cells #[.int .i64 K,.string x.name,.int .i64 x.major,.int .i64 x.minor,.string x.text,.slice x.eA x.ex.length x.eC,.slice x.iA x.im.length x.iC,.slice x.pA x.pa.length x.pC,.string N] 102 (0,0)) by rw[hw4];exact heap_alloc_new w3 _)
 have HSZ4:=Hp (show w4.heap.size=w3.heap.size+1 by rw[hw4];simp)
 have hw4':=hw4.symm
 clear hw4 hb4
 have cK:=Hp (UT ⟨k,m,nm⟩ w4 HMO4.out HNm.out)
 rw[<-HE.out]at cK
 obtain⟨p0,p1,p2,p3,p4,p5,p6,p7,p8⟩:=dJ (c:=⟨k,m,nm⟩) HR4.out
 go_wp2_with fail
 refine(cK.out).mono ?_;rintro e w5 ⟨rfl,hb5⟩
 have HB5:=Hp (HB4.out.trans (hb5.mono HB4.out.size))
 have HMO5:=Hp (HMO4.out.below hb5)
 have HR5:=Hp (aF hb5 HR4.out)
 have HX5:=Hp (HX4.out.below hb5)
 have HP5:=Hp (aF hb5 HP4.out)
 clear hb5 cK p0 p1 p2 p3 p4 p5 p6 p7 p8
 by_cases t:E=0
 ·obtain⟨z0,z1,z2,z3⟩:=HBK.out t
  obtain⟨y,hy⟩:∃y,y=(aS T).2:=⟨_,rfl⟩
  have cL:=Hp (fun W=>nQ T W z3)
  rw[<-hy]at z2 cL
  rw[z1]at cL
  obtain⟨K',M',N'⟩:=y
  have z4:k=K':=(congrArg Cm.kind z2).symm
  have z5:nm=N':=(congrArg Cm.nm z2).symm
  have z6:M'.bare=m.bare:=congrArg Cm.m z2
  subst z4 z5 z0 t
  have HW:=Hp (uS z6)
  have cB':=Hp (cB.out w5 HMO5.out rfl)
  clear z1 z2 z3 z6 hy cB HBE HBK HE
  obtain⟨p0,p1,p2,p3,p4,p5,p6,p7,p8⟩:=dJ (c:=⟨k,m,nm⟩) HR5.out
  go_wp2_with fail
  refine(cB'.out).mono ?_;rintro e w6 ⟨rfl,hb6⟩
  have HB6:=Hp (HB5.out.trans (hb6.mono HB5.out.size))
  have HMO6:=Hp (HMO5.out.below hb6)
  have HR6:=Hp (aF hb6 HR5.out)
  have HX6:=Hp (HX5.out.below hb6)
  have HP6:=Hp (aF hb6 HP5.out)
  clear hb6 cB' p0 p1 p2 p3 p4 p5 p6 p7 p8
  go_wp2_with fail
  refine(cD2.out _).mono ?_;rintro e w7 ⟨⟨z,rfl,hok,how,hsc⟩,hb7⟩
  have HB7:=Hp (HB6.out.trans (hb7.mono HB6.out.size))
  have HMO7:=Hp (HMO6.out.below hb7)
  have HR7:=Hp (aF hb7 HR6.out)
  have HX7:=Hp (HX6.out.below hb7)
  have HP7:=Hp (aF hb7 HP6.out)
  have HZ7:=Hp hok
  have HSZ:=Hp (IY hsc HSX.out.Jz)
  clear hok how hsc hb7 cD2
  obtain⟨w8,hw8⟩:=Nm (w7.alloc (.cells #[.int .i64 K,.string z.name,.int .i64 z.major,.int .i64 z.minor,.string z.text,.slice z.eA z.ex.length z.eC,.slice z.iA z.im.length z.iC,.slice z.pA z.pa.length z.pC,.string N] 102))
  have hb8:Below w7.heap.size w7 w8:=hw8▸(Below.refl _ _).alloc (Nat.le_refl _) _
  have hneRQ:=Hp (Nat.ne_of_lt (Array.getElem?_eq_some_iff.1 HR7.out).1)
  have hnePQ:=Hp (Nat.ne_of_lt (Array.getElem?_eq_some_iff.1 HP7.out).1)
  have HB8:=Hp (HB7.out.trans (hb8.mono HB7.out.size))
  have HMO8:=Hp (HMO7.out.below hb8)
  have HR8:=Hp (aF hb8 HR7.out)
  have HX8:=Hp (HX7.out.below hb8)
  have HP8:=Hp (aF hb8 HP7.out)
  have HZ8:=Hp (HZ7.out.below hb8)
  have HQ8:=Hp (show w8.heap[w7.heap.size]? =some (.cells #[.int .i64 K,.string z.name,.int .i64 z.major,.int .i64 z.minor,.string z.text,.slice z.eA z.ex.length z.eC,.slice z.iA z.im.length z.iC,.slice z.pA z.pa.length z.pC,.string N] 102 (0,0)) by rw[hw8];exact heap_alloc_new w7 _)
  have HSZ8:=Hp (show w8.heap.size=w7.heap.size+1 by rw[hw8];simp)
  have hw8':=hw8.symm
  clear hw8 hb8
  go_wp2_with fail
  refine(dG _).mono ?_;rintro e w9 ⟨rfl,hb9⟩
  have HB9:=Hp (HB8.out.trans (hb9.mono HB8.out.size))
  have HMO9:=Hp (HMO8.out.below hb9)
  have HR9:=Hp (aF hb9 HR8.out)
  have HX9:=Hp (HX8.out.below hb9)
  have HP9:=Hp (aF hb9 HP8.out)
  have HZ9:=Hp (HZ8.out.below hb9)
  have HQ9:=Hp (aF hb9 HQ8.out)
  clear hb9
  have cS:=Hp (nN ⟨K,x,N⟩ ⟨K,z,N⟩ w9 HX9.out HZ9.out HN.out rfl HSZ.out.Jz rfl)
  obtain⟨p0,p1,p2,p3,p4,p5,p6,p7,p8⟩:=dJ (c:=⟨K,x,N⟩) HP9.out
  obtain⟨q0,q1,q2,q3,q4,q5,q6,q7,q8⟩:=dJ (c:=⟨K,z,N⟩) HQ9.out
  obtain rfl|rfl:=HD.out
  all_goals(
   go_wp2_with fail
   refine(cS.out).mono ?_;rintro e w10 ⟨rfl,hb10⟩
   have HB10:=Hp (HB9.out.trans (hb10.mono HB9.out.size))
   have HMO10:=Hp (HMO9.out.below hb10)
   have HR10:=Hp (aF hb10 HR9.out)
   have HX10:=Hp (HX9.out.below hb10)
   have HP10:=Hp (aF hb10 HP9.out)
   have HZ10:=Hp (HZ9.out.below hb10)
   have HQ10:=Hp (aF hb10 HQ9.out)
   clear hb10 cS p0 p1 p2 p3 p4 p5 p6 p7 p8 q0 q1 q2 q3 q4 q5 q6 q7 q8
   go_wp2_with fail
   refine(cL.out _).mono ?_;rintro e w11 ⟨⟨u,rfl,hok,how,hsc⟩,hb11⟩
   have HB11:=Hp (HB10.out.trans (hb11.mono HB10.out.size))
   have HMO11:=Hp (HMO10.out.below hb11)
   have HR11:=Hp (aF hb11 HR10.out)
   have HX11:=Hp (HX10.out.below hb11)
   have HP11:=Hp (aF hb11 HP10.out)
   have HZ11:=Hp (HZ10.out.below hb11)
   have HQ11:=Hp (aF hb11 HQ10.out)
   have HU11:=Hp hok
   have HSU:=Hp (IY hsc HW.out)
   clear hok how hsc hb11 cL
   obtain⟨w12,hw12⟩:=Nm (w11.alloc (.cells #[.int .i64 k,.string u.name,.int .i64 u.major,.int .i64 u.minor,.string u.text,.slice u.eA u.ex.length u.eC,.slice u.iA u.im.length u.iC,.slice u.pA u.pa.length u.pC,.string nm] 102))
   have hb12:Below w11.heap.size w11 w12:=hw12▸(Below.refl _ _).alloc (Nat.le_refl _) _
   have hneRV:=Hp (Nat.ne_of_lt (Array.getElem?_eq_some_iff.1 HR11.out).1)
   have hnePV:=Hp (Nat.ne_of_lt (Array.getElem?_eq_some_iff.1 HP11.out).1)
   have hneQV:=Hp (Nat.ne_of_lt (Array.getElem?_eq_some_iff.1 HQ11.out).1)
   have HB12:=Hp (HB11.out.trans (hb12.mono HB11.out.size))
   have HMO12:=Hp (HMO11.out.below hb12)
   have HR12:=Hp (aF hb12 HR11.out)
   have HX12:=Hp (HX11.out.below hb12)
   have HP12:=Hp (aF hb12 HP11.out)
   have HZ12:=Hp (HZ11.out.below hb12)
   have HQ12:=Hp (aF hb12 HQ11.out)
   have HU12:=Hp (HU11.out.below hb12)
   have HV12:=Hp (show w12.heap[w11.heap.size]? =some (.cells #[.int .i64 k,.string u.name,.int .i64 u.major,.int .i64 u.minor,.string u.text,.slice u.eA u.ex.length u.eC,.slice u.iA u.im.length u.iC,.slice u.pA u.pa.length u.pC,.string nm] 102 (0,0)) by rw[hw12];exact heap_alloc_new w11 _)
   have HSZ12:=Hp (show w12.heap.size=w11.heap.size+1 by rw[hw12];simp)
   have hw12':=hw12.symm
   clear hw12 hb12
   have cS:=Hp (nN ⟨k,u,nm⟩ ⟨k,m,nm⟩ w12 HU12.out HMO12.out HNm.out rfl HSU.out rfl)
   obtain⟨p0,p1,p2,p3,p4,p5,p6,p7,p8⟩:=dJ (c:=⟨k,u,nm⟩) HV12.out
   obtain⟨q0,q1,q2,q3,q4,q5,q6,q7,q8⟩:=dJ (c:=⟨k,m,nm⟩) HR12.out
   go_wp2_with fail
   refine(cS.out).mono ?_;rintro e w13 ⟨rfl,hb13⟩
   have HB13:=Hp (HB12.out.trans (hb13.mono HB12.out.size))
   have HMO13:=Hp (HMO12.out.below hb13)
   have HR13:=Hp (aF hb13 HR12.out)
   have HX13:=Hp (HX12.out.below hb13)
   have HP13:=Hp (aF hb13 HP12.out)
   have HZ13:=Hp (HZ12.out.below hb13)
   have HQ13:=Hp (aF hb13 HQ12.out)
   have HU13:=Hp (HU12.out.below hb13)
   have HV13:=Hp (aF hb13 HV12.out)
   go_wp2_with fail
   go_ret
   exact⟨by simp,HB13.out⟩)
 ·obtain rfl:=HBE.out t
  have t':(E==0)=false:=by simp[t]
  have t2:(E != 0)=true:=by simp[t]
  clear t cB HBK HBE HE
  go_wp2_with fail
  refine(cD2.out _).mono ?_;rintro e w7 ⟨⟨z,rfl,hok,how,hsc⟩,hb7⟩
  have HB7:=Hp (HB5.out.trans (hb7.mono HB5.out.size))
  have HMO7:=Hp (HMO5.out.below hb7)
  have HR7:=Hp (aF hb7 HR5.out)
  have HX7:=Hp (HX5.out.below hb7)
  have HP7:=Hp (aF hb7 HP5.out)
  have HZ7:=Hp hok
  have HSZ:=Hp (IY hsc HSX.out.Jz)
  clear hok how hsc hb7 cD2
  obtain⟨w8,hw8⟩:=Nm (w7.alloc (.cells #[.int .i64 K,.string z.name,.int .i64 z.major,.int .i64 z.minor,.string z.text,.slice z.eA z.ex.length z.eC,.slice z.iA z.im.length z.iC,.slice z.pA z.pa.length z.pC,.string N] 102))
  have hb8:Below w7.heap.size w7 w8:=hw8▸(Below.refl _ _).alloc (Nat.le_refl _) _
  have hneRQ:=Hp (Nat.ne_of_lt (Array.getElem?_eq_some_iff.1 HR7.out).1)
  have hnePQ:=Hp (Nat.ne_of_lt (Array.getElem?_eq_some_iff.1 HP7.out).1)
  have HB8:=Hp (HB7.out.trans (hb8.mono HB7.out.size))
  have HMO8:=Hp (HMO7.out.below hb8)
  have HR8:=Hp (aF hb8 HR7.out)
  have HX8:=Hp (HX7.out.below hb8)
  have HP8:=Hp (aF hb8 HP7.out)
  have HZ8:=Hp (HZ7.out.below hb8)
  have HQ8:=Hp (show w8.heap[w7.heap.size]? =some (.cells #[.int .i64 K,.string z.name,.int .i64 z.major,.int .i64 z.minor,.string z.text,.slice z.eA z.ex.length z.eC,.slice z.iA z.im.length z.iC,.slice z.pA z.pa.length z.pC,.string N] 102 (0,0)) by rw[hw8];exact heap_alloc_new w7 _)
  have HSZ8:=Hp (show w8.heap.size=w7.heap.size+1 by rw[hw8];simp)
  have hw8':=hw8.symm
  clear hw8 hb8
  go_wp2_with fail
  refine(dG _).mono ?_;rintro e w9 ⟨rfl,hb9⟩
  have HB9:=Hp (HB8.out.trans (hb9.mono HB8.out.size))
  have HMO9:=Hp (HMO8.out.below hb9)
  have HR9:=Hp (aF hb9 HR8.out)
  have HX9:=Hp (HX8.out.below hb9)
  have HP9:=Hp (aF hb9 HP8.out)
  have HZ9:=Hp (HZ8.out.below hb9)
  have HQ9:=Hp (aF hb9 HQ8.out)
  clear hb9
  have cS:=Hp (nN ⟨K,x,N⟩ ⟨K,z,N⟩ w9 HX9.out HZ9.out HN.out rfl HSZ.out.Jz rfl)
  obtain⟨p0,p1,p2,p3,p4,p5,p6,p7,p8⟩:=dJ (c:=⟨K,x,N⟩) HP9.out
  obtain⟨q0,q1,q2,q3,q4,q5,q6,q7,q8⟩:=dJ (c:=⟨K,z,N⟩) HQ9.out
  obtain rfl|rfl:=HD.out
  all_goals(
   go_wp2_with fail
   refine(cS.out).mono ?_;rintro e w10 ⟨rfl,hb10⟩
   have HB10:=Hp (HB9.out.trans (hb10.mono HB9.out.size))
   have HMO10:=Hp (HMO9.out.below hb10)
   have HR10:=Hp (aF hb10 HR9.out)
   have HX10:=Hp (HX9.out.below hb10)
   have HP10:=Hp (aF hb10 HP9.out)
   have HZ10:=Hp (HZ9.out.below hb10)
   have HQ10:=Hp (aF hb10 HQ9.out)
   clear hb10 cS p0 p1 p2 p3 p4 p5 p6 p7 p8 q0 q1 q2 q3 q4 q5 q6 q7 q8
   go_wp2_with fail
   go_ret
   exact⟨by simp,HB10.out⟩)
theorem sD :joinedFacts Tryz.prog 8 Tryz.f8 Rows.sessionCodesSpec Rows.sessionCodesRow=true:=by
 unfold joinedFacts
 simp only[Bool.and_eq_true]
 and_intros
 ·as_aux_lemma=>kernel_rfl
 ·exact Tryz.laidOut
 ·exact Tryz.Sa
 ·as_aux_lemma=>kernel_rfl
 ·as_aux_lemma=>kernel_rfl
 ·as_aux_lemma=>kernel_rfl
 ·exact Tryz.UF
 ·as_aux_lemma=>kernel_rfl
 ·exact Tryz.SS
 ·as_aux_lemma=>kernel_rfl
 ·as_aux_lemma=>kernel_rfl
 ·as_aux_lemma=>kernel_rfl
 ·as_aux_lemma=>kernel_rfl
 ·as_aux_lemma=>kernel_rfl
 ·as_aux_lemma=>kernel_rfl
 ·as_aux_lemma=>kernel_rfl
 ·as_aux_lemma=>kernel_rfl
 ·as_aux_lemma=>kernel_rfl
 ·as_aux_lemma=>kernel_rfl
 ·as_aux_lemma=>kernel_rfl
 ·as_aux_lemma=>kernel_rfl
 ·as_aux_lemma=>kernel_rfl
 ·exact Tryz.Sc
 ·as_aux_lemma=>kernel_rfl
 ·exact Tryz.jD
 ·exact Tryz.kY
 ·exact Tryz.rW
 ·exact Tryz.xI
 ·as_aux_lemma=>kernel_rfl
 ·as_aux_lemma=>kernel_rfl
 ·as_aux_lemma=>kernel_rfl
 ·as_aux_lemma=>kernel_rfl
theorem UH (os:Os) (started:os.Started) (H:Type) (enc:TypeId×Value->H):
  ReturnsInHanded {} Tryz.checked os 8 .any (Rows.sessionCodesSpec.pre6 enc Tryz.prog Tryz.f8 Rows.sessionCodesRow.domain false) (Rows.sessionCodesSpec.post enc Tryz.prog Tryz.f8 false true false false):=by
 refine returnsInHanded_of_change_sized (C:=Tryz.checked) Tryz.own started (by kernel_rfl) Tryz.func8
  (ChangeSpec.witness6 (enc:=enc) (C:=Tryz.checked) false ⟨#[],#[.agg #[.int .i64 0,.string ⟨#[]⟩,.int .i64 0,.int .i64 0,.string ⟨#[]⟩,.slice none 0 0,.slice none 0 0,.slice none 0 0,.string ⟨#[]⟩],.string ⟨#[]⟩],[]⟩ 8 (by kernel_rfl) (by kernel_rfl) (by kernel_rfl) (by kernel_rfl)) ?_
 intro W base args ds gs before hval0 hW hcnd hsz0 _
 have hval:∀(j:Nat) t v,Tryz.f8.params[j]? =some t->args[j]? =some v->Value.okWide Tryz.prog W .any base t v:=hval0
 have hsz:(DataW.weightsEach Tryz.prog (Tryz.f8.params.toList++Rows.sessionCodesSpec.plain.varTypes Tryz.prog) (ds++gs)).all (· <=reachBytes)=true:=hsz0
 have hW':=hW
 obtain⟨p,q,hA0,hV,rfl,hfz,hnd⟩:=hW
 have hA:DataW.TrodAll enc Tryz.prog W 0 (fun _=>true) true Tryz.f8.params.toList args.toList ds p:=hA0
 rw[Tryz.params8]at hA hval hsz
 obtain⟨v0,vs0,d0,ds0,p0,q0,hargs,rfl,rfl,h0,r0⟩:=trodAll_cons hA
 obtain⟨v1,vs1,d1,ds1,p1,q1,rfl,rfl,rfl,h1,r1⟩:=trodAll_cons r0
 obtain⟨rfl,rfl,rfl⟩:=trodAll_nil r1
 obtain rfl:args=#[v0,v1]:=by cases args;simp_all
 obtain⟨rfl,rfl⟩:=trodVars_none hV
 have ft0:=fF hsz (j:=0) rfl rfl
 obtain⟨c,rfl,ok0⟩:=Nl (hval 0 102 v0 rfl rfl) h0 ft0
 obtain⟨s,rfl,rfl,rfl,w1⟩:=open_string Tryz.underlying9 (hval 1 9 v1 rfl rfl) h1
 have z1:s.size<=140737488351232:=by have:=sized_string hsz (j:=1) (t:=9) rfl rfl;simpa[reachBytes]using this
 refine(xJ c s W ok0 z1).mono fun e W' ⟨he,hb⟩=>?_
 subst he
 exact⟨_,rfl,nZ Tryz.laidOut hW' rfl (by decide+kernel) rfl Tryz.underlying4 rfl rfl rfl hb⟩
theorem sessionCodes_holds :Rows.SessionCodesSaid:=
 OpenClaim.holds_of_wide 8 Tryz.f8 rfl rfl rfl rfl rfl rfl rfl ⟨rfl,rfl,rfl,rfl,rfl⟩ rfl rfl rfl rfl rfl (by kernel_rfl) Tryz.func8 sD
  (of_decide_eq_true (by kernel_rfl)) (by unfold Func.isWrapper;first|(rw[if_pos (by decide+kernel)];kernel_rfl)|(rw[if_neg (by decide+kernel)];exact⟨rfl,rfl⟩))
  (fun os started H enc _=>UH os started H enc)
#print axioms sessionCodes_holds
end Go.Proofs.YtjiedaialianmaaGreat
