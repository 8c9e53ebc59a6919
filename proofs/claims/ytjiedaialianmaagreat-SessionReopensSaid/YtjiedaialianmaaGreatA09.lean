import Derived.Test.YtjiedaialianmaaGreatA04
set_option maxRecDepth 100000
set_option maxHeartbeats 8000000
namespace Go.Proofs.YtjiedaialianmaaGreat
section
open Go.RowKit
theorem rX (s:ByteArray):(s.toList==[107,101,114,110,101,108])=decide (s=RG):=by
 rw[Lib.toList_data,Bool.eq_iff_iff,beq_iff_eq,decide_eq_true_eq]
 exact⟨fun h=>ba_eq h,fun h=>by rw[h];rfl⟩
theorem oM (m:Mod)(w:World)(h:m.ok w):
  Calls Tryz.prog 113 #[m.v] w fun e w'=>e=.returned (.int .i64 (aL m))/\Below w.heap.size w w':=by
 obtain⟨hex,him,hpa,hnm,htx⟩:=h
 obtain⟨w0,hw0⟩:=Nm (w.alloc (.cells #[.string m.name,.int .i64 m.major,.int .i64 m.minor,.string m.text,.slice m.eA m.ex.length m.eC,.slice m.iA m.im.length m.iC,.slice m.pA m.pa.length m.pC] 70))
 obtain⟨g0,g1,g2,g3,g4,g5,g6,hz,hb0⟩:=wE hw0
 have hz0:w.heap.size<w0.heap.size:=by omega
 have H0:=Hp hb0
 have hw0':=hw0.symm
 clear hw0 hb0
 obtain⟨E,hE⟩:=Nm (aL m)
 rw[<-hE]
 have HE:=Hp hE
 have hl1:=hex.2.1
 have hl2:=him.2.1
 have hl3:=hpa.2
 have ht:=htx
 unfold big at hl1 hl2 hl3 ht
 have z1:=Hp (show(m.text.size:Int)<=big by unfold big;omega)
 have HEX:=Hp hex
 have HIM:=Hp him
 have HPA:=Hp hpa
 have HTX:=Hp htx
 have hme:aL m=if isName m.name=false\/m.name=RG then 1
  else if m.major<0\/255<m.major\/m.minor<0\/255<m.minor then 3
  else if 256<m.text.size\/6<m.ex.length\/6<m.im.length\/12<m.pa.length then 2
  else if m.text.size=0\/m.text.size % 4≠0 then 1
  else if eF [] m.text.size m.ex≠0 then eF [] m.text.size m.ex
  else if eP [] m.im≠0 then eP [] m.im
  else Rp m.text.size m.im.length 0 m.pa:=rfl
 rw[hme]at hE
 have c1:=Hp (fun W=>qY m.name W hnm)
 clear hme hnm hex him hpa htx
 have c2:=Hp (fun W=>Uw m.major m.minor W)
 have c3:=Hp (fun W(hb:Below w.heap.size w W)=>wC m.eA m.eC m.ex m.text.size W ⟨HEX.out.1.below hb,HEX.out.2⟩ (by omega) z1.out)
 have c4:=Hp (fun W(hb:Below w.heap.size w W)=>F7 m.iA m.iC m.im W ⟨HIM.out.1.below hb,HIM.out.2⟩)
 have c5:=Hp (fun W(hb:Below w.heap.size w W)=>Gm m.name m.text m.major m.minor m.eA m.iA m.pA m.ex.length m.eC m.im.length m.iC m.pC m.pa W ⟨HPA.out.1.below hb,HPA.out.2⟩ HTX.out HIM.out.2.1)
 have kq:=rX m.name
 have hv:qX m.major m.minor=!decide (m.major<0\/255<m.major\/m.minor<0\/255<m.minor):=by
  unfold qX;rw[Bool.eq_iff_iff];simp;omega
 by_cases t1:isName m.name=true
 case neg=>
  rw[if_pos (by simp at t1;exact .inl t1)]at hE
  rw[show isName m.name=false by simpa using t1]at c1
  clear t1 kq hv
  go_enter Tryz.func113,Tryz.ntmps113
  go_wp2_with (first|(go_at_call 181;(with_reducible refine(c1.out _).mono ?_);rintro e w1 ⟨rfl,hb1⟩;obtain⟨hc1,hf1⟩:=aJ hb1;have hz1:w.heap.size<w1.heap.size:=by have:=hb1.size;(try simp at this);omega)|(go_at_call 182;(with_reducible refine(c2.out _).mono ?_);rintro e w' ⟨rfl,rfl⟩)|(go_at_call 154;(with_reducible refine(c3.out _ (H0.out.trans (hb1.mono (by omega)))).mono ?_);rintro e w3 ⟨rfl,hb3⟩;obtain⟨hc3,hf3⟩:=aJ hb3;have hz3:w.heap.size<w3.heap.size:=by have:=hb3.size;(try simp at this);omega)|(go_at_call 183;(with_reducible refine(c4.out _ ((H0.out.trans (hb1.mono (by omega))).trans (hb3.mono (by omega)))).mono ?_);rintro e w4 ⟨rfl,hb4⟩;obtain⟨hc4,hf4⟩:=aJ hb4;have hz4:w.heap.size<w4.heap.size:=by have:=hb4.size;(try simp at this);omega)|(go_at_call 184;(with_reducible refine(c5.out _ (((H0.out.trans (hb1.mono (by omega))).trans (hb3.mono (by omega))).trans (hb4.mono (by omega)))).mono ?_);rintro e w5 ⟨rfl,hb5⟩;obtain⟨hc5,hf5⟩:=aJ hb5;have hz5:w.heap.size<w5.heap.size:=by have:=hb5.size;(try simp at this);omega))
  go_ret
  exact⟨aC hE.symm,(H0.trans (hb1.mono (by omega)))⟩
 rw[t1]at c1
 by_cases t2:m.name=RG
 case pos=>
  rw[if_pos (.inr t2)]at hE
  rw[show decide (m.name=RG)=true by simp[t2]]at kq
  clear t1 t2 hv
  go_enter Tryz.func113,Tryz.ntmps113
  go_wp2_with (first|(go_at_call 181;(with_reducible refine(c1.out _).mono ?_);rintro e w1 ⟨rfl,hb1⟩;obtain⟨hc1,hf1⟩:=aJ hb1;have hz1:w.heap.size<w1.heap.size:=by have:=hb1.size;(try simp at this);omega)|(go_at_call 182;(with_reducible refine(c2.out _).mono ?_);rintro e w' ⟨rfl,rfl⟩)|(go_at_call 154;(with_reducible refine(c3.out _ (H0.out.trans (hb1.mono (by omega)))).mono ?_);rintro e w3 ⟨rfl,hb3⟩;obtain⟨hc3,hf3⟩:=aJ hb3;have hz3:w.heap.size<w3.heap.size:=by have:=hb3.size;(try simp at this);omega)|(go_at_call 183;(with_reducible refine(c4.out _ ((H0.out.trans (hb1.mono (by omega))).trans (hb3.mono (by omega)))).mono ?_);rintro e w4 ⟨rfl,hb4⟩;obtain⟨hc4,hf4⟩:=aJ hb4;have hz4:w.heap.size<w4.heap.size:=by have:=hb4.size;(try simp at this);omega)|(go_at_call 184;(with_reducible refine(c5.out _ (((H0.out.trans (hb1.mono (by omega))).trans (hb3.mono (by omega))).trans (hb4.mono (by omega)))).mono ?_);rintro e w5 ⟨rfl,hb5⟩;obtain⟨hc5,hf5⟩:=aJ hb5;have hz5:w.heap.size<w5.heap.size:=by have:=hb5.size;(try simp at this);omega))
  go_ret
  exact⟨aC hE.symm,(H0.trans (hb1.mono (by omega)))⟩
 rw[if_neg (by simp[t1,t2])]at hE
 rw[show decide (m.name=RG)=false by simp[t2]]at kq
 by_cases t3:m.major<0\/255<m.major\/m.minor<0\/255<m.minor
 case pos=>
  rw[if_pos t3]at hE
  rw[hv,show decide (m.major<0\/255<m.major\/m.minor<0\/255<m.minor)=true by simp[t3]]at c2
  clear t1 t2 t3 hv
  go_enter Tryz.func113,Tryz.ntmps113
  go_wp2_with (first|(go_at_call 181;(with_reducible refine(c1.out _).mono ?_);rintro e w1 ⟨rfl,hb1⟩;obtain⟨hc1,hf1⟩:=aJ hb1;have hz1:w.heap.size<w1.heap.size:=by have:=hb1.size;(try simp at this);omega)|(go_at_call 182;(with_reducible refine(c2.out _).mono ?_);rintro e w' ⟨rfl,rfl⟩)|(go_at_call 154;(with_reducible refine(c3.out _ (H0.out.trans (hb1.mono (by omega)))).mono ?_);rintro e w3 ⟨rfl,hb3⟩;obtain⟨hc3,hf3⟩:=aJ hb3;have hz3:w.heap.size<w3.heap.size:=by have:=hb3.size;(try simp at this);omega)|(go_at_call 183;(with_reducible refine(c4.out _ ((H0.out.trans (hb1.mono (by omega))).trans (hb3.mono (by omega)))).mono ?_);rintro e w4 ⟨rfl,hb4⟩;obtain⟨hc4,hf4⟩:=aJ hb4;have hz4:w.heap.size<w4.heap.size:=by have:=hb4.size;(try simp at this);omega)|(go_at_call 184;(with_reducible refine(c5.out _ (((H0.out.trans (hb1.mono (by omega))).trans (hb3.mono (by omega))).trans (hb4.mono (by omega)))).mono ?_);rintro e w5 ⟨rfl,hb5⟩;obtain⟨hc5,hf5⟩:=aJ hb5;have hz5:w.heap.size<w5.heap.size:=by have:=hb5.size;(try simp at this);omega))
  go_ret
  exact⟨aC hE.symm,(H0.trans (hb1.mono (by omega)))⟩
 rw[if_neg t3]at hE
 rw[hv,show decide (m.major<0\/255<m.major\/m.minor<0\/255<m.minor)=false by simp[t3]]at c2
 clear t1 t2 t3 hv
 by_cases t4:256<m.text.size
 case pos=>
  rw[if_pos (by omega)]at hE
  have t4':(256:Int)<(m.text.size:Nat):=by omega
  clear t4
  go_enter Tryz.func113,Tryz.ntmps113
  go_wp2_with (first|(go_at_call 181;(with_reducible refine(c1.out _).mono ?_);rintro e w1 ⟨rfl,hb1⟩;obtain⟨hc1,hf1⟩:=aJ hb1;have hz1:w.heap.size<w1.heap.size:=by have:=hb1.size;(try simp at this);omega)|(go_at_call 182;(with_reducible refine(c2.out _).mono ?_);rintro e w' ⟨rfl,rfl⟩)|(go_at_call 154;(with_reducible refine(c3.out _ (H0.out.trans (hb1.mono (by omega)))).mono ?_);rintro e w3 ⟨rfl,hb3⟩;obtain⟨hc3,hf3⟩:=aJ hb3;have hz3:w.heap.size<w3.heap.size:=by have:=hb3.size;(try simp at this);omega)|(go_at_call 183;(with_reducible refine(c4.out _ ((H0.out.trans (hb1.mono (by omega))).trans (hb3.mono (by omega)))).mono ?_);rintro e w4 ⟨rfl,hb4⟩;obtain⟨hc4,hf4⟩:=aJ hb4;have hz4:w.heap.size<w4.heap.size:=by have:=hb4.size;(try simp at this);omega)|(go_at_call 184;(with_reducible refine(c5.out _ (((H0.out.trans (hb1.mono (by omega))).trans (hb3.mono (by omega))).trans (hb4.mono (by omega)))).mono ?_);rintro e w5 ⟨rfl,hb5⟩;obtain⟨hc5,hf5⟩:=aJ hb5;have hz5:w.heap.size<w5.heap.size:=by have:=hb5.size;(try simp at this);omega))
  go_ret
  exact⟨aC hE.symm,(H0.trans (hb1.mono (by omega)))⟩
 have t4':decide ((256:Int)<(m.text.size:Nat))=false:=by simp;omega
 by_cases t5:6<m.ex.length
 case pos=>
  rw[if_pos (by omega)]at hE
  have t5':(6:Int)<(m.ex.length:Nat):=by omega
  clear t5
  go_enter Tryz.func113,Tryz.ntmps113
  go_wp2_with (first|(go_at_call 181;(with_reducible refine(c1.out _).mono ?_);rintro e w1 ⟨rfl,hb1⟩;obtain⟨hc1,hf1⟩:=aJ hb1;have hz1:w.heap.size<w1.heap.size:=by have:=hb1.size;(try simp at this);omega)|(go_at_call 182;(with_reducible refine(c2.out _).mono ?_);rintro e w' ⟨rfl,rfl⟩)|(go_at_call 154;(with_reducible refine(c3.out _ (H0.out.trans (hb1.mono (by omega)))).mono ?_);rintro e w3 ⟨rfl,hb3⟩;obtain⟨hc3,hf3⟩:=aJ hb3;have hz3:w.heap.size<w3.heap.size:=by have:=hb3.size;(try simp at this);omega)|(go_at_call 183;(with_reducible refine(c4.out _ ((H0.out.trans (hb1.mono (by omega))).trans (hb3.mono (by omega)))).mono ?_);rintro e w4 ⟨rfl,hb4⟩;obtain⟨hc4,hf4⟩:=aJ hb4;have hz4:w.heap.size<w4.heap.size:=by have:=hb4.size;(try simp at this);omega)|(go_at_call 184;(with_reducible refine(c5.out _ (((H0.out.trans (hb1.mono (by omega))).trans (hb3.mono (by omega))).trans (hb4.mono (by omega)))).mono ?_);rintro e w5 ⟨rfl,hb5⟩;obtain⟨hc5,hf5⟩:=aJ hb5;have hz5:w.heap.size<w5.heap.size:=by have:=hb5.size;(try simp at this);omega))
  go_ret
  exact⟨aC hE.symm,(H0.trans (hb1.mono (by omega)))⟩
 have t5':decide ((6:Int)<(m.ex.length:Nat))=false:=by simp;omega
 by_cases t6:6<m.im.length
 case pos=>
  rw[if_pos (by omega)]at hE
  have t6':(6:Int)<(m.im.length:Nat):=by omega
  clear t6
  go_enter Tryz.func113,Tryz.ntmps113
  go_wp2_with (first|(go_at_call 181;(with_reducible refine(c1.out _).mono ?_);rintro e w1 ⟨rfl,hb1⟩;obtain⟨hc1,hf1⟩:=aJ hb1;have hz1:w.heap.size<w1.heap.size:=by have:=hb1.size;(try simp at this);omega)|(go_at_call 182;(with_reducible refine(c2.out _).mono ?_);rintro e w' ⟨rfl,rfl⟩)|(go_at_call 154;(with_reducible refine(c3.out _ (H0.out.trans (hb1.mono (by omega)))).mono ?_);rintro e w3 ⟨rfl,hb3⟩;obtain⟨hc3,hf3⟩:=aJ hb3;have hz3:w.heap.size<w3.heap.size:=by have:=hb3.size;(try simp at this);omega)|(go_at_call 183;(with_reducible refine(c4.out _ ((H0.out.trans (hb1.mono (by omega))).trans (hb3.mono (by omega)))).mono ?_);rintro e w4 ⟨rfl,hb4⟩;obtain⟨hc4,hf4⟩:=aJ hb4;have hz4:w.heap.size<w4.heap.size:=by have:=hb4.size;(try simp at this);omega)|(go_at_call 184;(with_reducible refine(c5.out _ (((H0.out.trans (hb1.mono (by omega))).trans (hb3.mono (by omega))).trans (hb4.mono (by omega)))).mono ?_);rintro e w5 ⟨rfl,hb5⟩;obtain⟨hc5,hf5⟩:=aJ hb5;have hz5:w.heap.size<w5.heap.size:=by have:=hb5.size;(try simp at this);omega))
  go_ret
  exact⟨aC hE.symm,(H0.trans (hb1.mono (by omega)))⟩
 have t6':decide ((6:Int)<(m.im.length:Nat))=false:=by simp;omega
 by_cases t7:12<m.pa.length
 case pos=>
  rw[if_pos (by omega)]at hE
  have t7':(12:Int)<(m.pa.length:Nat):=by omega
  clear t7
  go_enter Tryz.func113,Tryz.ntmps113
  go_wp2_with (first|(go_at_call 181;(with_reducible refine(c1.out _).mono ?_);rintro e w1 ⟨rfl,hb1⟩;obtain⟨hc1,hf1⟩:=aJ hb1;have hz1:w.heap.size<w1.heap.size:=by have:=hb1.size;(try simp at this);omega)|(go_at_call 182;(with_reducible refine(c2.out _).mono ?_);rintro e w' ⟨rfl,rfl⟩)|(go_at_call 154;(with_reducible refine(c3.out _ (H0.out.trans (hb1.mono (by omega)))).mono ?_);rintro e w3 ⟨rfl,hb3⟩;obtain⟨hc3,hf3⟩:=aJ hb3;have hz3:w.heap.size<w3.heap.size:=by have:=hb3.size;(try simp at this);omega)|(go_at_call 183;(with_reducible refine(c4.out _ ((H0.out.trans (hb1.mono (by omega))).trans (hb3.mono (by omega)))).mono ?_);rintro e w4 ⟨rfl,hb4⟩;obtain⟨hc4,hf4⟩:=aJ hb4;have hz4:w.heap.size<w4.heap.size:=by have:=hb4.size;(try simp at this);omega)|(go_at_call 184;(with_reducible refine(c5.out _ (((H0.out.trans (hb1.mono (by omega))).trans (hb3.mono (by omega))).trans (hb4.mono (by omega)))).mono ?_);rintro e w5 ⟨rfl,hb5⟩;obtain⟨hc5,hf5⟩:=aJ hb5;have hz5:w.heap.size<w5.heap.size:=by have:=hb5.size;(try simp at this);omega))
  go_ret
  exact⟨aC hE.symm,(H0.trans (hb1.mono (by omega)))⟩
 have t7':decide ((12:Int)<(m.pa.length:Nat))=false:=by simp;omega
 rw[if_neg (by omega)]at hE
 clear t4 t5 t6 t7
 have te:(m.text.toList==[])=decide (m.text.size=0):=by
  rw[Lib.toList_data,Bool.eq_iff_iff]
  simp[<-ByteArray.size_data]
 have tm:Int.tmod (m.text.size:Int) 4=((m.text.size % 4:Nat):Int):=by rw[Int.tmod_eq_emod_of_nonneg (by omega)];omega
 by_cases t8:m.text.size=0
 case pos=>
  rw[if_pos (.inl t8)]at hE
  rw[show decide (m.text.size=0)=true by simp[t8]]at te
  clear t8 tm
  go_enter Tryz.func113,Tryz.ntmps113
  go_wp2_with (first|(go_at_call 181;(with_reducible refine(c1.out _).mono ?_);rintro e w1 ⟨rfl,hb1⟩;obtain⟨hc1,hf1⟩:=aJ hb1;have hz1:w.heap.size<w1.heap.size:=by have:=hb1.size;(try simp at this);omega)|(go_at_call 182;(with_reducible refine(c2.out _).mono ?_);rintro e w' ⟨rfl,rfl⟩)|(go_at_call 154;(with_reducible refine(c3.out _ (H0.out.trans (hb1.mono (by omega)))).mono ?_);rintro e w3 ⟨rfl,hb3⟩;obtain⟨hc3,hf3⟩:=aJ hb3;have hz3:w.heap.size<w3.heap.size:=by have:=hb3.size;(try simp at this);omega)|(go_at_call 183;(with_reducible refine(c4.out _ ((H0.out.trans (hb1.mono (by omega))).trans (hb3.mono (by omega)))).mono ?_);rintro e w4 ⟨rfl,hb4⟩;obtain⟨hc4,hf4⟩:=aJ hb4;have hz4:w.heap.size<w4.heap.size:=by have:=hb4.size;(try simp at this);omega)|(go_at_call 184;(with_reducible refine(c5.out _ (((H0.out.trans (hb1.mono (by omega))).trans (hb3.mono (by omega))).trans (hb4.mono (by omega)))).mono ?_);rintro e w5 ⟨rfl,hb5⟩;obtain⟨hc5,hf5⟩:=aJ hb5;have hz5:w.heap.size<w5.heap.size:=by have:=hb5.size;(try simp at this);omega))
  go_ret
  exact⟨aC hE.symm,(H0.trans (hb1.mono (by omega)))⟩
 rw[show decide (m.text.size=0)=false by simp[t8]]at te
 by_cases t9:m.text.size % 4=0
 case neg=>
  rw[if_pos (.inr t9)]at hE
  have t9':(((m.text.size % 4:Nat):Int) != 0)=true:=by simp;omega
  clear t8 t9
  go_enter Tryz.func113,Tryz.ntmps113
  go_wp2_with (first|(go_at_call 181;(with_reducible refine(c1.out _).mono ?_);rintro e w1 ⟨rfl,hb1⟩;obtain⟨hc1,hf1⟩:=aJ hb1;have hz1:w.heap.size<w1.heap.size:=by have:=hb1.size;(try simp at this);omega)|(go_at_call 182;(with_reducible refine(c2.out _).mono ?_);rintro e w' ⟨rfl,rfl⟩)|(go_at_call 154;(with_reducible refine(c3.out _ (H0.out.trans (hb1.mono (by omega)))).mono ?_);rintro e w3 ⟨rfl,hb3⟩;obtain⟨hc3,hf3⟩:=aJ hb3;have hz3:w.heap.size<w3.heap.size:=by have:=hb3.size;(try simp at this);omega)|(go_at_call 183;(with_reducible refine(c4.out _ ((H0.out.trans (hb1.mono (by omega))).trans (hb3.mono (by omega)))).mono ?_);rintro e w4 ⟨rfl,hb4⟩;obtain⟨hc4,hf4⟩:=aJ hb4;have hz4:w.heap.size<w4.heap.size:=by have:=hb4.size;(try simp at this);omega)|(go_at_call 184;(with_reducible refine(c5.out _ (((H0.out.trans (hb1.mono (by omega))).trans (hb3.mono (by omega))).trans (hb4.mono (by omega)))).mono ?_);rintro e w5 ⟨rfl,hb5⟩;obtain⟨hc5,hf5⟩:=aJ hb5;have hz5:w.heap.size<w5.heap.size:=by have:=hb5.size;(try simp at this);omega))
  go_ret
  exact⟨aC hE.symm,(H0.trans (hb1.mono (by omega)))⟩
 rw[if_neg (by omega)]at hE
 have t9':(((m.text.size % 4:Nat):Int) != 0)=false:=by simp;omega
 clear t8 t9
 generalize eF [] m.text.size m.ex=ee at*
 generalize eP [] m.im=ie at*
 generalize Rp m.text.size m.im.length 0 m.pa=pe at*
 by_cases u1:ee=0
 case neg=>
  rw[if_pos u1]at hE
  have u1':(ee==0)=false:=by simp[u1]
  clear u1
  go_enter Tryz.func113,Tryz.ntmps113
  go_wp2_with (first|(go_at_call 181;(with_reducible refine(c1.out _).mono ?_);rintro e w1 ⟨rfl,hb1⟩;obtain⟨hc1,hf1⟩:=aJ hb1;have hz1:w.heap.size<w1.heap.size:=by have:=hb1.size;(try simp at this);omega)|(go_at_call 182;(with_reducible refine(c2.out _).mono ?_);rintro e w' ⟨rfl,rfl⟩)|(go_at_call 154;(with_reducible refine(c3.out _ (H0.out.trans (hb1.mono (by omega)))).mono ?_);rintro e w3 ⟨rfl,hb3⟩;obtain⟨hc3,hf3⟩:=aJ hb3;have hz3:w.heap.size<w3.heap.size:=by have:=hb3.size;(try simp at this);omega)|(go_at_call 183;(with_reducible refine(c4.out _ ((H0.out.trans (hb1.mono (by omega))).trans (hb3.mono (by omega)))).mono ?_);rintro e w4 ⟨rfl,hb4⟩;obtain⟨hc4,hf4⟩:=aJ hb4;have hz4:w.heap.size<w4.heap.size:=by have:=hb4.size;(try simp at this);omega)|(go_at_call 184;(with_reducible refine(c5.out _ (((H0.out.trans (hb1.mono (by omega))).trans (hb3.mono (by omega))).trans (hb4.mono (by omega)))).mono ?_);rintro e w5 ⟨rfl,hb5⟩;obtain⟨hc5,hf5⟩:=aJ hb5;have hz5:w.heap.size<w5.heap.size:=by have:=hb5.size;(try simp at this);omega))
  go_ret
  exact⟨aC hE.symm,((H0.trans (hb1.mono (by omega))).trans (hb3.mono (by omega)))⟩
 subst u1
 rw[if_neg (by omega)]at hE
 by_cases u2:ie=0
 case neg=>
  rw[if_pos u2]at hE
  have u2':(ie==0)=false:=by simp[u2]
  clear u2
  go_enter Tryz.func113,Tryz.ntmps113
  go_wp2_with (first|(go_at_call 181;(with_reducible refine(c1.out _).mono ?_);rintro e w1 ⟨rfl,hb1⟩;obtain⟨hc1,hf1⟩:=aJ hb1;have hz1:w.heap.size<w1.heap.size:=by have:=hb1.size;(try simp at this);omega)|(go_at_call 182;(with_reducible refine(c2.out _).mono ?_);rintro e w' ⟨rfl,rfl⟩)|(go_at_call 154;(with_reducible refine(c3.out _ (H0.out.trans (hb1.mono (by omega)))).mono ?_);rintro e w3 ⟨rfl,hb3⟩;obtain⟨hc3,hf3⟩:=aJ hb3;have hz3:w.heap.size<w3.heap.size:=by have:=hb3.size;(try simp at this);omega)|(go_at_call 183;(with_reducible refine(c4.out _ ((H0.out.trans (hb1.mono (by omega))).trans (hb3.mono (by omega)))).mono ?_);rintro e w4 ⟨rfl,hb4⟩;obtain⟨hc4,hf4⟩:=aJ hb4;have hz4:w.heap.size<w4.heap.size:=by have:=hb4.size;(try simp at this);omega)|(go_at_call 184;(with_reducible refine(c5.out _ (((H0.out.trans (hb1.mono (by omega))).trans (hb3.mono (by omega))).trans (hb4.mono (by omega)))).mono ?_);rintro e w5 ⟨rfl,hb5⟩;obtain⟨hc5,hf5⟩:=aJ hb5;have hz5:w.heap.size<w5.heap.size:=by have:=hb5.size;(try simp at this);omega))
  go_ret
  exact⟨aC hE.symm,(((H0.trans (hb1.mono (by omega))).trans (hb3.mono (by omega))).trans (hb4.mono (by omega)))⟩
 subst u2
 rw[if_neg (by omega)]at hE
 go_enter Tryz.func113,Tryz.ntmps113
 go_wp2_with (first|(go_at_call 181;(with_reducible refine(c1.out _).mono ?_);rintro e w1 ⟨rfl,hb1⟩;obtain⟨hc1,hf1⟩:=aJ hb1;have hz1:w.heap.size<w1.heap.size:=by have:=hb1.size;(try simp at this);omega)|(go_at_call 182;(with_reducible refine(c2.out _).mono ?_);rintro e w' ⟨rfl,rfl⟩)|(go_at_call 154;(with_reducible refine(c3.out _ (H0.out.trans (hb1.mono (by omega)))).mono ?_);rintro e w3 ⟨rfl,hb3⟩;obtain⟨hc3,hf3⟩:=aJ hb3;have hz3:w.heap.size<w3.heap.size:=by have:=hb3.size;(try simp at this);omega)|(go_at_call 183;(with_reducible refine(c4.out _ ((H0.out.trans (hb1.mono (by omega))).trans (hb3.mono (by omega)))).mono ?_);rintro e w4 ⟨rfl,hb4⟩;obtain⟨hc4,hf4⟩:=aJ hb4;have hz4:w.heap.size<w4.heap.size:=by have:=hb4.size;(try simp at this);omega)|(go_at_call 184;(with_reducible refine(c5.out _ (((H0.out.trans (hb1.mono (by omega))).trans (hb3.mono (by omega))).trans (hb4.mono (by omega)))).mono ?_);rintro e w5 ⟨rfl,hb5⟩;obtain⟨hc5,hf5⟩:=aJ hb5;have hz5:w.heap.size<w5.heap.size:=by have:=hb5.size;(try simp at this);omega))
 go_ret
 exact⟨aC hE.symm,((((H0.trans (hb1.mono (by omega))).trans (hb3.mono (by omega))).trans (hb4.mono (by omega))).trans (hb5.mono (by omega)))⟩
end
section
open Go.RowKit
theorem qG (m:Mod)(w:World)(h:m.text.size<=big):
  Calls Tryz.prog 164 #[m.v] w fun e w'=>e=.returned (.int .i64 (aH m))/\Below w.heap.size w w':=by
 unfold big at h
 have q1:wrap64 ((m.text.size:Int)+64)=m.text.size+64:=IntWalk.wrap64_in _ (by omega)
 have q2:wrap64 ((m.text.size:Int)+64 -1)=m.text.size+64 -1:=IntWalk.wrap64_in _ (by omega)
 have q3:((m.text.size:Int)+64 -1).tdiv 64=aH m:=by unfold aH;rw[Int.tdiv_eq_ediv_of_nonneg (by omega)];omega
 have q4:wrap64 (aH m)=aH m:=by unfold aH;exact IntWalk.wrap64_in _ (by omega)
 go_enter Tryz.func164,Tryz.ntmps164
 go_wp2_with fail
 go_ret
 exact⟨by simp_all,ZB⟩
theorem Ht (A:Option Addr)(c:Nat)(l:List Plc)(g:Nat)(q:Plc->Bool)(w:World)(eg:∀args w,(callFunc g args).run Tryz.prog w=.ok (.enter g args) w)(h:aU w A l)
  (hq:∀x∈l,aL x.m=0->∀W,Calls Tryz.prog g #[x.v] W fun e w'=>e=.returned (.bool (q x))/\Below W.heap.size W w'):
  Calls Tryz.prog 198 #[.slice A l.length c,.func (.func g) #[] #[]] w fun e w'=>e=.returned (.int .i64 (bY q l))/\Below w.heap.size w w':=by
 have hl:=h.len
 unfold big at hl
 have HP:=Hp h
 have HQ:=Hp hq
 clear h hq
 by_cases h8:8<l.length
 ·have e1:=Hp (show 2=bY q l by unfold bY;rw[if_pos h8])
  have h8':(8:Int)<l.length:=by omega
  go_enter Tryz.func198,Tryz.ntmps198
  go_wp2_with fail
  go_ret
  exact⟨aC e1.out,GZ4 _ _⟩
 have h8':decide ((8:Int)<l.length)=false:=by simp;omega
 have e0:=Hp (show fU q l=bY q l by unfold bY;rw[if_neg h8])
 go_enter Tryz.func198,Tryz.ntmps198
 go_wp2_with fail
 go_loopw [13] (fun i wr=>∃j:Nat,j<=l.length/\i=.int .i64 j/\SF q l j=bY q l/\Below w.heap.size w wr) (fun i _=>l.length -(intOf i).toNat)
 case atStart=>exact⟨0,by omega,rfl,e0.out,GZ4 _ _⟩
 case round=>
  obtain⟨j,hj,rfl,hE,hb⟩:=hrel
  have HE:=Hp hE
  have HB:=Hp hb
  clear hE
  by_cases hlt:j<l.length
  ·have hlt':(j:Int)<l.length:=by omega
   obtain⟨ad,rfl,hab,h0,h1,h2,h3,h4,h5,h6,h7⟩:=RS HP.row hb j hlt
   have hwz:=hb.size
   have hmo:=HP.each l[j] (GZ9 _)
   have c1:=Hp (fun W(hbW:Below w.heap.size w W)=>oM (l[j]'hlt).m W (hmo.below hbW))
   obtain⟨er,her⟩:=Nm (aL (l[j]'hlt).m)
   rw[<-her]at c1
   have HER:=Hp her
   have HQJ:=Hp (fun h0=>HQ.out (l[j]'hlt) (GZ9 _) h0)
   have HX:=Hp ((HB.out).trans ((GZ4 w.heap.size wr).alloc (by omega) (.cells #[.string l[j].m.name,iv l[j].m.major,iv l[j].m.minor,.string l[j].m.text,.slice l[j].m.eA l[j].m.ex.length l[j].m.eC,.slice l[j].m.iA l[j].m.im.length l[j].m.iC,.slice l[j].m.pA l[j].m.pa.length l[j].m.pC,iv l[j].first] 83)))
   clear hb her hmo
   by_cases h5e:er=0
   ·obtain rfl:=h5e
    have c2:=Hp (HQJ.out HER.symm)
    obtain⟨bq,hbq⟩:=Nm (q (l[j]'hlt))
    rw[<-hbq]at c2
    have HBQ:=Hp hbq
    clear hbq
    cases bq
    ·have e1:=Hp ((yH hlt HER.symm HBQ.symm).symm.trans HE.out)
     go_wp2_with (first|(go_at_call 113;refine(c1.out _ HX.out).mono ?_;rintro e w2 ⟨rfl,hb2⟩;obtain⟨hc2,hf2⟩:=aJ hb2;have hz2:wr.heap.size<w2.heap.size:=by have:=hb2.size;simp at this;omega)|(go_at_fn g;refine(c2.out _).mono ?_;rintro e w3 ⟨rfl,hb3⟩))
     go_ret
     exact⟨aC e1.out,(HX.trans (hb2.mono (by simp;omega))).trans (hb3.mono (by omega))⟩
    ·have e1:=Hp ((UL hlt HER.symm HBQ.symm).trans HE.out)
     go_wp2_with (first|(go_at_call 113;refine(c1.out _ HX.out).mono ?_;rintro e w2 ⟨rfl,hb2⟩;obtain⟨hc2,hf2⟩:=aJ hb2;have hz2:wr.heap.size<w2.heap.size:=by have:=hb2.size;simp at this;omega)|(go_at_fn g;refine(c2.out _).mono ?_;rintro e w3 ⟨rfl,hb3⟩))
     go_roundw
     case rel=>exact⟨j+1,by omega,by go_num,e1.out,(HX.trans (hb2.mono (by simp;omega))).trans (hb3.mono (by omega))⟩
     case measure=>(simp[intOf];try omega)
   ·have e1:=Hp ((vW (q:=q) hlt (by rw[<-HER.out];exact h5e)).symm.trans HE.out)
    have h5':(er != 0)=true:=by simp[h5e]
    clear h5e
    go_wp2_with (go_at_call 113;refine(c1.out _ HX.out).mono ?_;rintro e w2 ⟨rfl,hb2⟩)
    go_ret
    exact⟨aC (HER.trans e1.out),HX.trans (hb2.mono (by simp;omega))⟩
  ·have e1:=Hp ((vG (q:=q) hlt).symm.trans HE.out)
   go_wp2_with fail
   go_ret
   exact⟨aC e1.out,HB.out⟩
theorem Br (k:Krn)(w:World)(h:k.ok w):
  Calls Tryz.prog 84 #[k.v] w fun e w'=>e=.returned (.int .i64 (bJ k))/\Below w.heap.size w w':=by
 obtain⟨⟨hr,hl,hs⟩⟩:=h
 have HR:=Hp hr
 have HS:=Hp hs
 have HL:=Hp hl
 unfold big at hl
 obtain⟨w0,hw0⟩:=Nm (w.alloc (.cells #[.int .i64 k.major,.int .i64 k.minor,.slice k.eA k.ex.length k.eC] 24))
 obtain⟨g0,g1,g2,hz,hb0⟩:=uE hw0
 have hz0:w.heap.size<w0.heap.size:=by omega
 have H0:=Hp hb0
 have hw0':=hw0.symm
 clear hw0 hb0 hr hs
 obtain⟨E,hE⟩:=Nm (bJ k)
 rw[<-hE]
 have hke:bJ k=if k.major<0\/255<k.major\/k.minor<0\/255<k.minor then 3 else if 8<k.ex.length then 2 else eF [] 4096 k.ex:=rfl
 rw[hke]at hE
 clear hke
 have c3:=Hp (wC k.eA k.eC k.ex 4096 w0 ⟨HR.below H0.out,HL.out,HS.out⟩ (by omega) (by unfold big;omega))
 by_cases t1:0<=k.major/\k.major<=255
 ·have c1:=Hp (fun W=>(nI k.major 0 255 W).mono fun _ _ h=>(⟨h.1.trans (aV (by simp;omega)),h.2⟩:_=Ending.returned (.bool true)/\_))
  by_cases t2:0<=k.minor/\k.minor<=255
  ·have c2:=Hp (fun W=>(nI k.minor 0 255 W).mono fun _ _ h=>(⟨h.1.trans (aV (by simp;omega)),h.2⟩:_=Ending.returned (.bool true)/\_))
   rw[if_neg (by omega)]at hE
   clear t1 t2
   by_cases t3:8<k.ex.length
   ·rw[if_pos t3]at hE
    have t3':(8:Int)<k.ex.length:=by omega
    clear t3
    go_enter Tryz.func84,Tryz.ntmps84
    go_wp2_with (first|(go_at_call 153;(with_reducible refine(c1.out _).mono ?_);rintro e w' ⟨rfl,rfl⟩)|(go_at_call 153;(with_reducible refine(c2.out _).mono ?_);rintro e w' ⟨rfl,rfl⟩))
    go_ret
    exact⟨aC hE.symm,H0.out⟩
   ·rw[if_neg t3]at hE
    have t3':decide ((8:Int)<k.ex.length)=false:=by simp;omega
    clear t3
    go_enter Tryz.func84,Tryz.ntmps84
    go_wp2_with (first|(go_at_call 153;(with_reducible refine(c1.out _).mono ?_);rintro e w' ⟨rfl,rfl⟩)|(go_at_call 153;(with_reducible refine(c2.out _).mono ?_);rintro e w' ⟨rfl,rfl⟩)|(go_at_call 154;(with_reducible refine(c3.out).mono ?_);rintro e w3 ⟨rfl,hb3⟩))
    go_ret
    exact⟨aC hE.symm,H0.trans (hb3.mono (by omega))⟩
  ·have c2:=Hp (fun W=>(nI k.minor 0 255 W).mono fun _ _ h=>(⟨h.1.trans (aV (by simp;omega)),h.2⟩:_=Ending.returned (.bool false)/\_))
   rw[if_pos (by omega)]at hE
   clear t1 t2
   go_enter Tryz.func84,Tryz.ntmps84
   go_wp2_with (first|(go_at_call 153;(with_reducible refine(c1.out _).mono ?_);rintro e w' ⟨rfl,rfl⟩)|(go_at_call 153;(with_reducible refine(c2.out _).mono ?_);rintro e w' ⟨rfl,rfl⟩))
   go_ret
   exact⟨aC hE.symm,H0.out⟩
 ·have c1:=Hp (fun W=>(nI k.major 0 255 W).mono fun _ _ h=>(⟨h.1.trans (aV (by simp;omega)),h.2⟩:_=Ending.returned (.bool false)/\_))
  rw[if_pos (by omega)]at hE
  clear t1
  go_enter Tryz.func84,Tryz.ntmps84
  go_wp2_with (first|(go_at_call 153;(with_reducible refine(c1.out _).mono ?_);rintro e w' ⟨rfl,rfl⟩))
  go_ret
  exact⟨aC hE.symm,H0.out⟩
end
section
open Go.RowKit
theorem UO (A:Option Addr)(c:Nat)(l:List Plc)(g:Nat)(lb:Array Value)(q:Plc->Bool)(w:World)(eg:∀args w,(callFunc g args).run Tryz.prog w=.ok (.enter g args) w)(h:Row Plc.cells 8 w A l)(hl:l.length<=big)
  (hq:∀x∈l,∀W,Below w.heap.size w W->Calls Tryz.prog g (#[x.v]++lb) W fun e w'=>e=.returned (.bool (q x))/\Below W.heap.size W w'):
  Calls Tryz.prog 191 #[.slice A l.length c,.func (.func g) #[] lb] w fun e w'=>e=.returned (.int .i64 (idxOf q l))/\Below w.heap.size w w':=by
 unfold big at hl
 have HP:=Hp h
 have HQ:=Hp hq
 clear h hq
 go_enter Tryz.func191,Tryz.ntmps191
 go_wp2_with fail
 go_loopw [8] (fun i wr=>∃j:Nat,j<=l.length/\i=.int .i64 j/\(∀k(hk:k<l.length),k<j->q l[k]=false)/\Below w.heap.size w wr) (fun i _=>l.length -(intOf i).toNat)
 case atStart=>exact⟨0,by omega,rfl,by omega,GZ4 _ _⟩
 case round=>
  obtain⟨j,hj,rfl,hN,hb⟩:=hrel
  have HN:=Hp hN
  have HB:=Hp hb
  clear hN
  by_cases hlt:j<l.length
  ·have hlt':(j:Int)<l.length:=by omega
   obtain⟨ad,rfl,hab,h0,h1,h2,h3,h4,h5,h6,h7⟩:=RS HP.out hb j hlt
   have hwz:=hb.size
   have c2:=Hp (show Calls Tryz.prog g (#[(l[j]'hlt).v]++lb) wr fun e w'=>e=.returned (.bool (q (l[j]'hlt)))/\Below wr.heap.size wr w' from HQ.out (l[j]'hlt) (GZ9 _) wr HB.out)
   obtain⟨bq,hbq⟩:=Nm (q (l[j]'hlt))
   rw[<-hbq]at c2
   have HBQ:=Hp hbq
   clear hbq hb
   cases bq
   ·go_wp2_with (go_at_fn g;refine(c2.out).mono ?_;rintro e w3 ⟨rfl,hb3⟩)
    go_roundw
    case rel=>exact⟨j+1,by omega,by go_num,fun k hk hkj=>by rcases Nat.lt_succ_iff_lt_or_eq.1 hkj with h|rfl;exact HN.out k hk h;exact HBQ.symm,HB.trans (hb3.mono (by omega))⟩
    case measure=>(simp[intOf];try omega)
   ·have e1:=Hp (fJ hlt HN.out HBQ.symm)
    go_wp2_with (go_at_fn g;refine(c2.out).mono ?_;rintro e w3 ⟨rfl,hb3⟩)
    go_ret
    exact⟨aC e1.symm,HB.trans (hb3.mono (by omega))⟩
  ·have e1:=Hp (gT (q:=q) (l:=l) (fun k hk=>HN.out k hk (by omega)))
   go_wp2_with fail
   go_ret
   exact⟨aC e1.symm,HB.out⟩
theorem JD (A:Option Addr)(c:Nat)(l:List Exp)(g:Nat)(lb:Array Value)(q:Exp->Bool)(w:World)(eg:∀args w,(callFunc g args).run Tryz.prog w=.ok (.enter g args) w)(h:Row Exp.cells 2 w A l)(hl:l.length<=big)
  (hq:∀x∈l,∀W,Below w.heap.size w W->Calls Tryz.prog g (#[x.v]++lb) W fun e w'=>e=.returned (.bool (q x))/\Below W.heap.size W w'):
  Calls Tryz.prog 261 #[.slice A l.length c,.func (.func g) #[] lb] w fun e w'=>e=.returned (.int .i64 (idxOf q l))/\Below w.heap.size w w':=by
 unfold big at hl
 have HP:=Hp h
 have HQ:=Hp hq
 clear h hq
 go_enter Tryz.func261,Tryz.ntmps261
 go_wp2_with fail
 go_loopw [8] (fun i wr=>∃j:Nat,j<=l.length/\i=.int .i64 j/\(∀k(hk:k<l.length),k<j->q l[k]=false)/\Below w.heap.size w wr) (fun i _=>l.length -(intOf i).toNat)
 case atStart=>exact⟨0,by omega,rfl,by omega,GZ4 _ _⟩
 case round=>
  obtain⟨j,hj,rfl,hN,hb⟩:=hrel
  have HN:=Hp hN
  have HB:=Hp hb
  clear hN
  by_cases hlt:j<l.length
  ·have hlt':(j:Int)<l.length:=by omega
   obtain⟨ad,rfl,hab,h0,h1⟩:=mF HP.out hb j hlt
   have hwz:=hb.size
   have c2:=Hp (show Calls Tryz.prog g (#[(l[j]'hlt).v]++lb) wr fun e w'=>e=.returned (.bool (q (l[j]'hlt)))/\Below wr.heap.size wr w' from HQ.out (l[j]'hlt) (GZ9 _) wr HB.out)
   obtain⟨bq,hbq⟩:=Nm (q (l[j]'hlt))
   rw[<-hbq]at c2
   have HBQ:=Hp hbq
   clear hbq hb
   cases bq
   ·go_wp2_with (go_at_fn g;refine(c2.out).mono ?_;rintro e w3 ⟨rfl,hb3⟩)
    go_roundw
    case rel=>exact⟨j+1,by omega,by go_num,fun k hk hkj=>by rcases Nat.lt_succ_iff_lt_or_eq.1 hkj with h|rfl;exact HN.out k hk h;exact HBQ.symm,HB.trans (hb3.mono (by omega))⟩
    case measure=>(simp[intOf];try omega)
   ·have e1:=Hp (fJ hlt HN.out HBQ.symm)
    go_wp2_with (go_at_fn g;refine(c2.out).mono ?_;rintro e w3 ⟨rfl,hb3⟩)
    go_ret
    exact⟨aC e1.symm,HB.trans (hb3.mono (by omega))⟩
  ·have e1:=Hp (gT (q:=q) (l:=l) (fun k hk=>HN.out k hk (by omega)))
   go_wp2_with fail
   go_ret
   exact⟨aC e1.symm,HB.out⟩
theorem Kz (x:Plc)(nm:ByteArray)(B:Nat)(w:World)(hB:B<w.heap.size)(h:w.cell? ⟨B,0,none⟩=some (.string nm)):
  Calls Tryz.prog 192 (#[x.v]++ #[.pointer (some ⟨B,0,none⟩)]) w fun e w'=>e=.returned (.bool (named nm x))/\Below w.heap.size w w':=by
 have hd:named nm x=(x.m.name.toList==nm.toList):=by
  unfold named
  by_cases e:x.m.name=nm
  ·rw[str_eq e];simp[e]
  ·rw[mY e];simp[e]
 rw[hd]
 go_enter Tryz.func192,Tryz.ntmps192
 go_wp2_with fail
 go_ret
 exact⟨rfl,ZB⟩
theorem JZ (x:Exp)(nm:ByteArray)(B:Nat)(w:World)(hB:B<w.heap.size)(h:w.cell? ⟨B,0,none⟩=some (.string nm)):
  Calls Tryz.prog 262 (#[x.v]++ #[.pointer (some ⟨B,0,none⟩)]) w fun e w'=>e=.returned (.bool (called nm x))/\Below w.heap.size w w':=by
 have hd:called nm x=(x.name.toList==nm.toList):=by
  unfold called
  by_cases e:x.name=nm
  ·rw[str_eq e];simp[e]
  ·rw[mY e];simp[e]
 rw[hd]
 go_enter Tryz.func262,Tryz.ntmps262
 go_wp2_with fail
 go_ret
 exact⟨rfl,ZB⟩
theorem SY (A:Option Addr)(c:Nat)(l:List Plc)(nm:ByteArray)(w:World)(h:Row Plc.cells 8 w A l)(hl:l.length<=big):
  Calls Tryz.prog 124 #[.slice A l.length c,.string nm] w fun e w'=>e=.returned (.int .i64 (idxOf (named nm) l))/\Below w.heap.size w w':=by
 obtain⟨w0,hw0⟩:=Nm (w.alloc (.cells #[.string nm] 9))
 have hc0:w0.cell? ⟨w.heap.size,0,none⟩=some (.string nm):=by rw[hw0,World.cell?_alloc_new];rfl
 have hz0:w0.heap.size=w.heap.size+1:=by rw[hw0];simp
 have hb0:Below w.heap.size w w0:=hw0▸ZB
 have c1:=Hp (UO A c l 192 #[.pointer (some ⟨w.heap.size,0,none⟩)] (named nm) w0 (enters_of Tryz.func192 (by kernel_rfl) rfl) (h.below hb0) hl
  (fun x _ W hb=>Kz x nm w.heap.size W (by have:=hb.size;omega) ((hb.cell (by simp;omega)).trans hc0)))
 have H0:=Hp hb0
 have hw0':=hw0.symm
 clear hw0 hb0
 go_enter Tryz.func124,Tryz.ntmps124
 go_wp2_with (first|(go_at_call 191;(with_reducible refine(c1.out).mono ?_);rintro e w1 ⟨rfl,hb1⟩))
 go_ret
 exact⟨rfl,H0.trans (hb1.mono (by omega))⟩
def VP (l:List Exp)(nm:ByteArray):Bool:=decide ((iR l nm).2=0)
theorem tZ {l:List Exp}{nm:ByteArray}{j:Nat}(h:j<l.length)(e:l.find? (called nm)=some l[j]):iR l nm=(l[j].at_,0):=by unfold iR;rw[e]
theorem uV {l:List Exp}{nm:ByteArray}(e:l.find? (called nm)=none):iR l nm=(0,5):=by unfold iR;rw[e]
theorem nJ (l:List Exp)(nm:ByteArray):(iR l nm).2=0\/((iR l nm).1=0/\(iR l nm).2=5):=by
 unfold iR;split<;>simp
theorem BI (A:Option Addr)(c:Nat)(l:List Exp)(nm:ByteArray)(w:World)(h:Sj w A l):
  Calls Tryz.prog 236 #[.slice A l.length c,.string nm] w fun e w'=>e=.returned (.tuple #[.int .i64 (iR l nm).1,.bool (VP l nm)])/\Below w.heap.size w w':=by
 obtain⟨h,hl,_⟩:=h
 obtain⟨w0,hw0⟩:=Nm (w.alloc (.cells #[.string nm] 9))
 have hc0:w0.cell? ⟨w.heap.size,0,none⟩=some (.string nm):=by rw[hw0,World.cell?_alloc_new];rfl
 have hz0:w0.heap.size=w.heap.size+1:=by rw[hw0];simp
 have hb0:Below w.heap.size w w0:=hw0▸ZB
 have c1:=Hp (JD A c l 262 #[.pointer (some ⟨w.heap.size,0,none⟩)] (called nm) w0 (enters_of Tryz.func262 (by kernel_rfl) rfl) (h.below hb0) hl
  (fun x _ W hb=>JZ x nm w.heap.size W (by have:=hb.size;omega) ((hb.cell (by simp;omega)).trans hc0)))
 have H0:=Hp hb0
 have HR:=Hp h
 have hw0':=hw0.symm
 unfold big at hl
 clear hw0 hb0 h
 rcases gW (called nm) l with⟨e1,e2⟩|⟨j,hj,e1,e2⟩
 ·have ev:=Hp (uV e2)
  rw[e1]at c1
  clear e1 e2
  go_enter Tryz.func236,Tryz.ntmps236
  go_wp2_with (first|(go_at_call 261;(with_reducible refine(c1.out).mono ?_);rintro e w1 ⟨rfl,hb1⟩))
  go_ret2
  exact⟨by unfold VP;rw[ev.out];rfl,H0.trans (hb1.mono (by omega))⟩
 ·have ev:=Hp (tZ hj e2)
  rw[e1]at c1
  have hj':(j:Int)<l.length:=by omega
  have HK:=Hp (fun W(hbW:Below w.heap.size w W)=>mF HR.out hbW j hj)
  obtain⟨ad,rfl,_⟩:=mF HR.out (GZ4 _ _) j hj
  clear e1 e2
  go_enter Tryz.func236,Tryz.ntmps236
  go_wp2_with (go_at_call 261;refine(c1.out).mono ?_;rintro e w1 ⟨rfl,hb1⟩;obtain⟨_,ead,_,k0,k1⟩:=HK.out _ (H0.trans (hb1.mono (by omega)));obtain rfl:=GY3 ead)
  go_ret2
  exact⟨by unfold VP;rw[ev.out];rfl,H0.trans (hb1.mono (by omega))⟩
end
section
open Go.RowKit
theorem yV {k:Krn}{l:List Plc}{i:Imp}(h:i.mod=RG):addrOf k l i=if k.major≠i.major\/k.minor<i.minor then(0,4)else iR k.ex i.name:=by unfold addrOf;rw[if_pos h]
theorem DV {k:Krn}{l:List Plc}{i:Imp}(h:i.mod≠RG)(e:l.find? (named i.mod)=none):addrOf k l i=(0,5):=by unfold addrOf;rw[if_neg h,e]
theorem Dv {k:Krn}{l:List Plc}{i:Imp}(h:i.mod≠RG){x:Plc}(e:l.find? (named i.mod)=some x):
  addrOf k l i=if x.m.major≠i.major\/x.m.minor<i.minor then(0,4)else if(iR x.m.ex i.name).2≠0 then(0,5)else(4096+64*x.first+(iR x.m.ex i.name).1,0):=by unfold addrOf;rw[if_neg h,e]
theorem UE {l:List Exp}{nm:ByteArray}{most:Int}(h:∀x∈l,0<=x.at_/\x.at_<most)(h0:0<most):0<=(iR l nm).1/\(iR l nm).1<most:=by
 rcases gW (called nm) l with⟨_,e2⟩|⟨j,hj,_,e2⟩
 ·rw[uV e2];exact⟨by simp,h0⟩
 ·rw[tZ hj e2];exact h _ (GZ9 _)
theorem D5 {k:Krn}{l:List Plc}(h:iB k l=0){x:Plc}(hx:x∈l):0<=x.first/\x.first<=15/\aL x.m=0:=by
 have h1:=(TB (Uo h).2).2 x hx
 have:=h1.2
 unfold P9 at this
 simp only[Bool.and_eq_true,decide_eq_true_eq]at this
 exact⟨this.1,this.2,h1.1⟩
theorem Nj {m:Mod}(h:aL m=0):∀x∈m.ex,0<=x.at_/\x.at_<256:=fun x hx=>by
 have f:=aY h
 have:=lJ f.2.2.2.2.2.2.2.2.1 x hx
 exact⟨this.2.1,by omega⟩
theorem FQ (k:Krn)(A:Option Addr)(c:Nat)(l:List Plc)(i:Imp)(w:World)(hk:k.ok w)(h:aU w A l)(hp:iB k l=0):
  Calls Tryz.prog 186 #[k.v,.slice A l.length c,i.v] w fun e w'=>e=.returned (.tuple #[.int .i64 (addrOf k l i).1,.int .i64 (addrOf k l i).2])/\Below w.heap.size w w':=by
 obtain⟨wk,hwk⟩:=Nm (w.alloc (.cells #[.int .i64 k.major,.int .i64 k.minor,.slice k.eA k.ex.length k.eC] 24))
 obtain⟨g0,g1,g2,hzk,hbk⟩:=uE hwk
 obtain⟨w0,hw0⟩:=Nm (wk.alloc (.cells #[.string i.mod,.string i.name,.int .i64 i.major,.int .i64 i.minor] 173))
 obtain⟨f0,f1,f2,f3,hz0,hb0⟩:=oJ hw0
 rw[hzk]at f0 f1 f2 f3 hz0 hb0
 have k0:=(hb0.cell (p:=⟨w.heap.size,0,none⟩) (by simp)).trans g0
 have k1:=(hb0.cell (p:=⟨w.heap.size,1,none⟩) (by simp)).trans g1
 have k2:=(hb0.cell (p:=⟨w.heap.size,2,none⟩) (by simp)).trans g2
 have H0:=Hp (show Below w.heap.size w w0 from hbk.trans (hb0.mono (by omega)))
 have HZ:=Hp hz0
 have hwk':=hwk.symm
 have hw0':=hw0.symm
 have kq:=rX i.mod
 obtain⟨R,hR⟩:=Nm (addrOf k l i)
 rw[<-hR]
 have HL:=h.len
 unfold big at HL
 have HP:=Hp h
 have HPE:=Hp hp
 have cK:=Hp (fun W(hb:Below w.heap.size w W)=>BI k.eA k.eC k.ex i.name W (hk.below hb).ex)
 clear hwk hw0 hbk hb0 hk h hp g0 g1 g2 hz0
 by_cases t0:i.mod=RG
 ·rw[yV t0]at hR
  rw[show decide (i.mod=RG)=true by simp[t0]]at kq
  clear t0
  by_cases t1:k.major≠i.major
  ·rw[if_pos (.inl t1)]at hR
   have t1':(k.major != i.major)=true:=by simp[t1]
   clear t1
   go_enter Tryz.func186,Tryz.ntmps186
   go_wp2_with fail
   go_quiet (fail)
   go_wp2_with fail
   go_ret2
   exact⟨by rw[hR];rfl,below_drewN H0.out _⟩
  have t1':(k.major != i.major)=false:=by simpa using t1
  by_cases t2:k.minor<i.minor
  ·rw[if_pos (.inr t2)]at hR
   clear t1
   go_enter Tryz.func186,Tryz.ntmps186
   go_wp2_with fail
   go_quiet (fail)
   go_wp2_with fail
   go_ret2
   exact⟨by rw[hR];rfl,below_drewN H0.out _⟩
  have t2':decide (k.minor<i.minor)=false:=by simpa using t2
  rw[if_neg (by simp only[not_or];exact⟨t1,t2⟩)]at hR
  rw[<-hR]at cK
  clear t1 t2
  have hec:=nJ k.ex i.name
  have eo:VP k.ex i.name=decide (R.2=0):=by unfold VP;rw[<-hR]
  rw[eo]at cK
  rw[<-hR]at hec
  have hr:=UE (nm:=i.name) (fun x hx=>((Ee (Uo HPE.out).1) x hx).2) (by omega:(0:Int)<4096)
  rw[<-hR]at hr
  clear eo hR
  obtain⟨r1,r2⟩:=R
  simp only at hec hr cK ⊢
  by_cases u:r2=0
  ·obtain rfl:=u
   have q1:wrap64 r1=r1:=IntWalk.wrap64_in _ (by omega)
   go_enter Tryz.func186,Tryz.ntmps186
   go_wp2_with fail
   go_quiet (fail)
   go_wp2_with (go_at_call 236;refine(cK.out _ (below_drewN H0.out _)).mono ?_;rintro e w1 ⟨rfl,hb1⟩)
   go_ret2
   exact⟨by simp,(below_drewN H0.out _).trans (hb1.mono (by have:=H0.size;simpa using this))⟩
  ·obtain⟨rfl,rfl⟩:r1=0/\r2=5:=by omega
   go_enter Tryz.func186,Tryz.ntmps186
   go_wp2_with fail
   go_quiet (fail)
   go_wp2_with (go_at_call 236;refine(cK.out _ (below_drewN H0.out _)).mono ?_;rintro e w1 ⟨rfl,hb1⟩)
   go_ret2
   exact⟨rfl,(below_drewN H0.out _).trans (hb1.mono (by have:=H0.size;simpa using this))⟩
 ·have kq':=kq
  rw[show decide (i.mod=RG)=false by simp[t0]]at kq
  clear kq'
  have hz0:=HZ.out
  have hz1:w.heap.size+1<w0.heap.size:=by omega
  have hz2:w.heap.size<w0.heap.size:=by omega
  have cP:=Hp (fun W(hb:Below w.heap.size w W)=>SY A c l i.mod W (HP.row.below hb) (by unfold big;omega))
  have LD:=Hp (fun(nq:Nat)(W:World)(hb:Below (w0.drewN nq).heap.size (w0.drewN nq) W)=>(below_drewN (GZ4 w0.heap.size w0) nq).trans (hb.mono (by simp)))
  clear hz0
  rcases gW (named i.mod) l with⟨e1,e2⟩|⟨n,hn,e1,e2⟩
  ·rw[DV t0 e2]at hR
   rw[e1]at cP
   clear e1 e2 t0
   go_enter Tryz.func186,Tryz.ntmps186
   go_wp2_with fail
   go_quiet (fail)
   go_wp2_with (go_at_call 124;refine(cP.out _ (below_drewN H0.out _)).mono ?_;rintro e w1 ⟨rfl,hb1'⟩;have hb1:=LD.out _ _ hb1';obtain⟨hc1,hf1⟩:=aJ hb1)
   go_ret2
   exact⟨by rw[hR];rfl,H0.trans (hb1.mono (by omega))⟩
  ·rw[Dv t0 e2]at hR
   rw[e1]at cP
   clear e1 e2 t0
   have hn':(n:Int)<l.length:=by omega
   have HK:=Hp (fun W(hbW:Below w.heap.size w W)=>RS HP.row hbW n hn)
   obtain⟨ad,rfl,hab,_⟩:=RS HP.row (GZ4 _ _) n hn
   have hmo:=HP.each l[n] (GZ9 _)
   obtain⟨p1,p2,p3⟩:=D5 HPE.out (x:=l[n]) (GZ9 _)
   have cE:=Hp (fun W(hb:Below w.heap.size w W)=>BI (l[n]'hn).m.eA (l[n]'hn).m.eC (l[n]'hn).m.ex i.name W (hmo.below hb).ex)
   have hr:=UE (nm:=i.name) (Nj p3) (by omega:(0:Int)<256)
   have hec:=nJ (l[n]'hn).m.ex i.name
   obtain⟨V,hV⟩:=Nm (iR (l[n]'hn).m.ex i.name)
   have eo:VP (l[n]'hn).m.ex i.name=decide (V.2=0):=by unfold VP;rw[<-hV]
   rw[eo]at cE
   rw[<-hV]at cE hec hr hR
   have q1:wrap64 ((l[n]'hn).first*64)=(l[n]'hn).first*64:=IntWalk.wrap64_in _ (by omega)
   have q2:wrap64 (4096+(l[n]'hn).first*64)=4096+(l[n]'hn).first*64:=IntWalk.wrap64_in _ (by omega)
   have q3:=Hp (show wrap64 (4096+(l[n]'hn).first*64+V.1)=4096+64*(l[n]'hn).first+V.1 by rw[IntWalk.wrap64_in _ (by omega)];omega)
   have HBM:=Hp (show(ad.add (n*8)).block<w.heap.size by rw[aA];exact hab)
   clear eo hV hmo p3
   --the call of Place,and what lies behind it
   by_cases t1:l[n].m.major≠i.major\/l[n].m.minor<i.minor
   ·rw[if_pos t1]at hR
    by_cases t2:l[n].m.major=i.major
    ·have t3:l[n].m.minor<i.minor:=by rcases t1 with h|h;exact absurd t2 h;exact h
     have t2':(l[n].m.major != i.major)=false:=by simp[t2]
     clear t1 t2
     go_enter Tryz.func186,Tryz.ntmps186
     go_wp2_with fail
     go_quiet (fail)
     go_wp2_with (go_at_call 124;refine(cP.out _ (below_drewN H0.out _)).mono ?_;rintro e w1 ⟨rfl,hb1'⟩;have hb1:=LD.out _ _ hb1';obtain⟨hc1,hf1⟩:=aJ hb1;obtain⟨_,ead,_,m0,m1,m2,m3,m4,m5,m6,m7⟩:=HK.out _ (H0.trans (hb1.mono (by omega)));obtain rfl:=GY3 ead;have hwz:=hb1.size;have hz3:w.heap.size+1<w1.heap.size:=(by omega);have hz4:w.heap.size<w1.heap.size:=(by omega);have hbm:(ad.add (n*8)).block<w1.heap.size:=GY0 HBM.out (by omega))
     go_quiet (fail)
     go_wp2_with fail
     go_ret2
     exact⟨by rw[hR];rfl,below_drewN ((H0.trans (hb1.mono (by omega))).alloc (by omega) _) _⟩
    ·have t2':(l[n].m.major != i.major)=true:=by simp[t2]
     clear t1 t2
     go_enter Tryz.func186,Tryz.ntmps186
     go_wp2_with fail
     go_quiet (fail)
     go_wp2_with (go_at_call 124;refine(cP.out _ (below_drewN H0.out _)).mono ?_;rintro e w1 ⟨rfl,hb1'⟩;have hb1:=LD.out _ _ hb1';obtain⟨hc1,hf1⟩:=aJ hb1;obtain⟨_,ead,_,m0,m1,m2,m3,m4,m5,m6,m7⟩:=HK.out _ (H0.trans (hb1.mono (by omega)));obtain rfl:=GY3 ead;have hwz:=hb1.size;have hz3:w.heap.size+1<w1.heap.size:=(by omega);have hz4:w.heap.size<w1.heap.size:=(by omega);have hbm:(ad.add (n*8)).block<w1.heap.size:=GY0 HBM.out (by omega))
     go_quiet (fail)
     go_wp2_with fail
     go_ret2
     exact⟨by rw[hR];rfl,below_drewN ((H0.trans (hb1.mono (by omega))).alloc (by omega) _) _⟩
   ·rw[if_neg t1]at hR
    have t2':(l[n].m.major != i.major)=false:=by simp;omega
    have t3':decide (l[n].m.minor<i.minor)=false:=by simp;omega
    clear t1
    obtain⟨v1,v2⟩:=V
    simp only at hec hr cE hR q3
    by_cases u:v2=0
    ·obtain rfl:=u
     rw[if_neg (by simp)]at hR
     go_enter Tryz.func186,Tryz.ntmps186
     go_wp2_with fail
     go_quiet (fail)
     go_wp2_with (go_at_call 124;refine(cP.out _ (below_drewN H0.out _)).mono ?_;rintro e w1 ⟨rfl,hb1'⟩;have hb1:=LD.out _ _ hb1';obtain⟨hc1,hf1⟩:=aJ hb1;obtain⟨_,ead,_,m0,m1,m2,m3,m4,m5,m6,m7⟩:=HK.out _ (H0.trans (hb1.mono (by omega)));obtain rfl:=GY3 ead;have hwz:=hb1.size;have hz3:w.heap.size+1<w1.heap.size:=(by omega);have hz4:w.heap.size<w1.heap.size:=(by omega);have hbm:(ad.add (n*8)).block<w1.heap.size:=GY0 HBM.out (by omega))
     go_quiet (fail)
     go_wp2_with (go_at_call 236;refine(cE.out _ (below_drewN ((H0.trans (hb1.mono (by omega))).alloc (by omega) _) _)).mono ?_;rintro e w2 ⟨rfl,hb2⟩)
     go_ret2
     exact⟨(Tu (b:=4096+64*(l[n]'hn).first+v1) (d:=0) (by first|exact q3.out|omega) rfl).trans (by rw[hR]),(below_drewN ((H0.trans (hb1.mono (by omega))).alloc (by omega) _) _).trans (hb2.mono (by simp;omega))⟩
    ·obtain⟨rfl,rfl⟩:v1=0/\v2=5:=by omega
     rw[if_pos (by simp)]at hR
     go_enter Tryz.func186,Tryz.ntmps186
     go_wp2_with fail
     go_quiet (fail)
     go_wp2_with (go_at_call 124;refine(cP.out _ (below_drewN H0.out _)).mono ?_;rintro e w1 ⟨rfl,hb1'⟩;have hb1:=LD.out _ _ hb1';obtain⟨hc1,hf1⟩:=aJ hb1;obtain⟨_,ead,_,m0,m1,m2,m3,m4,m5,m6,m7⟩:=HK.out _ (H0.trans (hb1.mono (by omega)));obtain rfl:=GY3 ead;have hwz:=hb1.size;have hz3:w.heap.size+1<w1.heap.size:=(by omega);have hz4:w.heap.size<w1.heap.size:=(by omega);have hbm:(ad.add (n*8)).block<w1.heap.size:=GY0 HBM.out (by omega))
     go_quiet (fail)
     go_wp2_with (go_at_call 236;refine(cE.out _ (below_drewN ((H0.trans (hb1.mono (by omega))).alloc (by omega) _) _)).mono ?_;rintro e w2 ⟨rfl,hb2⟩)
     go_ret2
     exact⟨by rw[hR];rfl,(below_drewN ((H0.trans (hb1.mono (by omega))).alloc (by omega) _) _).trans (hb2.mono (by simp;omega))⟩
end
end Go.Proofs.YtjiedaialianmaaGreat
