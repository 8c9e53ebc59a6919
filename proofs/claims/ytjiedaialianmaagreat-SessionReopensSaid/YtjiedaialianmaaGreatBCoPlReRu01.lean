import Derived.Test.YtjiedaialianmaaGreatA08
import Derived.Test.YtjiedaialianmaaGreatA09
import Derived.Test.YtjiedaialianmaaGreatA10
set_option maxRecDepth 100000
set_option maxHeartbeats 16000000
namespace Go.Proofs.YtjiedaialianmaaGreat
section
theorem Em (k:Nat)(h:k<=4):dV k<=4294967296:=by
 have:∀q:Fin 5,dV q.val<=4294967296:=by decide
 exact this ⟨k,by omega⟩
theorem IX (l:List UInt8):digits (num l) l.length=l:=by
 induction l with
 |nil=>rfl
 |cons b l ih=>
  have hb:=b.toNat_lt
  simp only[num,GY8,digits]
  have e1:((b.toNat:Int)+256*num l) % 256=b.toNat:=by omega
  have e2:((b.toNat:Int)+256*num l) / 256=num l:=by omega
  rw[e1,e2,ih]
  simp
theorem I6 (n:Int)(k:Nat):digits (n % dV k) k=digits n k:=by
 have h:=IX (digits n k)
 rw[CB,digits_length]at h
 exact h
end
section
open Go.RowKit
theorem rV (n:Int)(w:World)(h0:0<=n)(h:n<=32):
  Calls Tryz.prog 205 #[.int .i64 n] w fun e w'=>e=.returned (.int .i64 (2^n.toNat))/\w=w':=by
 go_enter Tryz.func205,Tryz.ntmps205
 go_wp2_with fail
 go_loop [3,4] (fun x i=>∃k:Nat,(k:Int)<=n/\i=.int .i64 k/\x=.int .i64 (2^k)) (fun _ i=>(n -intOf i).toNat)
 case atStart=>exact⟨0,by omega,rfl,rfl⟩
 case round=>
  obtain⟨k,hk,rfl,rfl⟩:=hrel
  by_cases hlt:(k:Int)<n
  ·have hp:(2:Int)^k*2=2^(k+1):=(Int.pow_succ 2 k).symm
   have hb:(2:Int)^(k+1)<=4294967296:=(uZ (k+1) (by omega) (by omega)).2.1
   have hb0:(2:Int)<=2^(k+1):=(uZ (k+1) (by omega) (by omega)).1
   have HP:=Hp hp
   have hq0:(1:Int)<=2^k:=by omega
   have hq1:(2:Int)^k<=4294967296:=by omega
   clear hp hb hb0
   go_wp2_with fail
   go_round
   case rel=>exact⟨k+1,by omega,by go_num,by have:=HP.out;rw[<-this];go_num⟩
   case measure=>simp[intOf]<;>omega
  ·obtain rfl:n=k:=by omega
   go_wp2_with fail
   go_ret
   exact⟨aC (by simp),rfl⟩
theorem SH (n m:Int)(w:World)(h0:1<=m)(h:m<=4294967296):
  Calls Tryz.prog 204 #[.int .i64 n,.int .i64 m] w fun e w'=>e=.returned (.int .i64 (n % m))/\w=w':=by
 have e1:n.tmod m=if 0<=n\/n % m=0 then n % m else n % m -m:=by
  rw[Int.tmod_eq_emod]
  have:m.natAbs=m:=by omega
  by_cases h1:0<=n<;>by_cases h2:n % m=0<;>simp[h1,h2,Int.dvd_iff_emod_eq_zero]<;>omega
 have b1:=Int.emod_nonneg n (show m≠0 by omega)
 have b2:=Int.emod_lt_of_pos n (show 0<m by omega)
 have H1:=Hp e1
 clear e1
 go_enter Tryz.func204,Tryz.ntmps204
 go_wp2_with fail
 all_goals(go_ret;have e1:=H1.out;exact⟨aC (by(try unfold wrap64);split at e1<;>omega),rfl⟩)
theorem OD (j:Nat)(w:World)(h:j<=4):
  Calls Tryz.prog 205 #[.int .i64 (8*j)] w fun e w'=>e=.returned (.int .i64 (dV j))/\w=w':=
 (rV _ w (by omega) (by omega)).mono fun _ _ ⟨he,hw⟩=>⟨by rw[he,qN,show(8*(j:Int)).toNat=8*j from by omega],hw⟩
end
section
open Go.RowKit
theorem iF (n:Int)(k:Nat)(w:World)(hk:k<=4):
  Calls Tryz.prog 143 #[.int .i64 n,.int .i64 k] w fun e w'=>e=.returned (.string ⟨(digits n k).toArray⟩)/\Below w.heap.size w w':=by
 go_enter Tryz.func143,Tryz.ntmps143
 go_wp2_with (first|(go_at_call 205;refine(OD _ _ (by omega)).mono ?_;rintro e w' ⟨rfl,rfl⟩)|(go_at_call 204;refine(SH _ _ _ (nA _) (Em _ (by omega))).mono ?_;rintro e w' ⟨rfl,rfl⟩))
 obtain⟨N,hN⟩:=Nm (n % dV k)
 have hN0:0<=N:=by rw[hN];exact Int.emod_nonneg _ (by have:=nA k;omega)
 have hN1:N<=4294967296:=by
  have h1:=Int.emod_lt_of_pos n (show 0<dV k by have:=nA k;omega)
  have h2:=Em k hk
  omega
 have HN:=Hp (show digits N k=digits n k by rw[hN,I6])
 rw[<-hN]
 clear hN
 go_loopw [5,0,6] (fun s v i wr=>∃j:Nat,j<=k/\i=.int .i64 j/\s=.string ⟨(digits N j).toArray⟩/\v=.int .i64 (N / dV j)/\Below w.heap.size w wr) (fun _ _ i _=>k -(intOf i).toNat)
 case atStart=>exact⟨0,by omega,by go_num,rfl,by simp[dV],GZ4 _ _⟩
 case round=>
  obtain⟨j,hj,rfl,rfl,rfl,hbl⟩:=hrel
  by_cases hlt:j<k
  ·have hq0:0<=N / dV j:=Int.ediv_nonneg hN0 (by have:=nA j;omega)
   have hq1:N / dV j<=4294967296:=Int.le_trans (Int.ediv_le_self _ hN0) hN1
   have HS:=Hp (DU N j)
   have HD:=Hp (Uv N j)
   have hcv:=IB (P:=Tryz.prog) Tryz.underlying135 Tryz.underlying5 Tryz.underlying9
   have had:∀W,(Op.stringOp .add ⟨(digits N j).toArray⟩ ⟨#[UInt8.ofNat (N / dV j % 256).toNat]⟩).run Tryz.prog W=.ok (.string ⟨(digits N j++[UInt8.ofNat (N / dV j % 256).toNat]).toArray⟩) W:=fun W=>by
    rw[run_string_add_sum _ _ _ (by simp[ByteArray.size,digits_length];omega)]
    congr 2;try exact ba_eq (by simp[dY])
   go_wp2_with fail
   go_roundw
   case rel=>
    refine⟨j+1,by omega,by go_num,by rw[HD.out],by rw[<-HS.out],hbl.alloc hbl.size _⟩
   case measure=>(simp[intOf];try omega)
  ·obtain rfl:j=k:=by omega
   go_wp2_with fail
   go_ret
   exact⟨by simp[HN.out],hbl⟩
end
section
open Go.RowKit
theorem gL (k:Int)(w:World):
  Calls Tryz.prog 179 #[.int .i64 k] w fun e w'=>e=.returned (.int .i64 (aK k))/\w=w':=by
 go_enter Tryz.func179,Tryz.ntmps179
 go_wp2_with fail
 all_goals(go_ret;exact⟨aC (by simp at*;unfold aK;(repeat' split)<;>omega),rfl⟩)
end
section
open Go.RowKit Go.Maps Go.WideMaps
theorem zB (md nm:ByteArray)(mj mn:Int)(w:World)(h1:md.size<=big)(h2:nm.size<=big):
  Calls Tryz.prog 178 #[.agg #[.string md,.string nm,.int .i64 mj,.int .i64 mn]] w fun e w'=>e=.returned (.int .i64 (dP ⟨md,nm,mj,mn⟩))/\Below w.heap.size w w':=by
 rw[Cn]
 have c1:=Hp (fun W=>Sl md W h1)
 have c2:=Hp (fun W=>Sl nm W h2)
 have c3:=Hp (fun W=>bE mj 0 255 W)
 have c4:=Hp (fun W=>bE mn 0 255 W)
 have HB:=Hp ((GZ4 w.heap.size w).alloc (GZ3 _) (.cells #[.string md,.string nm,.int .i64 mj,.int .i64 mn] 173))
 unfold qX
 clear h1 h2
 generalize isName md=a at*
 generalize isName nm=b at*
 generalize(decide (0<=mj)&&decide (mj<=255))=c at*
 generalize(decide (0<=mn)&&decide (mn<=255))=d at*
 cases a
 ·go_enter Tryz.func178,Tryz.ntmps178
  go_wp2_with (first|(go_at_call 142;(with_reducible refine(c1.out _).mono ?_);rintro e w' ⟨rfl,rfl⟩))
  go_ret
  exact⟨rfl,HB.out⟩
 cases b
 ·go_enter Tryz.func178,Tryz.ntmps178
  go_wp2_with (first|(go_at_call 142;(with_reducible refine(c1.out _).mono ?_);rintro e w' ⟨rfl,rfl⟩)|(go_at_call 142;(with_reducible refine(c2.out _).mono ?_);rintro e w' ⟨rfl,rfl⟩))
  go_ret
  exact⟨rfl,HB.out⟩
 cases c
 ·go_enter Tryz.func178,Tryz.ntmps178
  go_wp2_with (first|(go_at_call 142;(with_reducible refine(c1.out _).mono ?_);rintro e w' ⟨rfl,rfl⟩)|(go_at_call 142;(with_reducible refine(c2.out _).mono ?_);rintro e w' ⟨rfl,rfl⟩)|(go_at_call 75;(with_reducible refine(c3.out _).mono ?_);rintro e w' ⟨rfl,rfl⟩))
  go_ret
  exact⟨rfl,HB.out⟩
 cases d
 all_goals
  go_enter Tryz.func178,Tryz.ntmps178
  go_wp2_with (first|(go_at_call 142;(with_reducible refine(c1.out _).mono ?_);rintro e w' ⟨rfl,rfl⟩)|(go_at_call 142;(with_reducible refine(c2.out _).mono ?_);rintro e w' ⟨rfl,rfl⟩)|(go_at_call 75;(with_reducible refine(c3.out _).mono ?_);rintro e w' ⟨rfl,rfl⟩)|(go_at_call 75;(with_reducible refine(c4.out _).mono ?_);rintro e w' ⟨rfl,rfl⟩))
  go_ret
  exact⟨rfl,HB.out⟩
end
section
open Go.RowKit
theorem iV (m:Mod)(w:World)(h:m.ok w):
  Calls Tryz.prog 104 #[m.v] w fun e w'=>e=.returned (.int .i64 (aL m))/\Below w.heap.size w w':=by
 obtain⟨hex,him,hpa,hnm,htx⟩:=h
 obtain⟨nm,mj,mn,tx,ex,im,pa,eA,eC,iA,iC,pA,pC⟩:=m
 simp only at hex him hpa hnm htx
 obtain⟨w0,hw0⟩:=Nm (w.alloc (.cells #[.string nm,.int .i64 mj,.int .i64 mn,.string tx,.slice eA ex.length eC,.slice iA im.length iC,.slice pA pa.length pC] 70))
 obtain⟨g0,g1,g2,g3,g4,g5,g6,hz,hb0⟩:=wE hw0
 have hz0:w.heap.size<w0.heap.size:=by omega
 have H0:=Hp hb0
 have HZ:=Hp hz
 have hw0':=hw0.symm
 clear hw0 hb0 hz
 obtain⟨E,hE⟩:=Nm (aL ⟨nm,mj,mn,tx,ex,im,pa,eA,eC,iA,iC,pA,pC⟩)
 rw[<-hE]
 have hl1:=hex.2.1
 have hl2:=him.2.1
 have hl3:=hpa.2
 have ht:=htx
 unfold big at hl1 hl2 hl3 ht
 have z1:=Hp (show(tx.size:Int)<=big by unfold big;omega)
 have HEX:=Hp hex
 have HIM:=Hp him
 have HPA:=Hp hpa
 have hme:aL ⟨nm,mj,mn,tx,ex,im,pa,eA,eC,iA,iC,pA,pC⟩=if isName nm=false\/nm=RG then 1
  else if mj<0\/255<mj\/mn<0\/255<mn then 3
  else if 256<tx.size\/6<ex.length\/6<im.length\/12<pa.length then 2
  else if tx.size=0\/tx.size % 4≠0 then 1
  else if eF [] tx.size ex≠0 then eF [] tx.size ex
  else if eP [] im≠0 then eP [] im
  else Rp tx.size im.length 0 pa:=rfl
 rw[hme]at hE
 have c1:=Hp (fun W=>Sl nm W hnm)
 have c3:=Hp (fun W(hb:Below w.heap.size w W)=>oP eA eC ex tx.size W ⟨HEX.out.1.below hb,HEX.out.2⟩ (by omega) z1.out)
 have kq:=rX nm
 clear hme hnm hex him hpa htx
 by_cases t1:isName nm=true
 case neg=>
  rw[if_pos (by simp at t1;exact .inl t1)]at hE
  rw[show isName nm=false by simpa using t1]at c1
  clear t1 kq
  go_enter Tryz.func104,Tryz.ntmps104
  go_wp2_with (first|(go_at_call 142;(with_reducible refine(c1.out _).mono ?_);rintro e w' ⟨rfl,rfl⟩)|(go_at_call 75;(with_reducible refine(c2.out _).mono ?_);rintro e w' ⟨rfl,rfl⟩)|(go_at_call 75;(with_reducible refine(c4.out _).mono ?_);rintro e w' ⟨rfl,rfl⟩)|(go_at_call 76;(with_reducible refine(c3.out _ H0.out).mono ?_);rintro e w3 ⟨rfl,hb3⟩;obtain⟨hc3,hf3⟩:=aJ hb3;have hz3:w.heap.size<w3.heap.size:=by have:=hb3.size;(try simp at this);omega))
  go_ret
  exact⟨aC hE.symm,H0.out⟩
 rw[t1]at c1
 by_cases t2:nm=RG
 case pos=>
  rw[if_pos (.inr t2)]at hE
  rw[show decide (nm=RG)=true by simp[t2]]at kq
  clear t1 t2
  go_enter Tryz.func104,Tryz.ntmps104
  go_wp2_with (first|(go_at_call 142;(with_reducible refine(c1.out _).mono ?_);rintro e w' ⟨rfl,rfl⟩)|(go_at_call 75;(with_reducible refine(c2.out _).mono ?_);rintro e w' ⟨rfl,rfl⟩)|(go_at_call 75;(with_reducible refine(c4.out _).mono ?_);rintro e w' ⟨rfl,rfl⟩)|(go_at_call 76;(with_reducible refine(c3.out _ H0.out).mono ?_);rintro e w3 ⟨rfl,hb3⟩;obtain⟨hc3,hf3⟩:=aJ hb3;have hz3:w.heap.size<w3.heap.size:=by have:=hb3.size;(try simp at this);omega))
  go_ret
  exact⟨aC hE.symm,H0.out⟩
 rw[if_neg (by simp[t1,t2])]at hE
 rw[show decide (nm=RG)=false by simp[t2]]at kq
 clear t1 t2
 by_cases t3:0<=mj/\mj<=255
 case neg=>
  rw[if_pos (by omega)]at hE
  have c2:=Hp (fun W=>RQ mj 0 255 W (by omega))
  clear t3
  go_enter Tryz.func104,Tryz.ntmps104
  go_wp2_with (first|(go_at_call 142;(with_reducible refine(c1.out _).mono ?_);rintro e w' ⟨rfl,rfl⟩)|(go_at_call 75;(with_reducible refine(c2.out _).mono ?_);rintro e w' ⟨rfl,rfl⟩)|(go_at_call 75;(with_reducible refine(c4.out _).mono ?_);rintro e w' ⟨rfl,rfl⟩)|(go_at_call 76;(with_reducible refine(c3.out _ H0.out).mono ?_);rintro e w3 ⟨rfl,hb3⟩;obtain⟨hc3,hf3⟩:=aJ hb3;have hz3:w.heap.size<w3.heap.size:=by have:=hb3.size;(try simp at this);omega))
  go_ret
  exact⟨aC hE.symm,H0.out⟩
 have c2:=Hp (fun W=>bK mj 0 255 W t3.1 t3.2)
 by_cases t4:0<=mn/\mn<=255
 case neg=>
  rw[if_pos (by omega)]at hE
  have c4:=Hp (fun W=>RQ mn 0 255 W (by omega))
  clear t3 t4
  go_enter Tryz.func104,Tryz.ntmps104
  go_wp2_with (first|(go_at_call 142;(with_reducible refine(c1.out _).mono ?_);rintro e w' ⟨rfl,rfl⟩)|(go_at_call 75;(with_reducible refine(c2.out _).mono ?_);rintro e w' ⟨rfl,rfl⟩)|(go_at_call 75;(with_reducible refine(c4.out _).mono ?_);rintro e w' ⟨rfl,rfl⟩)|(go_at_call 76;(with_reducible refine(c3.out _ H0.out).mono ?_);rintro e w3 ⟨rfl,hb3⟩;obtain⟨hc3,hf3⟩:=aJ hb3;have hz3:w.heap.size<w3.heap.size:=by have:=hb3.size;(try simp at this);omega))
  go_ret
  exact⟨aC hE.symm,H0.out⟩
 have c4:=Hp (fun W=>bK mn 0 255 W t4.1 t4.2)
 rw[if_neg (by omega)]at hE
 clear t3 t4
 by_cases t4:256<tx.size
 case pos=>
  rw[if_pos (by omega)]at hE
  have t4':(256:Int)<(tx.size:Nat):=by omega
  clear t4
  go_enter Tryz.func104,Tryz.ntmps104
  go_wp2_with (first|(go_at_call 142;(with_reducible refine(c1.out _).mono ?_);rintro e w' ⟨rfl,rfl⟩)|(go_at_call 75;(with_reducible refine(c2.out _).mono ?_);rintro e w' ⟨rfl,rfl⟩)|(go_at_call 75;(with_reducible refine(c4.out _).mono ?_);rintro e w' ⟨rfl,rfl⟩)|(go_at_call 76;(with_reducible refine(c3.out _ H0.out).mono ?_);rintro e w3 ⟨rfl,hb3⟩;obtain⟨hc3,hf3⟩:=aJ hb3;have hz3:w.heap.size<w3.heap.size:=by have:=hb3.size;(try simp at this);omega))
  go_ret
  exact⟨aC hE.symm,H0.out⟩
 have t4':decide ((256:Int)<(tx.size:Nat))=false:=by simp;omega
 by_cases t5:6<ex.length
 case pos=>
  rw[if_pos (by omega)]at hE
  have t5':(6:Int)<(ex.length:Nat):=by omega
  clear t5
  go_enter Tryz.func104,Tryz.ntmps104
  go_wp2_with (first|(go_at_call 142;(with_reducible refine(c1.out _).mono ?_);rintro e w' ⟨rfl,rfl⟩)|(go_at_call 75;(with_reducible refine(c2.out _).mono ?_);rintro e w' ⟨rfl,rfl⟩)|(go_at_call 75;(with_reducible refine(c4.out _).mono ?_);rintro e w' ⟨rfl,rfl⟩)|(go_at_call 76;(with_reducible refine(c3.out _ H0.out).mono ?_);rintro e w3 ⟨rfl,hb3⟩;obtain⟨hc3,hf3⟩:=aJ hb3;have hz3:w.heap.size<w3.heap.size:=by have:=hb3.size;(try simp at this);omega))
  go_ret
  exact⟨aC hE.symm,H0.out⟩
 have t5':decide ((6:Int)<(ex.length:Nat))=false:=by simp;omega
 by_cases t6:6<im.length
 case pos=>
  rw[if_pos (by omega)]at hE
  have t6':(6:Int)<(im.length:Nat):=by omega
  clear t6
  go_enter Tryz.func104,Tryz.ntmps104
  go_wp2_with (first|(go_at_call 142;(with_reducible refine(c1.out _).mono ?_);rintro e w' ⟨rfl,rfl⟩)|(go_at_call 75;(with_reducible refine(c2.out _).mono ?_);rintro e w' ⟨rfl,rfl⟩)|(go_at_call 75;(with_reducible refine(c4.out _).mono ?_);rintro e w' ⟨rfl,rfl⟩)|(go_at_call 76;(with_reducible refine(c3.out _ H0.out).mono ?_);rintro e w3 ⟨rfl,hb3⟩;obtain⟨hc3,hf3⟩:=aJ hb3;have hz3:w.heap.size<w3.heap.size:=by have:=hb3.size;(try simp at this);omega))
  go_ret
  exact⟨aC hE.symm,H0.out⟩
 have t6':decide ((6:Int)<(im.length:Nat))=false:=by simp;omega
 by_cases t7:12<pa.length
 case pos=>
  rw[if_pos (by omega)]at hE
  have t7':(12:Int)<(pa.length:Nat):=by omega
  clear t7
  go_enter Tryz.func104,Tryz.ntmps104
  go_wp2_with (first|(go_at_call 142;(with_reducible refine(c1.out _).mono ?_);rintro e w' ⟨rfl,rfl⟩)|(go_at_call 75;(with_reducible refine(c2.out _).mono ?_);rintro e w' ⟨rfl,rfl⟩)|(go_at_call 75;(with_reducible refine(c4.out _).mono ?_);rintro e w' ⟨rfl,rfl⟩)|(go_at_call 76;(with_reducible refine(c3.out _ H0.out).mono ?_);rintro e w3 ⟨rfl,hb3⟩;obtain⟨hc3,hf3⟩:=aJ hb3;have hz3:w.heap.size<w3.heap.size:=by have:=hb3.size;(try simp at this);omega))
  go_ret
  exact⟨aC hE.symm,H0.out⟩
 have t7':decide ((12:Int)<(pa.length:Nat))=false:=by simp;omega
 rw[if_neg (by omega)]at hE
 clear t4 t5 t6 t7
 obtain⟨r4,tm,hr4⟩:∃r4:Int,Int.tmod (tx.size:Int) 4=r4/\r4=((tx.size % 4:Nat):Int):=⟨_,rfl,by rw[Int.tmod_eq_emod_of_nonneg (by omega)];omega⟩
 by_cases t8:tx.size=0
 case pos=>
  rw[if_pos (.inl t8)]at hE
  have t8':((tx.size:Int)==0)=true:=by simp[t8]
  clear t8 tm hr4
  go_enter Tryz.func104,Tryz.ntmps104
  go_wp2_with (first|(go_at_call 142;(with_reducible refine(c1.out _).mono ?_);rintro e w' ⟨rfl,rfl⟩)|(go_at_call 75;(with_reducible refine(c2.out _).mono ?_);rintro e w' ⟨rfl,rfl⟩)|(go_at_call 75;(with_reducible refine(c4.out _).mono ?_);rintro e w' ⟨rfl,rfl⟩)|(go_at_call 76;(with_reducible refine(c3.out _ H0.out).mono ?_);rintro e w3 ⟨rfl,hb3⟩;obtain⟨hc3,hf3⟩:=aJ hb3;have hz3:w.heap.size<w3.heap.size:=by have:=hb3.size;(try simp at this);omega))
  go_ret
  exact⟨aC hE.symm,H0.out⟩
 have t8':((tx.size:Int)==0)=false:=by simp[t8]
 by_cases t9:tx.size % 4=0
 case neg=>
  rw[if_pos (.inr t9)]at hE
  have t9':(0:Int)<r4:=by omega
  clear t8 t9 hr4
  go_enter Tryz.func104,Tryz.ntmps104
  go_wp2_with (first|(go_at_call 142;(with_reducible refine(c1.out _).mono ?_);rintro e w' ⟨rfl,rfl⟩)|(go_at_call 75;(with_reducible refine(c2.out _).mono ?_);rintro e w' ⟨rfl,rfl⟩)|(go_at_call 75;(with_reducible refine(c4.out _).mono ?_);rintro e w' ⟨rfl,rfl⟩)|(go_at_call 76;(with_reducible refine(c3.out _ H0.out).mono ?_);rintro e w3 ⟨rfl,hb3⟩;obtain⟨hc3,hf3⟩:=aJ hb3;have hz3:w.heap.size<w3.heap.size:=by have:=hb3.size;(try simp at this);omega))
  go_ret
  exact⟨aC hE.symm,H0.out⟩
 rw[if_neg (by omega)]at hE
 obtain rfl:r4=0:=by omega
 clear t8 t9 hr4
 by_cases u1:eF [] tx.size ex=0
 case neg=>
  rw[if_pos u1]at hE
  generalize eF [] tx.size ex=ee at*
  have u1':(ee != 0)=true:=by simp[u1]
  clear u1
  go_enter Tryz.func104,Tryz.ntmps104
  go_wp2_with (first|(go_at_call 142;(with_reducible refine(c1.out _).mono ?_);rintro e w' ⟨rfl,rfl⟩)|(go_at_call 75;(with_reducible refine(c2.out _).mono ?_);rintro e w' ⟨rfl,rfl⟩)|(go_at_call 75;(with_reducible refine(c4.out _).mono ?_);rintro e w' ⟨rfl,rfl⟩)|(go_at_call 76;(with_reducible refine(c3.out _ H0.out).mono ?_);rintro e w3 ⟨rfl,hb3⟩;obtain⟨hc3,hf3⟩:=aJ hb3;have hz3:w.heap.size<w3.heap.size:=by have:=hb3.size;(try simp at this);omega))
  go_ret
  exact⟨aC hE.symm,H0.trans (hb3.mono (by omega))⟩
 rw[if_neg (by omega)]at hE
 rw[u1]at c3
 have HE:=Hp hE
 clear u1 hE
 go_enter Tryz.func104,Tryz.ntmps104
 go_wp2_with (first|(go_at_call 142;(with_reducible refine(c1.out _).mono ?_);rintro e w' ⟨rfl,rfl⟩)|(go_at_call 75;(with_reducible refine(c2.out _).mono ?_);rintro e w' ⟨rfl,rfl⟩)|(go_at_call 75;(with_reducible refine(c4.out _).mono ?_);rintro e w' ⟨rfl,rfl⟩)|(go_at_call 76;(with_reducible refine(c3.out _ H0.out).mono ?_);rintro e w3 ⟨rfl,hb3⟩;obtain⟨hc3,hf3⟩:=aJ hb3;have hz3:w.heap.size<w3.heap.size:=by have:=hb3.size;(try simp at this);omega))
 go_loopw [4] (fun i wr=>∃j:Nat,j<=im.length/\i=.int .i64 j/\gM im j=eP [] im/\Below (w.heap.size+1) w0 wr) (fun i _=>im.length -(intOf i).toNat)
 case atStart=>exact⟨0,by omega,rfl,rfl,hb3.mono (by have:=HZ.out;omega)⟩
 case round=>
  obtain⟨j,hj,rfl,hI,hb⟩:=hrel
  have HI:=Hp hI
  have HB:=Hp hb
  clear hI
  have f3:=(hb.cell (p:=⟨w.heap.size,3,none⟩) (by simp)).trans g3
  have f5:=(hb.cell (p:=⟨w.heap.size,5,none⟩) (by simp)).trans g5
  have f6:=(hb.cell (p:=⟨w.heap.size,6,none⟩) (by simp)).trans g6
  have hzr:w.heap.size<wr.heap.size:=by have:=hb.size;have:=HZ.out;omega
  by_cases hlt:j<im.length
  ·have hlt':(j:Int)<im.length:=by omega
   obtain⟨ad,rfl,hab,h0,h1,h2,h3⟩:=TA HIM.out.1 (H0.trans (hb.mono (by omega))) j hlt
   obtain⟨hsz1,hsz2⟩:=HIM.out.2.2 im[j] (GZ9 _)
   have d1:=Hp (fun W=>zB (im[j]'hlt).mod (im[j]'hlt).name (im[j]'hlt).major (im[j]'hlt).minor W hsz1 hsz2)
   obtain⟨er,her⟩:=Nm (dP (im[j]'hlt))
   have her':er=dP ⟨(im[j]'hlt).mod,(im[j]'hlt).name,(im[j]'hlt).major,(im[j]'hlt).minor⟩:=her
   rw[<-her']at d1
   have HER:=Hp her
   clear hb her her'
   by_cases h5:er=1
   ·obtain rfl:=h5
    have e1:=Hp ((tY hlt HER.symm).symm.trans HI.out)
    have e2:=Hp (show E=1 by rw[HE.out,<-e1.out];rfl)
    go_wp2_with (first|(go_at_call 178;(with_reducible refine(d1.out _).mono ?_);rintro e w4 ⟨rfl,hb4⟩;obtain⟨hc4,hf4⟩:=aJ hb4;have hz4:w.heap.size<w4.heap.size:=by have:=hb4.size;(try simp at this);omega))
    go_ret
    exact⟨aC e2.symm,(H0.trans (HB.mono (by omega))).trans (hb4.mono (by omega))⟩
   ·have h5':(er==1)=false:=by simp[h5]
    have H5:=Hp (show dP (im[j]'hlt)≠1 by rw[<-HER.out];exact h5)
    clear h5
    go_wp2_with (first|(go_at_call 178;(with_reducible refine(d1.out _).mono ?_);rintro e w4 ⟨rfl,hb4⟩;obtain⟨hc4,hf4⟩:=aJ hb4;have hz4:w.heap.size<w4.heap.size:=by have:=hb4.size;(try simp at this);omega))
    go_loopw [6] (fun i wi=>∃k:Nat,k<=j/\i=.int .i64 k/\(∀k'(hk:k'<im.length),k'<k->¬(im[k'].mod=im[j].mod/\im[k'].name=im[j].name))/\Below (w.heap.size+1) w0 wi) (fun i _=>j -(intOf i).toNat)
    case atStart=>exact⟨0,by omega,rfl,by omega,HB.trans (hb4.mono (by omega))⟩
    case round=>
     obtain⟨k,hk,rfl,hK,hb2⟩:=hrel
     have HK:=Hp hK
     have HB2:=Hp hb2
     clear hK
     have f5:=(hb2.cell (p:=⟨w.heap.size,5,none⟩) (by simp)).trans g5
     obtain⟨_,ead,_,i0,i1,_,_⟩:=TA HIM.out.1 (H0.trans (hb2.mono (by omega))) j hlt
     obtain rfl:=GY3 ead
     by_cases hkj:k<j
     ·have hkl:k<im.length:=by omega
      have hkj':(k:Int)<j:=by omega
      have hkl':(k:Int)<im.length:=by omega
      obtain⟨_,ead,_,p0,p1,_,_⟩:=TA HIM.out.1 (H0.trans (hb2.mono (by omega))) k hkl
      obtain rfl:=GY3 ead
      clear hb2 ead
      by_cases q1:im[k].mod=im[j].mod
      ·by_cases q2:im[k].name=im[j].name
       ·have e1:=Hp ((nC hlt H5.out hkl hkj ⟨q1,q2⟩).symm.trans HI.out)
        have e2:=Hp (show E=6 by rw[HE.out,<-e1.out];rfl)
        have r1:=str_eq q1
        have r2:=str_eq q2
        clear q1 q2
        go_wp2_with fail
        go_quiet (fail)
        go_wp2_with fail
        go_ret
        exact⟨aC e2.symm,H0.trans ((below_drewN HB2.out _).mono (by omega))⟩
       ·have HQ:=Hp (fun(hq:im[k].mod=im[j].mod/\im[k].name=im[j].name)=>q2 hq.2)
        have r1:=str_eq q1
        have r2:=mY q2
        clear q1 q2
        go_wp2_with fail
        go_quiet (fail)
        go_wp2_with fail
        go_roundw
        case rel=>exact⟨k+1,by omega,by go_num,fun k' h' hlt=>by rcases Nat.lt_succ_iff_lt_or_eq.1 hlt with h|rfl;exact HK.out k' h' h;exact HQ.out,below_drewN HB2.out _⟩
        case measure=>(simp[intOf];try omega)
      ·have HQ:=Hp (fun(hq:im[k].mod=im[j].mod/\im[k].name=im[j].name)=>q1 hq.1)
       have r1:=mY q1
       clear q1
       go_wp2_with fail
       go_quiet (fail)
       go_wp2_with fail
       go_roundw
       case rel=>exact⟨k+1,by omega,by go_num,fun k' h' hlt=>by rcases Nat.lt_succ_iff_lt_or_eq.1 hlt with h|rfl;exact HK.out k' h' h;exact HQ.out,below_drewN HB2.out _⟩
       case measure=>(simp[intOf];try omega)
     ·obtain rfl:k=j:=by omega
      clear hb2 ead
      by_cases h6:er=0
      ·obtain rfl:=h6
       have e1:=Hp ((tL hlt HER.symm (fun k' h' hlt=>HK.out k' h' hlt)).trans HI.out)
       go_wp2_with fail
       go_roundw
       case rel=>exact⟨k+1,by omega,by go_num,e1.out,HB2.out⟩
       case measure=>(simp[intOf];try omega)
      ·have h7:er=3:=by
        have:=vQ (im[k]'hlt);have:=H5.out;rw[<-HER.out]at*;omega
       obtain rfl:=h7
       have e1:=Hp ((qD hlt HER.symm (fun k' h' hlt=>HK.out k' h' hlt)).symm.trans HI.out)
       have e2:=Hp (show E=3 by rw[HE.out,<-e1.out];rfl)
       clear h6
       go_wp2_with fail
       go_ret
       exact⟨aC e2.symm,H0.trans (HB2.mono (by omega))⟩
  ·have e1:=Hp ((U0 hlt).symm.trans HI.out)
   have HE2:=Hp (show E=Rp tx.size im.length 0 pa by rw[HE.out,<-e1.out];rfl)
   clear hb
   go_wp2_with fail
   go_loopw [7,8] (fun e i wr=>∃(j:Nat)(en:Int),j<=pa.length/\i=.int .i64 j/\e=.int .i64 en/\0<=en/\en<=140737488351236/\kK tx.size im.length pa j en=E/\Below (w.heap.size+1) w0 wr) (fun _ i _=>pa.length -(intOf i).toNat)
   case atStart=>exact⟨0,0,by omega,rfl,rfl,by omega,by omega,HE2.symm,HB.out⟩
   case round=>
    obtain⟨j,en,hj,rfl,rfl,he0,he1,hE,hb⟩:=hrel
    have HE:=Hp hE
    have HB:=Hp hb
    clear hE
    have f3:=(hb.cell (p:=⟨w.heap.size,3,none⟩) (by simp)).trans g3
    have f5:=(hb.cell (p:=⟨w.heap.size,5,none⟩) (by simp)).trans g5
    have f6:=(hb.cell (p:=⟨w.heap.size,6,none⟩) (by simp)).trans g6
    have hzr:w.heap.size<wr.heap.size:=by have:=hb.size;have:=HZ.out;omega
    by_cases hlt:j<pa.length
    ·have hlt':(j:Int)<pa.length:=by omega
     obtain⟨ad,rfl,hab,h0,h1,h2,h3⟩:=qE HPA.out.1 (H0.trans (hb.mono (by omega))) j hlt
     clear hb
     obtain⟨p,hp⟩:=Nm (pa[j])
     have he:=Hp (fun h=>(Ub (z:=tx.size) (ni:=im.length) (e:=en) hlt h).symm.trans HE.out)
     have hx:=Hp (fun h=>(tO (z:=tx.size) (ni:=im.length) (e:=en) hlt h).trans HE.out)
     rw[<-hp]at h0 h1 h2 h3 he hx
     have HP:=Hp hp
     clear hp
     obtain⟨kd,at_,sy,ad_⟩:=p
     simp only at h0 h1 h2 h3
     obtain⟨k,hk⟩:=Nm (aK kd)
     have c1:=Hp (fun W=>gL kd W)
     rw[<-hk]at c1
     have hkr:=VK kd
     rw[<-hk]at hkr
     have HK:=Hp hk
     clear hk
     have qk:wrap64 ((im.length:Int) -1)=im.length -1:=IntWalk.wrap64_in _ (by omega)
     have qz:wrap64 ((tx.size:Int) -k)=tx.size -k:=IntWalk.wrap64_in _ (by omega)
     rcases hkr with h5|⟨h5,h6⟩
     ·obtain rfl:=h5
      have e1:=Hp (Uy (z:=tx.size) (ni:=im.length) (e:=en) (p:=⟨kd,at_,sy,ad_⟩) HK.symm)
      have e2:=Hp ((e1.symm).trans (he.out (by rw[e1.out];omega)))
      go_wp2_with (first|(go_at_call 179;(with_reducible refine(c1.out _).mono ?_);rintro e w' ⟨rfl,rfl⟩))
      go_ret
      exact⟨aC e2.out,H0.trans ((HB.mono (by omega)).trans ((GZ4 _ _).alloc (by omega) _))⟩
     ·have hk0:(k==0)=false:=by simp;omega
      have hkn:=Hp (show aK kd≠0 by rw[<-HK.out];omega)
      have hrng:=Hp (fun h1=>(UZ (z:=tx.size) (ni:=im.length) (e:=en) (p:=⟨kd,at_,sy,ad_⟩) hkn.out h1))
      have hst:=Hp (fun h1 h2=>(vZ (z:=tx.size) (ni:=im.length) (e:=en) (p:=⟨kd,at_,sy,ad_⟩) hkn.out h1 h2))
      have hok:=Hp (fun h1 h2=>(Df (z:=tx.size) (ni:=im.length) (e:=en) (p:=⟨kd,at_,sy,ad_⟩) hkn.out h1 h2))
      simp only[<-HK.out]at hrng hst hok
      by_cases b1: -1<=sy/\sy<=im.length -1
      ·have c3:=Hp (fun W=>bK sy (-1) (im.length -1) W b1.1 b1.2)
       by_cases b2:0<=ad_/\ad_<=65535
       ·have c4:=Hp (fun W=>bK ad_ 0 65535 W b2.1 b2.2)
        by_cases b3:0<=at_/\at_<=tx.size -k
        ·have c5:=Hp (fun W=>bK at_ 0 (tx.size -k) W b3.1 b3.2)
         by_cases b5:at_<en
         ·have e1:=Hp (hst.out (by omega) b5)
          have e2:=Hp ((e1.symm).trans (he.out (by rw[e1.out];omega)))
          clear b1 b2 b3
          go_wp2_with (first|(go_at_call 179;(with_reducible refine(c1.out _).mono ?_);rintro e w' ⟨rfl,rfl⟩)|(go_at_call 75;(with_reducible refine(c3.out _).mono ?_);rintro e w' ⟨rfl,rfl⟩)|(go_at_call 75;(with_reducible refine(c4.out _).mono ?_);rintro e w' ⟨rfl,rfl⟩)|(go_at_call 75;(with_reducible refine(c5.out _).mono ?_);rintro e w' ⟨rfl,rfl⟩))
          go_ret
          exact⟨aC e2.out,H0.trans ((HB.mono (by omega)).trans ((GZ4 _ _).alloc (by omega) _))⟩
         ·have b5':decide (at_<en)=false:=by simp;omega
          have e1:=Hp (hok.out (by omega) b5)
          have e2:=Hp (hx.out e1.out)
          have q3:=Hp (show wrap64 (at_+k)=at_+k from IntWalk.wrap64_in _ (by omega))
          have r1:=Hp (show 0<=at_+k/\at_+k<=140737488351236 by omega)
          clear b1 b2 b3 b5
          go_wp2_with (first|(go_at_call 179;(with_reducible refine(c1.out _).mono ?_);rintro e w' ⟨rfl,rfl⟩)|(go_at_call 75;(with_reducible refine(c3.out _).mono ?_);rintro e w' ⟨rfl,rfl⟩)|(go_at_call 75;(with_reducible refine(c4.out _).mono ?_);rintro e w' ⟨rfl,rfl⟩)|(go_at_call 75;(with_reducible refine(c5.out _).mono ?_);rintro e w' ⟨rfl,rfl⟩))
          go_roundw
          case rel=>exact⟨j+1,at_+k,by omega,by go_num,by rw[q3.out],r1.out.1,r1.out.2,by rw[HK.out];exact e2.out,HB.trans ((GZ4 _ _).alloc (by omega) _)⟩
          case measure=>(simp[intOf];try omega)
        ·have c5:=Hp (fun W=>RQ at_ 0 (tx.size -k) W (by omega))
         have e1:=Hp (hrng.out (by omega))
         have e2:=Hp ((e1.symm).trans (he.out (by rw[e1.out];omega)))
         clear b1 b2 b3
         go_wp2_with (first|(go_at_call 179;(with_reducible refine(c1.out _).mono ?_);rintro e w' ⟨rfl,rfl⟩)|(go_at_call 75;(with_reducible refine(c3.out _).mono ?_);rintro e w' ⟨rfl,rfl⟩)|(go_at_call 75;(with_reducible refine(c4.out _).mono ?_);rintro e w' ⟨rfl,rfl⟩)|(go_at_call 75;(with_reducible refine(c5.out _).mono ?_);rintro e w' ⟨rfl,rfl⟩))
         go_ret
         exact⟨aC e2.out,H0.trans ((HB.mono (by omega)).trans ((GZ4 _ _).alloc (by omega) _))⟩
       ·have c4:=Hp (fun W=>RQ ad_ 0 65535 W (by omega))
        have e1:=Hp (hrng.out (by omega))
        have e2:=Hp ((e1.symm).trans (he.out (by rw[e1.out];omega)))
        clear b1 b2
        go_wp2_with (first|(go_at_call 179;(with_reducible refine(c1.out _).mono ?_);rintro e w' ⟨rfl,rfl⟩)|(go_at_call 75;(with_reducible refine(c3.out _).mono ?_);rintro e w' ⟨rfl,rfl⟩)|(go_at_call 75;(with_reducible refine(c4.out _).mono ?_);rintro e w' ⟨rfl,rfl⟩))
        go_ret
        exact⟨aC e2.out,H0.trans ((HB.mono (by omega)).trans ((GZ4 _ _).alloc (by omega) _))⟩
      ·have c3:=Hp (fun W=>RQ sy (-1) (im.length -1) W (by omega))
       have e1:=Hp (hrng.out (by omega))
       have e2:=Hp ((e1.symm).trans (he.out (by rw[e1.out];omega)))
       clear b1
       go_wp2_with (first|(go_at_call 179;(with_reducible refine(c1.out _).mono ?_);rintro e w' ⟨rfl,rfl⟩)|(go_at_call 75;(with_reducible refine(c3.out _).mono ?_);rintro e w' ⟨rfl,rfl⟩))
       go_ret
       exact⟨aC e2.out,H0.trans ((HB.mono (by omega)).trans ((GZ4 _ _).alloc (by omega) _))⟩
    ·have e1:=Hp ((vN (z:=tx.size) (ni:=im.length) (e:=en) hlt).symm.trans HE.out)
     clear hb
     go_wp2_with fail
     go_ret
     exact⟨aC e1.out,H0.trans (HB.mono (by omega))⟩
end
section
open Go.RowKit
def Tk (T:Nat)(S:List UInt8)(st:Rest)(w:World):Prop:=
 ∃at_:Nat,w.heap[T]? =some (.cells #[.string (sof S),.int .i64 at_,.bool st.isNone] 244 (0,0))/\at_<=S.length/\(st=none\/st=some (S.drop at_))
end
section
open Go.RowKit
theorem Tk.kp {T:Nat}{S:List UInt8}{st:Rest}{w w':World}(h:Tk T S st w)(ho:Only T w w'):Kp [244] w w':=by
 obtain⟨a,hh,_⟩:=h
 exact ho.kp hh (by simp)
end
end Go.Proofs.YtjiedaialianmaaGreat
