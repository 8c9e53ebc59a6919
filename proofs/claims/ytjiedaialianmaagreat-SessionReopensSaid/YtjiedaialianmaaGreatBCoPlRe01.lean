import Derived.Test.YtjiedaialianmaaGreatA13
import Derived.Test.YtjiedaialianmaaGreatBCoPlReRu01
set_option maxHeartbeats 2000000
namespace Go.Proofs.YtjiedaialianmaaGreat
section
theorem Md (l:List UInt8)(c:UInt8):num (l++[c])=num l+(c.toNat:Int)*dV l.length:=by
 induction l with
 |nil=>simp[num,dV]
 |cons b l ih=>
  simp only[List.cons_append,num,ih,dV,GY8,Int.mul_add]
  rw[show(c.toNat:Int)*(256*dV l.length)=256*((c.toNat:Int)*dV l.length) from by rw[<-Int.mul_assoc,Int.mul_comm (c.toNat:Int) 256,Int.mul_assoc]]
  omega
end
section
open Go.RowKit
theorem Jh {P:Program}{f:FuncId}{args:Array Value}{w:World}{n:Nat}{v:Value}
  (h:Calls P f args (w.drewN n) fun e w'=>e=.returned v/\w.drewN n=w'):Calls P f args (w.drewN n) fun e w''=>e=.returned v/\∃m,w''=w.drewN m:=
 h.mono fun _ _ ⟨he,hm⟩=>⟨he,n,hm.symm⟩
end
section
open Go.RowKit
theorem Np (s:ByteArray)(a k:Nat)(w:World)(hs:s.size<=140737488351232)(hok:eQ s.size a k=0):
  Calls Tryz.prog 242 #[.string s,.int .i64 a,.int .i64 k] w fun e w'=>e=.returned (.int .i64 (num ((s.data.toList.drop a).take k)))/\Below w.heap.size w w':=by
 obtain⟨h1,h2,h3,h4,h5⟩:=mG hok
 go_enter Tryz.func242,Tryz.ntmps242
 go_wp2_with fail
 go_loopw [7,8] (fun v i wr=>∃j:Nat,j<=k/\i=.int .i64 j/\v=.int .i64 (num ((s.data.toList.drop a).take j))/\Below w.heap.size w wr) (fun _ i _=>k -(intOf i).toNat)
 case atStart=>exact⟨0,by omega,by go_num,by simp[num],GZ4 _ _⟩
 case round=>
  obtain⟨j,hj,rfl,rfl,hbl⟩:=hrel
  by_cases hlt:j<k
  ·have hsz:a+j<s.size:=by omega
   have q1:IntKind.i64.wrap ((a:Int)+j)=(a:Int)+j:=IntWalk.i64_in _ (by omega)
   have q2:(0:Int)<=(a:Int)+j:=by omega
   have q3:((a:Int)+j).toNat=a+j:=by omega
   have q4:IntKind.i64.wrap (8*(j:Int))=8*(j:Int):=IntWalk.i64_in _ (by omega)
   have q5:(a:Int)+j<s.size:=by omega
   go_wp2_with fail
   go_quiet ((go_at_call 205;exact Jh (OD _ _ (by omega))))
   clear q4
   go_wp2_with fail
   go_roundw
   case rel=>
    refine⟨j+1,by omega,by go_num,?_,below_drewN hbl _⟩
    have hlen:a+j<s.data.toList.length:=by have:s.data.toList.length=s.size:=rfl;omega
    have e1:(s.data.toList.drop a).take (j+1)=(s.data.toList.drop a).take j++[s[a+j]]:=by
     rw[List.take_succ_eq_append_getElem (by simp;omega)];simp;rfl
    have hl:((s.data.toList.drop a).take j).length=j:=by simp;omega
    have hb0:=num_nonneg ((s.data.toList.drop a).take j)
    have hb1:=EP ((s.data.toList.drop a).take j)
    have hp:=Em j (by omega)
    have hp0:=nA j
    rw[e1,Md,hl]
    rw[hl]at hb1
    have hc:=UInt8.toNat_lt s[a+j]
    have hm0:0<=(s[a+j].toNat:Int)*dV j:=Int.mul_nonneg (by omega) (by omega)
    have hm1:(s[a+j].toNat:Int)*dV j<=256*4294967296:=Int.mul_le_mul (by omega) hp (by omega) (by omega)
    have w1:wrap64 (s[a+j].toNat:Int)=s[a+j].toNat:=IntWalk.wrap64_in _ (by omega)
    rw[w1]
    generalize(s[a+j].toNat:Int)*dV j=q at*
    rw[IntWalk.wrap64_in q (by omega),IntWalk.wrap64_in _ (by omega)]
   case measure=>simp[intOf]<;>omega
  ·obtain rfl:j=k:=by omega
   go_wp2_with fail
   go_ret
   exact⟨rfl,hbl⟩
end
section
set_option maxRecDepth 100000
open Go.RowKit
theorem Only.drewN {B:Nat}{w w':World}(h:Only B w w')(n:Nat):Only B w (w'.drewN n):=⟨h.os,h.tape,h.output,h.size,h.block⟩
theorem AV (T:Nat)(S:List UInt8)(st:Rest)(n:Nat)(w:World)(h:Tk T S st w)(hS:S.length<=big)(hn:n<=100000):
  Calls Tryz.prog 209 #[.pointer (some ⟨T,0,none⟩),.int .i64 n] w fun e w'=>e=.returned (.string (sof (txt n st).1))/\Tk T S (txt n st).2 w'/\Only T w w':=by
 obtain⟨a,hh,ha,hst⟩:=h
 have c0:=heap_cell hh 0
 have c1:=heap_cell hh 1
 have c2:=heap_cell hh 2
 have f1:=heap_free hh 1
 have f2:=heap_free hh 2
 simp only[GZ2,GZ1,GZ0]at c0 c1 c2
 have HH:=Hp hh
 have hsz:=kH S
 unfold big at hS
 clear hh
 cases st with
 |none=>
  simp only[Option.isNone_none]at c2
  clear hst
  go_enter Tryz.func209,Tryz.ntmps209
  go_wp2_with fail
  go_quiet (fail)
  go_wp2_with fail
  go_ret
  exact⟨rfl,⟨a,heap_setCell_same _ T 2 _ _ _ HH.out,ha,.inl rfl⟩,((Only.refl T w).drewN _).trans (Only.set 2 _)⟩
 |some s=>
  simp only[Option.isNone_some]at c2
  have hs:s=S.drop a:=by
   rcases hst with h|h
   ·cases h
   ·exact GY3 h
  have HS:=Hp hs
  obtain⟨d,hd⟩:=Nm (S.length -a)
  have hsl:s.length=d:=by rw[hs,List.length_drop,hd]
  have q1:IntKind.i64.wrap ((S.length:Int) -a)=d:=by rw[IntWalk.i64_in _ (by omega)];omega
  by_cases t0:d<n
  ·have t0':(d:Int)<n:=by omega
   have HT:=Hp (wN (n:=n) (s:=s) (by omega))
   clear hst hs hd hsl
   go_enter Tryz.func209,Tryz.ntmps209
   go_wp2_with fail
   go_quiet (fail)
   go_wp2_with fail
   go_ret
   exact⟨by rw[HT.out];rfl,⟨a,by rw[HT.out];exact heap_setCell_same _ T 2 _ _ _ HH.out,ha,.inl (by rw[HT.out])⟩,((Only.refl T w).drewN _).trans (Only.set 2 _)⟩
  ·have t0':decide ((d:Int)<n)=false:=by simp;omega
   obtain⟨b,hb⟩:=Nm (a+n)
   have q2:IntKind.i64.wrap ((a:Int)+n)=b:=by rw[IntWalk.i64_in _ (by omega)];omega
   have q3:IntKind.i64.wrap ((b:Int) -n)=a:=by rw[IntWalk.i64_in _ (by omega)];omega
   have q4:(0:Int)<=a:=by omega
   have q5:(a:Int)<=b:=by omega
   have q6:(b:Int)<=S.length:=by omega
   have HT:=Hp (oU (n:=n) (s:=s) (by omega))
   have HB:=Hp hb
   have hbS:b<=S.length:=by omega
   clear hst hs hd hsl hb
   go_enter Tryz.func209,Tryz.ntmps209
   go_wp2_with fail
   go_quiet (fail)
   go_wp2_with fail
   go_quiet (fail)
   go_wp2_with fail
   go_ret
   have e1:(sof S).extract a b=sof (txt n (some s)).1:=by
    rw[HT.out,Tw,HS.out,List.drop_take,show b -a=n by have:=HB.out;omega]
   refine⟨by rw[<-e1];rfl,⟨b,?_,hbS,.inr (by rw[HT.out,HS.out,List.drop_drop,HB.out])⟩,?_⟩
   ·rw[HT.out]
    exact heap_setCell_same _ T 1 _ _ _ HH.out
   ·exact(((Only.refl T w).drewN _).trans (Only.set 1 _)).drewN _
theorem dQ (T:Nat)(S:List UInt8)(st:Rest)(k:Nat)(w:World)(h:Tk T S st w)(hS:S.length<=big)(hk1:1<=k)(hk:k<=4):
  Calls Tryz.prog 208 #[.pointer (some ⟨T,0,none⟩),.int .i64 k] w fun e w'=>e=.returned (.int .i64 (aI k st).1)/\Tk T S (aI k st).2 w'/\Only T w w':=by
 have hTw:T<w.heap.size:=by obtain⟨a,hh,_⟩:=h;exact(ZL hh)
 have cT:=Hp (AV T S st k w h hS (by omega))
 have hln:=lI k st
 have hnn:(txt k st).2=none->(txt k st).1=[]:=fun hn=>by
  cases st with
  |none=>rfl
  |some s=>
   by_cases hs:s.length<k
   ·rw[wN hs]
   ·rw[oU hs]at hn;cases hn
 have e1:(aI k st).1=num (txt k st).1:=rfl
 have e2:(aI k st).2=(txt k st).2:=rfl
 rw[e1,e2]
 generalize txt k st=Q at*
 obtain⟨t,st2⟩:=Q
 simp only at cT hln hnn e1 e2 ⊢
 clear e1 e2 h
 have hsz:=kH t
 cases st2 with
 |none=>
  obtain rfl:=hnn rfl
  clear hln hnn
  go_enter Tryz.func208,Tryz.ntmps208
  go_wp2_with (go_at_call 209;refine(cT.out).mono ?_;rintro e w2 ⟨rfl,h2,ho2⟩;have H2:=Hp h2;obtain⟨a,hh,_⟩:=h2;have c2:=heap_cell hh 2;simp only[GZ2,GZ1,GZ0,Option.isNone_none]at c2;clear hh)
  go_ret
  exact⟨rfl,H2.out,ho2⟩
 |some r=>
  have hlk:t.length=k:=by
   rcases hln with h|⟨_,h⟩
   ·exact h
   ·cases h
  have cG:=Hp (fun W=>Np (sof t) 0 k W (by rw[hsz];omega) (by rw[hsz];exact pU (by omega) (by omega) (by omega) (by omega)))
  have hd:((sof t).data.toList.drop 0).take k=t:=by simp[<-hlk]
  rw[hd]at cG
  change Hid (∀W,Calls _ _ #[.string (sof t),.int .i64 0,.int .i64 k] W _)at cG
  clear hd hln hnn hlk
  go_enter Tryz.func208,Tryz.ntmps208
  go_wp2_with (first|(go_at_call 209;refine(cT.out).mono ?_;rintro e w2 ⟨rfl,h2,ho2⟩;have H2:=Hp h2;obtain⟨a,hh,ha2⟩:=h2;have c2:=heap_cell hh 2;simp only[GZ2,GZ1,GZ0,Option.isNone_some]at c2;clear hh ha2)|(go_at_call 242;with_reducible refine(cG.out _).mono ?_;rintro e w3 ⟨rfl,hb3⟩))
  go_ret
  have hT2:T<w2.heap.size:=GY0 hTw ho2.size
  refine⟨rfl,?_,ho2.trans ⟨hb3.os,hb3.tape,hb3.output,hb3.size,fun k hk _=>hb3.block k hk⟩⟩
  obtain⟨a,hh,h4⟩:=H2.out
  exact⟨a,(hb3.block T hT2).trans hh,h4⟩
theorem rE (T:Nat)(S:List UInt8)(st:Rest)(w:World)(h:Tk T S st w)(hS:S.length<=big):
  Calls Tryz.prog 207 #[.pointer (some ⟨T,0,none⟩)] w fun e w'=>e=.returned (.string (sof (nam st).1))/\Tk T S (nam st).2 w'/\Only T w w':=by
 have c1:=Hp (dQ T S st 1 w h hS (by omega) (by omega))
 have h1:=(dZ 1 st (by omega)).1
 have h2:=Ru st
 have en:nam st=txt (aI 1 st).1.toNat (aI 1 st).2:=rfl
 rw[en]
 generalize aI 1 st=Q at*
 obtain⟨n,st2⟩:=Q
 simp only at c1 h1 h2 ⊢
 obtain⟨k,rfl⟩:∃k:Nat,n=k:=⟨n.toNat,by omega⟩
 have c2:=Hp (fun W hW=>AV T S st2 k W hW hS (by omega))
 have ek:((k:Int)).toNat=k:=by omega
 rw[ek]
 change Hid (Calls _ _ #[_,.int .i64 1] w _)at c1
 clear h en ek
 go_enter Tryz.func207,Tryz.ntmps207
 go_wp2_with (first|(go_at_call 208;refine(c1.out).mono ?_;rintro e w2 ⟨rfl,h2,ho2⟩;have H2:=Hp h2;clear h2)|(go_at_call 209;refine(c2.out _ H2.out).mono ?_;rintro e w3 ⟨rfl,h3,ho3⟩;have H3:=Hp h3;clear h3))
 go_ret
 exact⟨rfl,H3.out,ho2.trans ho3⟩
end
end Go.Proofs.YtjiedaialianmaaGreat
