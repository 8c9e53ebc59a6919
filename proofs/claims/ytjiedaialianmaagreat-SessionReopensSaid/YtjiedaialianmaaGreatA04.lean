import Derived.Test.YtjiedaialianmaaGreatA01
import Derived.Shelf.GgClosure.StringsIndexFunc
import Derived.Lib.MapLaws
set_option maxRecDepth 1000000
set_option maxHeartbeats 4000000
namespace Go.Proofs.YtjiedaialianmaaGreat
section
open Go.RowKit
theorem nI (n a b:Int)(w:World):
  Calls Tryz.prog 153 #[.int .i64 n,.int .i64 a,.int .i64 b] w fun e w'=>e=.returned (.bool (decide (a<=n)&&decide (n<=b)))/\w=w':=by
 go_enter Tryz.func153,Tryz.ntmps153
 go_wp2_with fail
 all_goals(go_ret;exact⟨aV (by rw[Bool.eq_iff_iff];simp;omega),rfl⟩)
theorem VW (c:Int)(w:World):
  Calls Tryz.prog 233 #[.int .u8 c] w fun e w'=>e=.returned (.bool (decide (97<=c)&&decide (c<=122)))/\w=w':=by
 go_enter Tryz.func233,Tryz.ntmps233
 go_wp2_with fail
 all_goals(go_ret;exact⟨aV (by rw[Bool.eq_iff_iff];simp;omega),rfl⟩)
theorem Ce (g:Nat)(lb:Array Value)(eg:∀args w,(callFunc g args).run Tryz.prog w=.ok (.enter g args) w)(p:Nat->Bool)(truth:Bool)(s:ByteArray)(w:World)(hp:PredAt Tryz.prog g lb encR p w):
  Calls Tryz.prog 260 #[.string s,.func (.func g) #[] lb,.bool truth] w fun e w'=>e=.returned (.int .i64 (Lib.idxFunc p truth s))/\Below w.heap.size w w':=by
 go_enter Tryz.func260,Tryz.ntmps260
 go_wp2_with fail
 go_loopg [] s.size (fun gf wx=>∃pos:Nat,wx.heap[w.heap.size]? =some (.stringIter s pos)/\Below w.heap.size w wx/\Lib.idxFuncFrom p truth s gf pos=Lib.idxFunc p truth s/\s.size<=pos+gf)
 case atStart=>exact⟨0,World.iter_heap w s 0,(GZ4 _ w).alloc (GZ3 _) _,rfl,by omega⟩
 case round=>
  obtain⟨pos,hit,hbw,hleft,hfu⟩:=hrel
  by_cases hps:pos<s.size
  ·obtain⟨g',rfl⟩:∃g',gk=g'+1:=⟨gk -1,by omega⟩
   have hnx:∀ty,(Instr.next (.pointer (some ⟨w.heap.size,0,none⟩)) true ty).run Tryz.prog wr=_:=fun ty=>Lib.run_next_any_at wr w.heap.size s pos ty hit hps
   have hwd:=Lib.width_pos s pos
   obtain⟨R,hR⟩:∃R,(Utf8.decode s pos).1=R:=⟨_,rfl⟩
   obtain⟨K,hK⟩:∃K,(Utf8.decode s pos).2=K:=⟨_,rfl⟩
   simp only[Lib.idxFuncFrom,hps,if_true,hR,hK]at hleft
   rw[hR,hK]at hnx
   rw[hK]at hwd
   have hit2:=Lib.iterAt_heap wr w.heap.size s pos (pos+K) hit
   have hbw2:=Lib.below_iterAt hbw (k:=w.heap.size) (GZ3 _) s (pos+K)
   obtain⟨W,hWd⟩:∃W,wr.iterAt w.heap.size s (pos+K)=W:=⟨_,rfl⟩
   rw[hWd]at hnx hit2 hbw2
   have cS:Calls Tryz.prog g (#[.int .i32 (R:Int)]++lb) W _:=hp W R hbw2
   clear hp
   cases hsp:p R<;>cases truth<;>rw[hsp]at cS<;>simp only[hsp,if_true,Bool.false_eq_true,Bool.true_eq_false,if_false]at hleft
   ·go_wp2_with (go_at_fn g;refine cS.mono ?_;rintro e W' ⟨rfl,q,rfl⟩)
    go_ret
    exact⟨by rw[<-hleft]<;>rfl,below_drewN' hbw2 q⟩
   ·go_wp2_with (go_at_fn g;refine cS.mono ?_;rintro e W' ⟨rfl,q,rfl⟩)
    go_roundg g'
    case measure=>omega
    case rel=>exact⟨pos+K,hit2,below_drewN' hbw2 q,hleft,by omega⟩
   ·go_wp2_with (go_at_fn g;refine cS.mono ?_;rintro e W' ⟨rfl,q,rfl⟩)
    go_roundg g'
    case measure=>omega
    case rel=>exact⟨pos+K,hit2,below_drewN' hbw2 q,hleft,by omega⟩
   ·go_wp2_with (go_at_fn g;refine cS.mono ?_;rintro e W' ⟨rfl,q,rfl⟩)
    go_ret
    exact⟨by rw[<-hleft]<;>rfl,below_drewN' hbw2 q⟩
  ·have hnx:∀ty,(Instr.next (.pointer (some ⟨w.heap.size,0,none⟩)) true ty).run Tryz.prog wr=_:=fun ty=>Lib.run_next_end_at wr w.heap.size s pos ty hit hps
   rw[Lib.idxFuncFrom_end p truth s gk pos hps]at hleft
   go_wp2_with fail
   go_ret
   exact⟨by rw[<-hleft]<;>rfl,hbw⟩
theorem CV (g:Nat)(lb:Array Value)(eg:∀args w,(callFunc g args).run Tryz.prog w=.ok (.enter g args) w)(p:Nat->Bool)(s:ByteArray)(w:World)(hp:PredAt Tryz.prog g lb encR p w):
  Calls Tryz.prog 234 #[.string s,.func (.func g) #[] lb] w fun e w'=>e=.returned (.int .i64 (Lib.idxFunc p true s))/\Below w.heap.size w w':=by
 have c:=Hp (Ce g lb eg p true s w hp)
 go_enter Tryz.func234,Tryz.ntmps234
 go_wp2_with (go_at_call 260;refine c.mono ?_;rintro e w' ⟨rfl,hb⟩)
 go_ret
 exact⟨rfl,hb⟩
def jJ (r:Nat):Bool:=decide (126<r) || !((decide (97<=r)&&decide (r<=122)) || (decide (48<=r)&&decide (r<=57)) || decide (r=95))
theorem NK (w:World):PredAt Tryz.prog 232 #[] encR jJ w:=fun W r _=>by
 unfold FnGives
 by_cases h0:126<r
 ·have z0:(126:Int)<(r:Int):=by omega
  go_enter Tryz.func232,Tryz.ntmps232
  go_wp2_with fail
  go_ret
  exact⟨by simp[jJ,h0],0,rfl⟩
 ·have z0:decide ((126:Int)<(r:Int))=false:=by simp;omega
  have z1:IntKind.u8.wrap (r:Int)=r:=by simp[IntKind.wrap_u8];omega
  have c:=Hp (fun W=>VW (r:Int) W)
  by_cases h1:(97<=r/\r<=122)
  ·have hl:(decide ((97:Int)<=r)&&decide ((r:Int)<=122))=true:=by simp;omega
   go_enter Tryz.func232,Tryz.ntmps232
   go_wp2_with (go_at_call 233;refine(c.out _).mono ?_;rintro e w' ⟨rfl,rfl⟩;try rw[hl])
   all_goals(go_ret;exact⟨by simp[jJ,h0,h1],0,rfl⟩)
  ·have hl:(decide ((97:Int)<=r)&&decide ((r:Int)<=122))=false:=by simp;omega
   have c2:=Hp (fun W=>(gU (r:Int) 48 57 W))
   by_cases h2:(48<=r/\r<=57)
   ·go_enter Tryz.func232,Tryz.ntmps232
    go_wp2_with (first|(go_at_call 233;refine(c.out _).mono ?_;rintro e w' ⟨rfl,rfl⟩;try rw[hl])|(go_at_call 217;refine(c2.out _).mono ?_;rintro e w' ⟨rfl,rfl⟩))
    all_goals(go_ret;exact⟨by simp[jJ,h0,h2],0,rfl⟩)
   ·go_enter Tryz.func232,Tryz.ntmps232
    go_wp2_with (first|(go_at_call 233;refine(c.out _).mono ?_;rintro e w' ⟨rfl,rfl⟩;try rw[hl])|(go_at_call 217;refine(c2.out _).mono ?_;rintro e w' ⟨rfl,rfl⟩))
    all_goals(go_ret;exact⟨aV (by rw[Bool.eq_iff_iff];simp[jJ,h0];omega),0,rfl⟩)
theorem IA (s:ByteArray)(pos:Nat)(h:pos<s.size):(s[pos].toNat<128/\Utf8.decode s pos=(s[pos].toNat,1))\/(128<=s[pos].toNat/\128<=(Utf8.decode s pos).1):=by
 rw[Lib.decode_at]
 have e:s.get! pos=s[pos]:=by
  simp[ByteArray.get!,ByteArray.getElem_eq_getElem_data,getElem!_pos,h]
 rw[e]
 rcases Lib.decodeN_shape (s.size -pos) s[pos].toNat (s.get! (pos+1)).toNat (s.get! (pos+2)).toNat (s.get! (pos+3)).toNat with h1|h1|h1|h1|h1
 ·exact .inl h1
 ·refine .inr ⟨by omega,?_⟩;rw[h1.2.2.2.2];exact h1.2.2.2.1
 ·refine .inr ⟨by omega,?_⟩;rw[h1.2.2.2.2.2.2];show 128<=_;have:=h1.2.2.2.2.1;omega
 ·refine .inr ⟨by omega,?_⟩;rw[h1.2.2.2.2.2.2.2];show 128<=_;have:=h1.2.2.2.2.2.1;omega
 ·by_cases hb:s[pos].toNat<128
  ·refine .inl ⟨hb,?_⟩
   have:Lib.decodeN (s.size -pos) s[pos].toNat (s.get! (pos+1)).toNat (s.get! (pos+2)).toNat (s.get! (pos+3)).toNat=(s[pos].toNat,1):=by
    unfold Lib.decodeN;rw[if_pos hb]
   exact this
  ·refine .inr ⟨by omega,?_⟩;rw[h1];show 128<=_;omega
theorem QU (c:UInt8):jJ c.toNat=!fC c:=by
 have:=c.toNat_lt
 unfold jJ fC
 rw[Bool.eq_iff_iff];simp;omega
theorem sJ (s:ByteArray):∀f pos,s.size<=pos+f->(Lib.idxFuncFrom jJ true s f pos<0↔(s.data.toList.drop pos).all fC=true)
 |0,pos,h=>by
  rw[List.drop_eq_nil_of_le (by simpa using h)]
  simp[Lib.idxFuncFrom]
 |f+1,pos,h=>by
  unfold Lib.idxFuncFrom
  by_cases hp:pos<s.size
  ·rw[if_pos hp,GY4 (by simpa using hp)]
   have e:s.data.toList[pos]'(by simpa using hp)=s[pos]:=by simp[ByteArray.getElem_eq_getElem_data]
   rw[e,List.all_cons]
   rcases IA s pos hp with⟨h1,h2⟩|⟨h1,h2⟩
   ·rw[h2]
    simp only[QU]
    cases hk:fC s[pos]
    ·simp
    ·simp only[Bool.not_true,Bool.false_eq_true,if_false,Bool.true_and]
     exact sJ s f (pos+1) (by omega)
   ·have hb:jJ (Utf8.decode s pos).1=true:=by unfold jJ;simp;omega
    have ho:fC s[pos]=false:=by unfold fC;simp;omega
    rw[if_pos hb,ho];simp
  ·rw[if_neg hp,List.drop_eq_nil_of_le (by simpa using hp)]
   simp
theorem O7 (s:ByteArray):decide (Lib.idxFunc jJ true s<0)=s.data.toList.all fC:=by
 have:=sJ s s.size 0 (by omega)
 rw[List.drop_zero]at this
 rw[Bool.eq_iff_iff,decide_eq_true_eq];exact this
theorem Bg (s:ByteArray)(h:0<s.size):mJ s.data.toList=(decide ((97:Int)<=(s[0].toNat:Int))&&decide ((s[0].toNat:Int)<=122)):=by
 have e:s.data.toList=s[0]::s.data.toList.drop 1:=by
  have:=GY4 (l:=s.data.toList) (i:=0) (by simpa using h)
  simpa[ByteArray.getElem_eq_getElem_data]using this
 rw[e];unfold mJ
 rw[Bool.eq_iff_iff];simp;omega
theorem qY (s:ByteArray)(w:World)(hs:s.size<=big):
  Calls Tryz.prog 181 #[.string s] w fun e w'=>e=.returned (.bool (isName s))/\Below w.heap.size w w':=by
 unfold big at hs
 have HB:=Hp (GZ4 w.heap.size w)
 by_cases h0:s.size=0
 ·have hn:isName s=false:=by
   have:s.data.toList=[]:=GY9 (by simpa using h0)
   unfold isName;rw[this];simp[mJ]
  rw[hn];clear hn
  go_enter Tryz.func181,Tryz.ntmps181
  go_wp2_with fail
  all_goals(go_ret;exact⟨rfl,HB.out⟩)
 by_cases h1:10<s.size
 ·have hn:isName s=false:=by unfold isName;simp;omega
  rw[hn];clear hn
  have z0:(10:Int)<s.size:=by omega
  go_enter Tryz.func181,Tryz.ntmps181
  go_wp2_with fail
  all_goals(go_ret;exact⟨rfl,HB.out⟩)
 have h2:0<s.size:=by omega
 have z1:(1:Int)<=s.size:=by omega
 have z2:(s.size:Int)<=10:=by omega
 have c1:=Hp (fun W=>(VW (s[0].toNat:Int) W).mono fun _ _ h=>(⟨h.1.trans (aV (Bg s h2).symm),h.2⟩:_=Ending.returned (.bool (mJ s.data.toList))/\_))
 cases hl:mJ s.data.toList
 ·have hn:isName s=false:=by unfold isName;simp[hl]
  rw[hl]at c1
  rw[hn];clear hn hl
  go_enter Tryz.func181,Tryz.ntmps181
  go_wp2_with (go_at_call 233;refine(c1.out _).mono ?_;rintro e w' ⟨rfl,rfl⟩)
  all_goals(go_ret;exact⟨rfl,HB.out⟩)
 ·have hn:isName s=s.data.toList.all fC:=by unfold isName;simp[hl];omega
  rw[hl]at c1
  rw[hn,<-O7];clear hn hl
  have c2:=Hp (fun W=>CV 232 #[] (enters_of Tryz.func232 (by kernel_rfl) rfl) jJ s W (NK W))
  obtain⟨r,hr⟩:=Nm (Lib.idxFunc jJ true s)
  rw[<-hr]at c2 ⊢
  clear hr
  go_enter Tryz.func181,Tryz.ntmps181
  go_wp2_with (first|(go_at_call 233;refine(c1.out _).mono ?_;rintro e w' ⟨rfl,rfl⟩)|(go_at_call 234;refine(c2.out _).mono ?_;rintro e w1 ⟨rfl,hb⟩))
  all_goals(go_ret;first|exact⟨by simp[*],hb⟩|exact⟨by simp,hb⟩)
theorem Nv (p:UInt8->Bool)(s:ByteArray)(j:Nat)(h:j<s.size):(s.data.toList.take (j+1)).all p=((s.data.toList.take j).all p&&p s[j]):=by
 have e:=List.take_append_getElem (l:=s.data.toList) (i:=j) (by simpa using h)
 rw[<-e,List.all_append];simp[ByteArray.getElem_eq_getElem_data]
theorem QK (p:UInt8->Bool)(s:ByteArray)(j:Nat)(h:j<s.size)(hp:p s[j]=false):s.data.toList.all p=false:=by
 rw[List.all_eq_false]
 exact⟨s[j],by rw[show s[j]=s.data.toList[j]'(by simpa using h) by simp[ByteArray.getElem_eq_getElem_data]];exact GZ9 _,by simp[hp]⟩
theorem Od (p:UInt8->Bool)(s:ByteArray)(j:Nat)(h:¬j<s.size)(hp:(s.data.toList.take j).all p=true):s.data.toList.all p=true:=by
 rwa [List.take_of_length_le (by simp;omega)]at hp
theorem Sl (s:ByteArray)(w:World)(hs:s.size<=big):
  Calls Tryz.prog 142 #[.string s] w fun e w'=>e=.returned (.bool (isName s))/\w=w':=by
 unfold big at hs
 by_cases h0:s.size=0
 ·have hn:isName s=false:=by
   have:s.data.toList=[]:=GY9 (by simpa using h0)
   unfold isName;rw[this];simp[mJ]
  rw[hn];clear hn
  go_enter Tryz.func142,Tryz.ntmps142
  go_wp2_with (first|(go_at_call 75;(with_reducible refine(RQ _ _ _ _ ?_).mono ?_);(focus (first|omega|assumption));rintro e w' ⟨rfl,rfl⟩))
  all_goals(go_ret;exact⟨rfl,rfl⟩)
 by_cases h1:10<s.size
 ·have hn:isName s=false:=by unfold isName;simp;omega
  rw[hn];clear hn
  have z0:(10:Int)<s.size:=by omega
  go_enter Tryz.func142,Tryz.ntmps142
  go_wp2_with (first|(go_at_call 75;(with_reducible refine(RQ _ _ _ _ ?_).mono ?_);(focus (first|omega|assumption));rintro e w' ⟨rfl,rfl⟩))
  all_goals(go_ret;exact⟨rfl,rfl⟩)
 have h2:0<s.size:=by omega
 have z1:(1:Int)<=s.size:=by omega
 have z2:(s.size:Int)<=10:=by omega
 have c0:=Hp (fun W=>bK s.size 1 10 W z1 z2)
 have q0:wrap64 (s[0].toNat:Int)=s[0].toNat:=by have:=s[0].toNat_lt;exact IntWalk.wrap64_in _ (by omega)
 have c1:=Hp (fun W=>(bE (s[0].toNat:Int) 97 122 W).mono fun _ _ h=>(⟨h.1.trans (aV (Bg s h2).symm),h.2⟩:_=Ending.returned (.bool (mJ s.data.toList))/\_))
 cases hl:mJ s.data.toList
 ·have hn:isName s=false:=by unfold isName;simp[hl]
  rw[hl]at c1
  rw[hn];clear hn hl
  go_enter Tryz.func142,Tryz.ntmps142
  go_wp2_with (first|(go_at_call 75;(with_reducible refine(c0.out _).mono ?_);rintro e w' ⟨rfl,rfl⟩)|(go_at_call 75;(with_reducible refine(c1.out _).mono ?_);rintro e w' ⟨rfl,rfl⟩))
  all_goals(go_ret;exact⟨rfl,rfl⟩)
 ·have hn:isName s=s.data.toList.all fC:=by unfold isName;simp[hl];omega
  rw[hl]at c1
  obtain⟨B,hB⟩:=Nm (s.data.toList.all fC)
  rw[hn,<-hB];clear hn hl
  have HB:=Hp hB
  clear hB
  go_enter Tryz.func142,Tryz.ntmps142
  go_wp2_with (first|(go_at_call 75;(with_reducible refine(c0.out _).mono ?_);rintro e w' ⟨rfl,rfl⟩)|(go_at_call 75;(with_reducible refine(c1.out _).mono ?_);rintro e w' ⟨rfl,rfl⟩))
  go_loop [3,4] (fun i _=>∃j:Nat,j<=s.size/\i=.int .i64 j/\(s.data.toList.take j).all fC=true) (fun i _=>s.size -(intOf i).toNat)
  case atStart=>exact⟨0,by omega,rfl,by simp⟩
  case round=>
   obtain⟨j,hj,rfl,hall⟩:=hrel
   have HA:=Hp hall
   clear hall
   by_cases hlt:j<s.size
   ·have hlt':(j:Int)<s.size:=by omega
    have q1:wrap64 (s[j].toNat:Int)=s[j].toNat:=by have:=s[j].toNat_lt;exact IntWalk.wrap64_in _ (by omega)
    have d1:=Hp (fun W=>bE (s[j].toNat:Int) 97 122 W)
    have d2:=Hp (fun W=>bE (s[j].toNat:Int) 48 57 W)
    have ha:=Hp (Nv fC s j hlt)
    have hn:=Hp (QK fC s j hlt)
    by_cases k1:97<=s[j].toNat/\s[j].toNat<=122
    ·have o1:=Hp (show fC s[j]=true by unfold fC;simp;omega)
     rw[show(decide (97<=(s[j].toNat:Int))&&decide ((s[j].toNat:Int)<=122))=true by simp;omega]at d1
     clear k1
     go_wp2_with (first|(go_at_call 75;(with_reducible refine(d1.out _).mono ?_);rintro e w' ⟨rfl,rfl⟩))
     go_round
     case rel=>exact⟨j+1,by omega,by go_num,by rw[ha.out,HA.out,o1.out];rfl⟩
     case measure=>(simp[intOf];try omega)
    rw[show(decide (97<=(s[j].toNat:Int))&&decide ((s[j].toNat:Int)<=122))=false by simp;omega]at d1
    by_cases k2:48<=s[j].toNat/\s[j].toNat<=57
    ·have o1:=Hp (show fC s[j]=true by unfold fC;simp;omega)
     rw[show(decide (48<=(s[j].toNat:Int))&&decide ((s[j].toNat:Int)<=57))=true by simp;omega]at d2
     clear k1 k2
     go_wp2_with (first|(go_at_call 75;(with_reducible refine(d1.out _).mono ?_);rintro e w' ⟨rfl,rfl⟩)|(go_at_call 75;(with_reducible refine(d2.out _).mono ?_);rintro e w' ⟨rfl,rfl⟩))
     go_round
     case rel=>exact⟨j+1,by omega,by go_num,by rw[ha.out,HA.out,o1.out];rfl⟩
     case measure=>(simp[intOf];try omega)
    rw[show(decide (48<=(s[j].toNat:Int))&&decide ((s[j].toNat:Int)<=57))=false by simp;omega]at d2
    by_cases k3:s[j].toNat=95
    ·have o1:=Hp (show fC s[j]=true by unfold fC;simp;omega)
     have k4:((s[j].toNat:Int) != 95)=false:=by simp;omega
     clear k1 k2 k3
     go_wp2_with (first|(go_at_call 75;(with_reducible refine(d1.out _).mono ?_);rintro e w' ⟨rfl,rfl⟩)|(go_at_call 75;(with_reducible refine(d2.out _).mono ?_);rintro e w' ⟨rfl,rfl⟩))
     go_round
     case rel=>exact⟨j+1,by omega,by go_num,by rw[ha.out,HA.out,o1.out];rfl⟩
     case measure=>(simp[intOf];try omega)
    ·have o1:=Hp (hn.out (show fC s[j]=false by unfold fC;simp;omega))
     have k4:((s[j].toNat:Int) != 95)=true:=by simp;omega
     clear k1 k2 k3
     go_wp2_with (first|(go_at_call 75;(with_reducible refine(d1.out _).mono ?_);rintro e w' ⟨rfl,rfl⟩)|(go_at_call 75;(with_reducible refine(d2.out _).mono ?_);rintro e w' ⟨rfl,rfl⟩))
     go_ret
     exact⟨aV (HB.trans o1.out).symm,rfl⟩
   ·have o1:=Hp (Od fC s j hlt HA.out)
    go_wp2_with fail
    go_ret
    exact⟨aV (HB.trans o1.out).symm,rfl⟩
end
section
open Go.RowKit Go.Maps Go.WideMaps
theorem Tryz.law :Keyed Tryz.prog 9:=string_keyed Tryz.underlying9
theorem Tryz.Qy (w:World):(zeroValue 3).run Tryz.prog w=.ok (.int .i64 0) w:=by kernel_rfl
def Fq :Nat:=1000000000000000000
def cnt (ks:List ByteArray)(s:ByteArray):Int:=((ks.filter (fun k=>decide (k=s))).length:Nat)
theorem Aa (ks:List ByteArray)(x s:ByteArray):cnt (ks++[x]) s=if x=s then cnt ks s+1 else cnt ks s:=by
 unfold cnt;rw[List.filter_append,GZ8]
 by_cases h:x=s<;>simp[h]
theorem NC (ks:List ByteArray)(s:ByteArray):0<=cnt ks s/\cnt ks s<=ks.length:=by
 unfold cnt;have:=List.length_filter_le (fun k=>decide (k=s)) ks;omega
theorem KM {ks:List ByteArray}{s:ByteArray}:0<cnt ks s↔s∈ks:=by
 unfold cnt
 constructor
 ·intro h
  have:0<(ks.filter (fun k=>decide (k=s))).length:=by omega
  obtain⟨x,hx⟩:=List.exists_mem_of_length_pos this
  obtain⟨h1,h2⟩:=List.mem_filter.1 hx
  obtain rfl:x=s:=by simpa using h2
  exact h1
 ·intro h
  have:0<(ks.filter (fun k=>decide (k=s))).length:=List.length_pos_of_mem (List.mem_filter.2 ⟨h,by simp⟩)
  omega
theorem Q0 {ks:List ByteArray}{s:ByteArray}{n:Nat}(h:ks.length<=n)(hn:n<=140737488351232):(Lit.int .i64 (cnt ks s+1)).wf=true:=by
 have:=NC ks s
 exact WalkArith.wf_i64 (by omega)
theorem BP {ks:List ByteArray}{s:ByteArray}{n:Nat}(h:ks.length<=n)(hn:n<=140737488351232):wrap64 (cnt ks s+1)=cnt ks s+1:=by
 have:=NC ks s
 exact IntWalk.wrap64_in _ (by omega)
def Ra (w:World)(b n:Nat)(ks:List ByteArray):Prop:=
 ∃D:DataW Unit,w.ownsMap Tryz.prog 9 (plainElem Tryz.prog 3) b n D/\∀s:ByteArray,D.atKey (.string s.data.toList) (.lit (.int .i64 0))=.lit (.int .i64 (cnt ks s))
theorem Ra.put {w w':World}{b n:Nat}{ks:List ByteArray}{D:DataW Unit}{x:ByteArray}(h0:w.ownsMap Tryz.prog 9 (plainElem Tryz.prog 3) b n D)
  (h:w'.ownsMap Tryz.prog 9 (plainElem Tryz.prog 3) b (n+1) (D.put (.string x.data.toList) (.lit (.int .i64 (cnt ks x+1)))))
  (hD:∀s:ByteArray,D.atKey (.string s.data.toList) (.lit (.int .i64 0))=.lit (.int .i64 (cnt ks s))):
  ∀s:ByteArray,(D.put (.string x.data.toList) (.lit (.int .i64 (cnt ks x+1)))).atKey (.string s.data.toList) (.lit (.int .i64 0))=.lit (.int .i64 (cnt (ks++[x]) s)):=by
 intro s
 have hm:IsMap D:=by obtain⟨es,clock,_,_,_,rfl⟩:=h0;exact⟨_,rfl⟩
 rw[Aa]
 by_cases e:x=s
 ·subst e
  rw[if_pos rfl]
  exact atKey_put_same hm (by simp[WideAt.IsKeyLit]) _ _
 ·rw[if_neg e,atKey_put_other,hD]
  intro h
  simp only[Lit.string.injEq]at h
  exact e (ba_eq h.symm)
theorem Ra.alloc {w:World}{b n:Nat}{ks:List ByteArray}(h:Ra w b n ks)(o:Obj):Ra (w.alloc o) b n ks:=by
 obtain⟨D,h1,h2⟩:=h;exact⟨D,h1.alloc o,h2⟩
theorem Ra.lt {w:World}{b n:Nat}{ks:List ByteArray}(h:Ra w b n ks):b<w.heap.size:=by
 obtain⟨D,h1,h2⟩:=h;exact h1.lt
theorem Ra.kept {w w':World}{b n B:Nat}{ks:List ByteArray}(h:Ra w b n ks)(hb:Below B w w')(hB:b<B):Ra w' b n ks:=by
 obtain⟨D,⟨es,clock,hb',F,hs,hD⟩,h2⟩:=h
 exact⟨D,⟨es,clock,(hb.block b hB).trans hb',F,hs,hD⟩,h2⟩
theorem Ra.made (w:World):Ra (w.alloc (.map #[] 0)) w.heap.size 0 []:=⟨.map [],World.ownsMap_made _ _ _ _,fun _=>rfl⟩
theorem bA (w:World){ops:Array Oper}{rest:List Oper}{o:Oper}{a:Act}{Q:Exit->Act->World->Prop}
  (hg:o.guard=none) (m x:Operand) (hop:o.op=Op.lookup 251 m x false) (b n:Nat) (ks:List ByteArray) (h:Ra w b n ks) (s:ByteArray) (hs:s.size<=Fq)
  (hm:a.eval m=.map (some b)) (hx:a.eval x=.string s) (c:Int) (hc:c=cnt ks s)
  (hK:wpList Tryz.prog ops Q rest (a.put o.dst (.int .i64 c)) w):wpList Tryz.prog ops Q (o::rest) a w:=by
 obtain⟨D,hown,hD⟩:=h
 refine wpList_lookup_own_int w hg m x 251 hop 9 3 .i64 Tryz.law Tryz.underlying251 Tryz.underlying3 (Tryz.Qy _) b n D hm hown _ _ hx (keyOf_string_mk Tryz.underlying9 (by unfold maxLen;unfold Fq at hs;omega)) ?_
 intro c2 hat _
 obtain rfl:c=c2:=by
  have:=(hD s).symm.trans hat
  rw[hc];simpa using this
 exact hK
theorem Rh (w:World){ops:Array Oper}{rest:List Oper}{o:Oper}{a:Act}{Q:Exit->Act->World->Prop}
  (hg:o.guard=none) (m x v:Operand) (hop:o.op=Op.mapUpdate 251 m x v) (b n:Nat) (ks:List ByteArray) (h:Ra w b n ks) (s:ByteArray) (hs:s.size<=Fq)
  (hn:ks.length<=big) (hj:n<=big) (hm:a.eval m=.map (some b)) (hx:a.eval x=.string s) (c:Int) (hc:c=cnt ks s) (hv:a.eval v=.int .i64 (wrap64 (c+1)))
  (hK:∀w',Ra w' b (n+1) (ks++[s])->w.grownBy w' (some b)->wpList Tryz.prog ops Q rest (a.put o.dst undef) w'):wpList Tryz.prog ops Q (o::rest) a w:=by
 obtain⟨D,hown,hD⟩:=h
 have hw:wrap64 (c+1)=c+1:=by rw[hc];exact BP hn (by unfold big;omega)
 rw[hw]at hv
 refine wpList_mapUpdate_own w hg m x v 251 hop 9 3 Tryz.law Tryz.underlying251 (plainElem Tryz.prog 3) b n D hm hown (by unfold maxLen;unfold big at hj;omega) _ _ _ hx hv
  (keyOf_string_mk Tryz.underlying9 (by unfold maxLen;unfold Fq at hs;omega)) (.lit (.int .i64 (c+1))) [] (plainElem_int Tryz.underlying3 (by rw[hc];exact Q0 hn (by unfold big;omega))) ?_
 intro w' h1 h2
 rw[hc]at h1
 exact hK w' ⟨_,h1,Ra.put hown h1 hD⟩ h2
theorem jL {w w1:World}{cs:Array Value}{t:TypeId}{B:Nat}(h:(w.alloc (.cells cs t)).grownBy w1 (some B))(hB:B<w.heap.size):
  (∀i u,cs[i]? =some u->w1.cell? ⟨w.heap.size,i,none⟩=some u)/\w.heap.size<w1.heap.size/\Below B w w1:=by
 have hnb:w.heap.size<(w.alloc (.cells cs t)).heap.size:=by simp
 refine⟨fun i u hu=>?_,GY0 hnb h.size,((GZ4 B w).alloc (by omega) _).grown h (by simp;omega) (by simp)⟩
 refine(World.cell?_of_block (h.block _ hnb (by simp;omega))).trans ?_
 rw[World.cell?_alloc_new];exact hu
theorem sP {α β:Type}(l:List α)(f:α->β)(j:Nat)(h:j<l.length):(l.take (j+1)).map f=(l.take j).map f++[f l[j]]:=by
 rw[<-List.take_append_getElem h,List.map_append];rfl
theorem wP {α β:Type}(l:List α)(f:α->β)(j:Nat)(h:j<=l.length)(s:β):s∈(l.take j).map f↔∃k,∃hk:k<l.length,k<j/\f l[k]=s:=by
 rw[List.mem_map]
 constructor
 ·rintro⟨z,hz,rfl⟩
  rw[List.mem_take_iff_getElem]at hz
  obtain⟨k,hk1,rfl⟩:=hz
  exact⟨k,by omega,by omega,rfl⟩
 ·rintro⟨k,hk,hkj,rfl⟩
  exact⟨l[k],by rw[List.mem_take_iff_getElem];exact⟨k,by omega,rfl⟩,rfl⟩
theorem wC (A:Option Addr)(c:Nat)(l:List Exp)(most:Int)(w:World)(h:Sj w A l)(hm:0<=most)(hm2:most<=big):
  Calls Tryz.prog 154 #[.slice A l.length c,.int .i64 most] w fun e w'=>e=.returned (.int .i64 (eF [] most l))/\Below w.heap.size w w':=by
 obtain⟨hr,hl,hs⟩:=h
 unfold big at hl hm2
 have HR:=Hp hr
 have HS:=Hp hs
 clear hr hs
 have q1:wrap64 (most -1)=most -1:=IntWalk.wrap64_in _ (by omega)
 have hmm:=@run_makeMap Tryz.prog
 go_enter Tryz.func154,Tryz.ntmps154
 go_wp2_with fail
 go_loopw [11] (fun i wr=>∃j:Nat,j<=l.length/\i=.int .i64 j/\SC l most j=eF [] most l/\Ra wr w.heap.size j ((l.take j).map (·.name))/\Below w.heap.size w wr) (fun i _=>l.length -(intOf i).toNat)
 case atStart=>exact⟨0,by omega,rfl,rfl,Ra.made _,ZB⟩
 case round=>
  obtain⟨j,hj,rfl,hE,hco,hb⟩:=hrel
  have HE:=Hp hE
  have HB:=Hp hb
  have HC:=Hp hco
  clear hE hco
  by_cases hlt:j<l.length
  ·have hlt':(j:Int)<l.length:=by omega
   obtain⟨ad,rfl,hab,h0,h1⟩:=mF HR.out hb j hlt
   have hsz:=HS.out l[j] (GZ9 _)
   have hsh:=Hp (show(l[j]'hlt).name.size<=Fq by unfold Fq;unfold big at hsz;omega)
   have hsm:=Hp (sP l (·.name) j hlt)
   have hmt:=Hp (wP l (·.name) j (by omega) l[j].name)
   obtain⟨ks,hks⟩:∃ks,ks=(l.take j).map (·.name):=⟨_,rfl⟩
   rw[<-hks]at hsm hmt HC
   have hkl:=Hp (show ks.length<=big by rw[hks];simp;unfold big;omega)
   have hjl:=Hp (show j<=big by unfold big;omega)
   have hbk:w.heap.size<wr.heap.size:=HC.lt
   have hwb:w.heap.size≠wr.heap.size:=by omega
   obtain⟨cn,hcn⟩:=Nm (cnt ks (l[j]'hlt).name)
   have q2:wrap64 (cn+1)=cn+1:=by rw[hcn];exact BP hkl.out (by unfold big;omega)
   have hcp:=Hp (KM (ks:=ks) (s:=(l[j]'hlt).name))
   have hcs:=Hp (Aa ks (l[j]'hlt).name (l[j]'hlt).name)
   rw[<-hcn]at hcp hcs
   have HCN:=Hp hcn
   have c1:=Hp (fun W=>qY (l[j]'hlt).name W hsz)
   clear hb hks hcn
   rw[if_pos rfl]at hcs
   have c2:=Hp (fun W=>gU (l[j]'hlt).at_ 0 (most -1) W)
   obtain⟨bn,hbn⟩:=Nm (isName (l[j]'hlt).name)
   rw[<-hbn]at c1
   have HBN:=Hp hbn
   clear hbn
   cases bn
   ·have e1:=Hp ((wM (most:=most) hlt HBN.symm).symm.trans HE.out)
    go_wp2_with (first
    |(at_lookup;refine bA _ rfl _ _ rfl w.heap.size (j+1) (ks++[(l[j]'hlt).name]) (hco1.kept hb2 (by omega)) (l[j]'hlt).name hsh.out rfl rfl (cn+1) hcs.symm ?_)
    |(at_lookup;refine bA _ rfl _ _ rfl w.heap.size j ks (HC.alloc _) (l[j]'hlt).name hsh.out rfl rfl cn HCN.out ?_)
    |(at_mapUpdate;refine Rh _ rfl _ _ _ rfl w.heap.size j ks (HC.alloc _) (l[j]'hlt).name hsh.out hkl.out hjl.out rfl rfl cn HCN.out rfl ?_;intro w1 hco1 hgrow1;obtain⟨hf,hz1,hbb⟩:=jL hgrow1 hbk;have f0:=hf 0 _ rfl;have f1:=hf 1 _ rfl;clear hf)
    |(go_at_call 181;refine(c1.out _).mono ?_;rintro e w2 ⟨rfl,hb2⟩;obtain⟨hc2,hf2⟩:=aJ hb2)
    |(go_at_call 217;refine(c2.out _).mono ?_;rintro e w' ⟨rfl,rfl⟩))
    go_ret
    exact⟨aC e1.out,(HB.trans hbb).trans (hb2.mono (by omega))⟩
   by_cases hmm2:0<cn
   ·obtain⟨k,hk,hkj,hkn⟩:=hmt.out.1 (hcp.out.1 hmm2)
    have e1:=Hp ((UN (most:=most) hlt HBN.symm hk hkj hkn).symm.trans HE.out)
    have t1:(1:Int)<cn+1:=by omega
    clear hmm2
    go_wp2_with (first
    |(at_lookup;refine bA _ rfl _ _ rfl w.heap.size (j+1) (ks++[(l[j]'hlt).name]) (hco1.kept hb2 (by omega)) (l[j]'hlt).name hsh.out rfl rfl (cn+1) hcs.symm ?_)
    |(at_lookup;refine bA _ rfl _ _ rfl w.heap.size j ks (HC.alloc _) (l[j]'hlt).name hsh.out rfl rfl cn HCN.out ?_)
    |(at_mapUpdate;refine Rh _ rfl _ _ _ rfl w.heap.size j ks (HC.alloc _) (l[j]'hlt).name hsh.out hkl.out hjl.out rfl rfl cn HCN.out rfl ?_;intro w1 hco1 hgrow1;obtain⟨hf,hz1,hbb⟩:=jL hgrow1 hbk;have f0:=hf 0 _ rfl;have f1:=hf 1 _ rfl;clear hf)
    |(go_at_call 181;refine(c1.out _).mono ?_;rintro e w2 ⟨rfl,hb2⟩;obtain⟨hc2,hf2⟩:=aJ hb2)
    |(go_at_call 217;refine(c2.out _).mono ?_;rintro e w' ⟨rfl,rfl⟩))
    go_ret
    exact⟨aC e1.out,(HB.trans hbb).trans (hb2.mono (by omega))⟩
   ·have hno:∀k(hk:k<l.length),k<j->l[k].name≠l[j].name:=fun k hk hkj e=>hmm2 (hcp.out.2 (hmt.out.2 ⟨k,hk,hkj,e⟩))
    have HN:=Hp hno
    have t1:decide ((1:Int)<cn+1)=false:=by simp;omega
    clear hmm2 hno
    by_cases hr:0<=l[j].at_/\l[j].at_<most
    ·have e1:=Hp ((vT hlt HBN.symm HN.out hr).trans HE.out)
     have c2:=Hp (fun W=>TJ (l[j]'hlt).at_ 0 (most -1) W hr.1 (by omega))
     clear hr
     go_wp2_with (first
    |(at_lookup;refine bA _ rfl _ _ rfl w.heap.size (j+1) (ks++[(l[j]'hlt).name]) (hco1.kept hb2 (by omega)) (l[j]'hlt).name hsh.out rfl rfl (cn+1) hcs.symm ?_)
    |(at_lookup;refine bA _ rfl _ _ rfl w.heap.size j ks (HC.alloc _) (l[j]'hlt).name hsh.out rfl rfl cn HCN.out ?_)
    |(at_mapUpdate;refine Rh _ rfl _ _ _ rfl w.heap.size j ks (HC.alloc _) (l[j]'hlt).name hsh.out hkl.out hjl.out rfl rfl cn HCN.out rfl ?_;intro w1 hco1 hgrow1;obtain⟨hf,hz1,hbb⟩:=jL hgrow1 hbk;have f0:=hf 0 _ rfl;have f1:=hf 1 _ rfl;clear hf)
    |(go_at_call 181;refine(c1.out _).mono ?_;rintro e w2 ⟨rfl,hb2⟩;obtain⟨hc2,hf2⟩:=aJ hb2)
    |(go_at_call 217;refine(c2.out _).mono ?_;rintro e w' ⟨rfl,rfl⟩))
     go_roundw
     case rel=>exact⟨j+1,by omega,by go_num,e1.out,by rw[hsm.out];exact hco1.kept hb2 (by omega),(HB.trans hbb).trans (hb2.mono (by omega))⟩
     case measure=>(simp[intOf];try omega)
    ·have e1:=Hp ((sI hlt HBN.symm HN.out (by omega)).symm.trans HE.out)
     have c2:=Hp (fun W=>mV (l[j]'hlt).at_ 0 (most -1) W (by omega))
     clear hr
     go_wp2_with (first
    |(at_lookup;refine bA _ rfl _ _ rfl w.heap.size (j+1) (ks++[(l[j]'hlt).name]) (hco1.kept hb2 (by omega)) (l[j]'hlt).name hsh.out rfl rfl (cn+1) hcs.symm ?_)
    |(at_lookup;refine bA _ rfl _ _ rfl w.heap.size j ks (HC.alloc _) (l[j]'hlt).name hsh.out rfl rfl cn HCN.out ?_)
    |(at_mapUpdate;refine Rh _ rfl _ _ _ rfl w.heap.size j ks (HC.alloc _) (l[j]'hlt).name hsh.out hkl.out hjl.out rfl rfl cn HCN.out rfl ?_;intro w1 hco1 hgrow1;obtain⟨hf,hz1,hbb⟩:=jL hgrow1 hbk;have f0:=hf 0 _ rfl;have f1:=hf 1 _ rfl;clear hf)
    |(go_at_call 181;refine(c1.out _).mono ?_;rintro e w2 ⟨rfl,hb2⟩;obtain⟨hc2,hf2⟩:=aJ hb2)
    |(go_at_call 217;refine(c2.out _).mono ?_;rintro e w' ⟨rfl,rfl⟩))
     go_ret
     exact⟨aC e1.out,(HB.trans hbb).trans (hb2.mono (by omega))⟩
  ·have e1:=Hp ((yO (most:=most) hlt).symm.trans HE.out)
   go_wp2_with fail
   go_ret
   exact⟨aC e1.out,HB.out⟩
end
section
open Go.RowKit Go.Maps Go.WideMaps
def qX (a b:Int):Bool:=decide (0<=a)&&decide (a<=255)&&(decide (0<=b)&&decide (b<=255))
theorem Uw (a b:Int)(w:World):
  Calls Tryz.prog 182 #[.int .i64 a,.int .i64 b] w fun e w'=>e=.returned (.bool (qX a b))/\w=w':=by
 by_cases h:0<=a/\a<=255
 ·have c1:=Hp (fun W=>TJ a 0 255 W h.1 h.2)
  have c2:=Hp (fun W=>gU b 0 255 W)
  have e1:qX a b=(decide (0<=b)&&decide (b<=255)):=by unfold qX;simp[h.1,h.2]
  rw[e1];clear e1 h
  go_enter Tryz.func182,Tryz.ntmps182
  go_wp2_with (first|(go_at_call 217;(with_reducible refine(c1.out _).mono ?_);rintro e w' ⟨rfl,rfl⟩)|(go_at_call 217;(with_reducible refine(c2.out _).mono ?_);rintro e w' ⟨rfl,rfl⟩))
  all_goals(go_ret;exact⟨rfl,rfl⟩)
 ·have c1:=Hp (fun W=>mV a 0 255 W (by omega))
  have e1:qX a b=false:=by unfold qX;simp;omega
  rw[e1];clear e1 h
  go_enter Tryz.func182,Tryz.ntmps182
  go_wp2_with (first|(go_at_call 217;(with_reducible refine(c1.out _).mono ?_);rintro e w' ⟨rfl,rfl⟩))
  all_goals(go_ret;exact⟨rfl,rfl⟩)
theorem Cn (md nm:ByteArray)(mj mn:Int):dP ⟨md,nm,mj,mn⟩=if isName md=true then(if isName nm=true then(if qX mj mn=true then 0 else 3)else 1)else 1:=by
 unfold dP qX
 cases isName md<;>cases isName nm<;>simp
 (repeat' split)<;>first|rfl|omega
theorem Jn (md nm:ByteArray)(mj mn:Int)(w:World)(h1:md.size<=big)(h2:nm.size<=big):
  Calls Tryz.prog 185 #[.agg #[.string md,.string nm,.int .i64 mj,.int .i64 mn]] w fun e w'=>e=.returned (.int .i64 (dP ⟨md,nm,mj,mn⟩))/\Below w.heap.size w w':=by
 rw[Cn]
 have c1:=Hp (fun W=>qY md W h1)
 have c2:=Hp (fun W=>qY nm W h2)
 have c3:=Hp (fun W=>Uw mj mn W)
 have HB:=Hp ((GZ4 w.heap.size w).alloc (GZ3 _) (.cells #[.string md,.string nm,.int .i64 mj,.int .i64 mn] 173))
 clear h1 h2
 generalize isName md=a at*
 generalize isName nm=b at*
 generalize qX mj mn=c at*
 cases a
 ·go_enter Tryz.func185,Tryz.ntmps185
  go_wp2_with (first|(go_at_call 181;(with_reducible refine(c1.out _).mono ?_);rintro e w1 ⟨rfl,hb1⟩;obtain⟨hc1,hf1⟩:=aJ hb1;have hz1:w.heap.size<w1.heap.size:=by have:=hb1.size;(try simp at this);omega))
  go_ret
  exact⟨rfl,HB.trans (hb1.mono (by simp))⟩
 cases b
 ·go_enter Tryz.func185,Tryz.ntmps185
  go_wp2_with (first|(go_at_call 181;(with_reducible refine(c1.out _).mono ?_);rintro e w1 ⟨rfl,hb1⟩;obtain⟨hc1,hf1⟩:=aJ hb1;have hz1:w.heap.size<w1.heap.size:=by have:=hb1.size;(try simp at this);omega)|(go_at_call 181;(with_reducible refine(c2.out _).mono ?_);rintro e w2 ⟨rfl,hb2⟩;obtain⟨hc2,hf2⟩:=aJ hb2;have hz2:w.heap.size<w2.heap.size:=by have:=hb2.size;(try simp at this);omega))
  go_ret
  exact⟨rfl,(HB.trans (hb1.mono (by simp))).trans (hb2.mono (by omega))⟩
 cases c
 all_goals
  go_enter Tryz.func185,Tryz.ntmps185
  go_wp2_with (first|(go_at_call 181;(with_reducible refine(c1.out _).mono ?_);rintro e w1 ⟨rfl,hb1⟩;obtain⟨hc1,hf1⟩:=aJ hb1;have hz1:w.heap.size<w1.heap.size:=by have:=hb1.size;(try simp at this);omega)|(go_at_call 181;(with_reducible refine(c2.out _).mono ?_);rintro e w2 ⟨rfl,hb2⟩;obtain⟨hc2,hf2⟩:=aJ hb2;have hz2:w.heap.size<w2.heap.size:=by have:=hb2.size;(try simp at this);omega)|(go_at_call 182;(with_reducible refine(c3.out _).mono ?_);rintro e w' ⟨rfl,rfl⟩))
  go_ret
  exact⟨rfl,(HB.trans (hb1.mono (by simp))).trans (hb2.mono (by omega))⟩
theorem VT {a c b d:List UInt8}(ha:(32:UInt8) ∉ a)(hc:(32:UInt8) ∉ c)(h:a++[32]++b=c++[32]++d):a=c/\b=d:=by
 induction a generalizing c with
 |nil=>cases c with
  |nil=>simp at h;exact⟨rfl,h⟩
  |cons y c=>simp at h hc;exact absurd h.1 hc.1
 |cons x a ih=>cases c with
  |nil=>simp at h ha;exact absurd h.1.symm ha.1
  |cons y c=>
   simp only[List.cons_append,List.cons.injEq]at h
   simp only[List.mem_cons,not_or]at ha hc
   obtain⟨e1,e2⟩:=ih ha.2 hc.2 h.2
   exact⟨by rw[h.1,e1],e2⟩
theorem FT {s:ByteArray}(h:isName s=true):(32:UInt8) ∉ s.data.toList:=by
 unfold isName at h
 simp only[Bool.and_eq_true]at h
 intro hm
 have:=List.all_eq_true.1 h.2 _ hm
 simp[fC]at this
def keyBytes (x:Imp):ByteArray:=x.mod++⟨#[32]⟩++x.name
theorem key_inj {x y:Imp}(hx:isName x.mod=true)(hy:isName y.mod=true)(h:keyBytes x=keyBytes y):x.mod=y.mod/\x.name=y.name:=by
 have h1:(keyBytes x).data.toList=(keyBytes y).data.toList:=by rw[h]
 unfold keyBytes at h1
 rw[dY,dY,dY,dY]at h1
 obtain⟨e1,e2⟩:=VT (FT hx) (FT hy) h1
 exact⟨ba_eq e1,ba_eq e2⟩
theorem DJ {x:Imp}(h:dP x≠1):isName x.mod=true:=by
 unfold dP at h
 cases hn:isName x.mod
 ·simp[hn]at h
 ·rfl
theorem F7 (A:Option Addr)(c:Nat)(l:List Imp)(w:World)(h:TC w A l):
  Calls Tryz.prog 183 #[.slice A l.length c] w fun e w'=>e=.returned (.int .i64 (eP [] l))/\Below w.heap.size w w':=by
 obtain⟨hr,hl,hs⟩:=h
 unfold big at hl
 have HR:=Hp hr
 have HS:=Hp hs
 clear hr hs
 have hmm:=@run_makeMap Tryz.prog
 go_enter Tryz.func183,Tryz.ntmps183
 go_wp2_with fail
 go_loopw [10] (fun i wr=>∃j:Nat,j<=l.length/\i=.int .i64 j/\gM l j=eP [] l/\(∀k(hk:k<l.length),k<j->isName l[k].mod=true)/\Ra wr w.heap.size j ((l.take j).map keyBytes)/\Below w.heap.size w wr) (fun i _=>l.length -(intOf i).toNat)
 case atStart=>exact⟨0,by omega,rfl,rfl,by omega,Ra.made _,ZB⟩
 case round=>
  obtain⟨j,hj,rfl,hE,hN,hco,hb⟩:=hrel
  have HE:=Hp hE
  have HB:=Hp hb
  have HC:=Hp hco
  have HNM:=Hp hN
  clear hE hco hN
  by_cases hlt:j<l.length
  ·have hlt':(j:Int)<l.length:=by omega
   obtain⟨ad,rfl,hab,h0,h1,h2,h3⟩:=TA HR.out hb j hlt
   obtain⟨hsz1,hsz2⟩:=HS.out l[j] (GZ9 _)
   have hsm:=Hp (sP l keyBytes j hlt)
   have hmt:=Hp (wP l keyBytes j (by omega) (keyBytes l[j]))
   obtain⟨ks,hks⟩:∃ks,ks=(l.take j).map keyBytes:=⟨_,rfl⟩
   rw[<-hks]at hsm hmt HC
   have hkl:=Hp (show ks.length<=big by rw[hks];simp;unfold big;omega)
   have hjl:=Hp (show j<=big by unfold big;omega)
   have hbk:w.heap.size<wr.heap.size:=HC.lt
   have hz3:((l[j]'hlt).mod++⟨#[32]⟩).size=(l[j]'hlt).mod.size+1:=by rw[ByteArray.size_append];rfl
   obtain⟨ky,hky⟩:∃ky,ky=(l[j]'hlt).mod++⟨#[32]⟩++(l[j]'hlt).name:=⟨_,rfl⟩
   have ha1:∀W,(Op.stringOp .add (l[j]'hlt).mod ⟨#[32]⟩).run Tryz.prog W=.ok (.string ((l[j]'hlt).mod++⟨#[32]⟩)) W:=fun W=>run_string_add_sum _ _ _ (by show _+1<=_;unfold big at hsz1;omega)
   have ha2:∀W,(Op.stringOp .add ((l[j]'hlt).mod++⟨#[32]⟩) (l[j]'hlt).name).run Tryz.prog W=.ok (.string ky) W:=fun W=>by rw[hky];exact run_string_add_sum _ _ _ (by unfold big at hsz1 hsz2;omega)
   have hsh:=Hp (show ky.size<=Fq by rw[hky,ByteArray.size_append,hz3];unfold Fq;unfold big at hsz1 hsz2;omega)
   have hkk:ky=keyBytes l[j]:=hky
   rw[<-hkk]at hsm hmt
   obtain⟨cn,hcn⟩:=Nm (cnt ks ky)
   have q2:wrap64 (cn+1)=cn+1:=by rw[hcn];exact BP hkl.out (by unfold big;omega)
   have hcp:=Hp (KM (ks:=ks) (s:=ky))
   have hcs:=Hp (Aa ks ky ky)
   rw[<-hcn]at hcp hcs
   rw[if_pos rfl]at hcs
   have HCN:=Hp hcn
   have HKK:=Hp hkk
   have hte:dP l[j]≠1->(0<cn↔∃k,∃hk:k<l.length,k<j/\(l[k].mod=l[j].mod/\l[k].name=l[j].name)):=fun hne=>by
    rw[hcp.out,hmt.out]
    constructor
    ·rintro⟨k,hk,hkj,e⟩
     exact⟨k,hk,hkj,key_inj (HNM.out k hk hkj) (DJ hne) (e.trans hkk)⟩
    ·rintro⟨k,hk,hkj,e1,e2⟩
     exact⟨k,hk,hkj,by rw[hkk];unfold keyBytes;rw[e1,e2]⟩
   have HTE:=Hp hte
   have c1:=Hp (fun W=>Jn (l[j]'hlt).mod (l[j]'hlt).name (l[j]'hlt).major (l[j]'hlt).minor W hsz1 hsz2)
   obtain⟨er,her⟩:=Nm (dP (l[j]'hlt))
   have her':er=dP ⟨(l[j]'hlt).mod,(l[j]'hlt).name,(l[j]'hlt).major,(l[j]'hlt).minor⟩:=her
   rw[<-her']at c1
   have HER:=Hp her
   clear hb hks hcn hky hkk hte her her' hz3
   rcases vQ (l[j]'hlt)with h5|h5|h5
   all_goals
    obtain rfl:=HER.trans h5
    have H5:=Hp h5
    clear h5 HER
   ·by_cases hmm2:0<cn
    ·obtain⟨k,hk,hkj,hkn⟩:=(HTE.out (by rw[H5.out];omega)).1 hmm2
     have e1:=Hp ((nC hlt (by rw[H5.out];omega) hk hkj hkn).symm.trans HE.out)
     have t1:(1:Int)<cn+1:=by omega
     clear hmm2 hkn
     go_wp2_with (first
    |(at_lookup;refine bA _ rfl _ _ rfl w.heap.size (j+1) (ks++[ky]) (hco1.kept hb2 (by omega)) ky hsh.out rfl rfl (cn+1) hcs.symm ?_)
    |(at_lookup;refine bA _ rfl _ _ rfl w.heap.size j ks (HC.alloc _) ky hsh.out rfl rfl cn HCN.out ?_)
    |(at_mapUpdate;refine Rh _ rfl _ _ _ rfl w.heap.size j ks (HC.alloc _) ky hsh.out hkl.out hjl.out rfl rfl cn HCN.out rfl ?_;intro w1 hco1 hgrow1;obtain⟨hf,hz1,hbb⟩:=jL hgrow1 hbk;have f0:=hf 0 _ rfl;have f1:=hf 1 _ rfl;have f2:=hf 2 _ rfl;have f3:=hf 3 _ rfl;clear hf)
    |(go_at_call 185;refine(c1.out _).mono ?_;rintro e w2 ⟨rfl,hb2⟩;obtain⟨hc2,hf2⟩:=aJ hb2))
     go_ret
     exact⟨aC e1.out,(HB.trans hbb).trans (hb2.mono (by omega))⟩
    ·have hno:=Hp (fun k(hk:k<l.length)(hkj:k<j)e=>hmm2 ((HTE.out (by rw[H5.out];omega)).2 ⟨k,hk,hkj,e⟩))
     have e1:=Hp ((tL hlt H5.out hno.out).trans HE.out)
     have t1:decide ((1:Int)<cn+1)=false:=by simp;omega
     clear hmm2
     go_wp2_with (first
    |(at_lookup;refine bA _ rfl _ _ rfl w.heap.size (j+1) (ks++[ky]) (hco1.kept hb2 (by omega)) ky hsh.out rfl rfl (cn+1) hcs.symm ?_)
    |(at_lookup;refine bA _ rfl _ _ rfl w.heap.size j ks (HC.alloc _) ky hsh.out rfl rfl cn HCN.out ?_)
    |(at_mapUpdate;refine Rh _ rfl _ _ _ rfl w.heap.size j ks (HC.alloc _) ky hsh.out hkl.out hjl.out rfl rfl cn HCN.out rfl ?_;intro w1 hco1 hgrow1;obtain⟨hf,hz1,hbb⟩:=jL hgrow1 hbk;have f0:=hf 0 _ rfl;have f1:=hf 1 _ rfl;have f2:=hf 2 _ rfl;have f3:=hf 3 _ rfl;clear hf)
    |(go_at_call 185;refine(c1.out _).mono ?_;rintro e w2 ⟨rfl,hb2⟩;obtain⟨hc2,hf2⟩:=aJ hb2))
     go_roundw
     case rel=>exact⟨j+1,by omega,by go_num,e1.out,fun k hk hkj=>by rcases Nat.lt_succ_iff_lt_or_eq.1 hkj with h|rfl;exact HNM.out k hk h;exact DJ (by rw[H5.out];omega),by rw[hsm.out];exact hco1.kept hb2 (by omega),(HB.trans hbb).trans (hb2.mono (by omega))⟩
     case measure=>(simp[intOf];try omega)
   ·have e1:=Hp ((tY hlt H5.out).symm.trans HE.out)
    go_wp2_with (first
    |(at_lookup;refine bA _ rfl _ _ rfl w.heap.size (j+1) (ks++[ky]) (hco1.kept hb2 (by omega)) ky hsh.out rfl rfl (cn+1) hcs.symm ?_)
    |(at_lookup;refine bA _ rfl _ _ rfl w.heap.size j ks (HC.alloc _) ky hsh.out rfl rfl cn HCN.out ?_)
    |(at_mapUpdate;refine Rh _ rfl _ _ _ rfl w.heap.size j ks (HC.alloc _) ky hsh.out hkl.out hjl.out rfl rfl cn HCN.out rfl ?_;intro w1 hco1 hgrow1;obtain⟨hf,hz1,hbb⟩:=jL hgrow1 hbk;have f0:=hf 0 _ rfl;have f1:=hf 1 _ rfl;have f2:=hf 2 _ rfl;have f3:=hf 3 _ rfl;clear hf)
    |(go_at_call 185;refine(c1.out _).mono ?_;rintro e w2 ⟨rfl,hb2⟩;obtain⟨hc2,hf2⟩:=aJ hb2))
    go_ret
    exact⟨aC e1.out,(HB.trans hbb).trans (hb2.mono (by omega))⟩
   ·by_cases hmm2:0<cn
    ·obtain⟨k,hk,hkj,hkn⟩:=(HTE.out (by rw[H5.out];omega)).1 hmm2
     have e1:=Hp ((nC hlt (by rw[H5.out];omega) hk hkj hkn).symm.trans HE.out)
     have t1:(1:Int)<cn+1:=by omega
     clear hmm2 hkn
     go_wp2_with (first
    |(at_lookup;refine bA _ rfl _ _ rfl w.heap.size (j+1) (ks++[ky]) (hco1.kept hb2 (by omega)) ky hsh.out rfl rfl (cn+1) hcs.symm ?_)
    |(at_lookup;refine bA _ rfl _ _ rfl w.heap.size j ks (HC.alloc _) ky hsh.out rfl rfl cn HCN.out ?_)
    |(at_mapUpdate;refine Rh _ rfl _ _ _ rfl w.heap.size j ks (HC.alloc _) ky hsh.out hkl.out hjl.out rfl rfl cn HCN.out rfl ?_;intro w1 hco1 hgrow1;obtain⟨hf,hz1,hbb⟩:=jL hgrow1 hbk;have f0:=hf 0 _ rfl;have f1:=hf 1 _ rfl;have f2:=hf 2 _ rfl;have f3:=hf 3 _ rfl;clear hf)
    |(go_at_call 185;refine(c1.out _).mono ?_;rintro e w2 ⟨rfl,hb2⟩;obtain⟨hc2,hf2⟩:=aJ hb2))
     go_ret
     exact⟨aC e1.out,(HB.trans hbb).trans (hb2.mono (by omega))⟩
    ·have hno:=Hp (fun k(hk:k<l.length)(hkj:k<j)e=>hmm2 ((HTE.out (by rw[H5.out];omega)).2 ⟨k,hk,hkj,e⟩))
     have e1:=Hp ((qD hlt H5.out hno.out).symm.trans HE.out)
     have t1:decide ((1:Int)<cn+1)=false:=by simp;omega
     clear hmm2
     go_wp2_with (first
    |(at_lookup;refine bA _ rfl _ _ rfl w.heap.size (j+1) (ks++[ky]) (hco1.kept hb2 (by omega)) ky hsh.out rfl rfl (cn+1) hcs.symm ?_)
    |(at_lookup;refine bA _ rfl _ _ rfl w.heap.size j ks (HC.alloc _) ky hsh.out rfl rfl cn HCN.out ?_)
    |(at_mapUpdate;refine Rh _ rfl _ _ _ rfl w.heap.size j ks (HC.alloc _) ky hsh.out hkl.out hjl.out rfl rfl cn HCN.out rfl ?_;intro w1 hco1 hgrow1;obtain⟨hf,hz1,hbb⟩:=jL hgrow1 hbk;have f0:=hf 0 _ rfl;have f1:=hf 1 _ rfl;have f2:=hf 2 _ rfl;have f3:=hf 3 _ rfl;clear hf)
    |(go_at_call 185;refine(c1.out _).mono ?_;rintro e w2 ⟨rfl,hb2⟩;obtain⟨hc2,hf2⟩:=aJ hb2))
     go_ret
     exact⟨aC e1.out,(HB.trans hbb).trans (hb2.mono (by omega))⟩
  ·have e1:=Hp ((U0 hlt).symm.trans HE.out)
   go_wp2_with fail
   go_ret
   exact⟨aC e1.out,HB.out⟩
end
section
open Go.RowKit
theorem Uy {z ni e:Int}{p:Pat}(h:aK p.kind=0):iM z ni e p=7:=by unfold iM;rw[if_pos h]
theorem UZ {z ni e:Int}{p:Pat}(h:aK p.kind≠0)(h1:p.sym< -1\/ni<=p.sym\/p.add<0\/65535<p.add\/p.at_<0\/z -aK p.kind<p.at_):iM z ni e p=3:=by
 unfold iM;rw[if_neg h,if_pos h1]
theorem vZ {z ni e:Int}{p:Pat}(h:aK p.kind≠0)(h1:¬(p.sym< -1\/ni<=p.sym\/p.add<0\/65535<p.add\/p.at_<0\/z -aK p.kind<p.at_))(h2:p.at_<e):iM z ni e p=4:=by
 unfold iM;rw[if_neg h,if_neg h1,if_pos h2]
theorem Df {z ni e:Int}{p:Pat}(h:aK p.kind≠0)(h1:¬(p.sym< -1\/ni<=p.sym\/p.add<0\/65535<p.add\/p.at_<0\/z -aK p.kind<p.at_))(h2:¬p.at_<e):iM z ni e p=0:=by
 unfold iM;rw[if_neg h,if_neg h1,if_neg h2]
theorem VK (k:Int):aK k=0\/(2<=aK k/\aK k<=4):=by
 rcases Rf k with h|h|h|h|h|h<;>omega
theorem Gm (nm tx:ByteArray)(mj mn:Int)(eA iA pA:Option Addr)(el eC il iC pC:Nat)(l:List Pat)(w:World)(h:pJ w pA l)(ht:tx.size<=big)(hi:il<=big):
  Calls Tryz.prog 184 #[.agg #[.string nm,.int .i64 mj,.int .i64 mn,.string tx,.slice eA el eC,.slice iA il iC,.slice pA l.length pC]] w fun e w'=>
   e=.returned (.int .i64 (Rp tx.size il 0 l))/\Below w.heap.size w w':=by
 obtain⟨hr,hl⟩:=h
 unfold big at hl ht hi
 have HR:=Hp hr
 clear hr
 obtain⟨w0,hw0⟩:=Nm (w.alloc (.cells #[.string nm,.int .i64 mj,.int .i64 mn,.string tx,.slice eA el eC,.slice iA il iC,.slice pA l.length pC] 70))
 have H0:=Hp (show Below w.heap.size w w0 from hw0▸ZB)
 have k3:=Hp (show w0.cell? ⟨w.heap.size,3,none⟩=some (.string tx) by rw[hw0,World.cell?_alloc_new];rfl)
 have k5:=Hp (show w0.cell? ⟨w.heap.size,5,none⟩=some (.slice iA il iC) by rw[hw0,World.cell?_alloc_new];rfl)
 have k6:=Hp (show w0.cell? ⟨w.heap.size,6,none⟩=some (.slice pA l.length pC) by rw[hw0,World.cell?_alloc_new];rfl)
 have hz0:=Hp (show w0.heap.size=w.heap.size+1 by rw[hw0];simp)
 have HW:=Hp hw0
 clear hw0
 go_enter Tryz.func184,Tryz.ntmps184
 go_wp2_with fail
 rw[<-HW.out]
 clear HW
 go_loopw [3,10] (fun e i wr=>∃(j:Nat)(en:Int),j<=l.length/\i=.int .i64 j/\e=.int .i64 en/\0<=en/\en<=140737488351236/\kK tx.size il l j en=Rp tx.size il 0 l/\Below (w.heap.size+1) w0 wr) (fun _ i _=>l.length -(intOf i).toNat)
 case atStart=>exact⟨0,0,by omega,rfl,rfl,by omega,by omega,rfl,GZ4 _ _⟩
 case round=>
  obtain⟨j,en,hj,rfl,rfl,he0,he1,hE,hb⟩:=hrel
  have HE:=Hp hE
  have HB:=Hp hb
  clear hE
  have g3:=(hb.cell (p:=⟨w.heap.size,3,none⟩) (by simp)).trans k3.out
  have g5:=(hb.cell (p:=⟨w.heap.size,5,none⟩) (by simp)).trans k5.out
  have hzr:w.heap.size<wr.heap.size:=by have:=hb.size;have:=hz0.out;omega
  by_cases hlt:j<l.length
  ·have hlt':(j:Int)<l.length:=by omega
   obtain⟨ad,rfl,hab,h0,h1,h2,h3⟩:=qE HR.out (H0.trans (hb.mono (by omega))) j hlt
   clear hb
   obtain⟨p,hp⟩:=Nm (l[j])
   have he:=Hp (fun h=>(Ub (z:=tx.size) (ni:=il) (e:=en) hlt h).symm.trans HE.out)
   have hx:=Hp (fun h=>(tO (z:=tx.size) (ni:=il) (e:=en) hlt h).trans HE.out)
   rw[<-hp]at h0 h1 h2 h3 he hx
   have HP:=Hp hp
   clear hp
   obtain⟨kd,at_,sy,ad_⟩:=p
   simp only at h0 h1 h2 h3
   obtain⟨k,hk⟩:=Nm (aK kd)
   have c1:=Hp (fun W=>gP kd W)
   rw[<-hk]at c1
   have hkr:=VK kd
   rw[<-hk]at hkr
   have HK:=Hp hk
   clear hk
   have qk:wrap64 ((il:Int) -1)=il -1:=IntWalk.wrap64_in _ (by omega)
   have qz:wrap64 ((tx.size:Int) -k)=tx.size -k:=IntWalk.wrap64_in _ (by omega)
   rcases hkr with h5|⟨h5,h6⟩
   ·obtain rfl:=h5
    have e1:=Hp (Uy (z:=tx.size) (ni:=il) (e:=en) (p:=⟨kd,at_,sy,ad_⟩) HK.symm)
    have e2:=Hp ((e1.symm).trans (he.out (by rw[e1.out];omega)))
    go_wp2_with (first|(go_at_call 235;(with_reducible refine(c1.out _).mono ?_);rintro e w2 ⟨rfl,hb2⟩;obtain⟨hc2,hf2⟩:=aJ hb2;have hz2:w.heap.size<w2.heap.size:=by have:=hb2.size;(try simp at this);omega))
    go_ret
    exact⟨aC e2.out,H0.trans ((HB.mono (by omega)).trans (((GZ4 _ _).alloc (by omega) _).trans (hb2.mono (by simp;omega))))⟩
   ·have hk0:(k==0)=false:=by simp;omega
    have hkn:=Hp (show aK kd≠0 by rw[<-HK.out];omega)
    have hk64:wrap64 (at_+k)=at_+k\/at_<0\/(tx.size:Int) -k<at_:=by
     by_cases a0:at_<0
     ·exact .inr (.inl a0)
     ·by_cases a1:(tx.size:Int) -k<at_
      ·exact .inr (.inr a1)
      ·exact .inl (IntWalk.wrap64_in _ (by omega))
    have hrng:=Hp (fun h1=>(UZ (z:=tx.size) (ni:=il) (e:=en) (p:=⟨kd,at_,sy,ad_⟩) hkn.out h1))
    have hst:=Hp (fun h1 h2=>(vZ (z:=tx.size) (ni:=il) (e:=en) (p:=⟨kd,at_,sy,ad_⟩) hkn.out h1 h2))
    have hok:=Hp (fun h1 h2=>(Df (z:=tx.size) (ni:=il) (e:=en) (p:=⟨kd,at_,sy,ad_⟩) hkn.out h1 h2))
    simp only[<-HK.out]at hrng hst hok
    by_cases b1: -1<=sy/\sy<=il -1
    ·have c3:=Hp (fun W=>TJ sy (-1) (il -1) W b1.1 b1.2)
     by_cases b2:0<=ad_/\ad_<=65535
     ·have c4:=Hp (fun W=>TJ ad_ 0 65535 W b2.1 b2.2)
      by_cases b3:at_<0
      ·have e1:=Hp (hrng.out (by omega))
       have e2:=Hp ((e1.symm).trans (he.out (by rw[e1.out];omega)))
       clear b1 b2
       go_wp2_with (first|(go_at_call 235;(with_reducible refine(c1.out _).mono ?_);rintro e w2 ⟨rfl,hb2⟩;obtain⟨hc2,hf2⟩:=aJ hb2;have hz2:w.heap.size<w2.heap.size:=by have:=hb2.size;(try simp at this);omega)|(go_at_call 217;(with_reducible refine(c3.out _).mono ?_);rintro e w' ⟨rfl,rfl⟩)|(go_at_call 217;(with_reducible refine(c4.out _).mono ?_);rintro e w' ⟨rfl,rfl⟩))
       go_ret
       exact⟨aC e2.out,H0.trans ((HB.mono (by omega)).trans (((GZ4 _ _).alloc (by omega) _).trans (hb2.mono (by simp;omega))))⟩
      ·have b3':decide (at_<0)=false:=by simp;omega
       by_cases b4:(tx.size:Int) -k<at_
       ·have e1:=Hp (hrng.out (by omega))
        have e2:=Hp ((e1.symm).trans (he.out (by rw[e1.out];omega)))
        clear b1 b2 b3
        go_wp2_with (first|(go_at_call 235;(with_reducible refine(c1.out _).mono ?_);rintro e w2 ⟨rfl,hb2⟩;obtain⟨hc2,hf2⟩:=aJ hb2;have hz2:w.heap.size<w2.heap.size:=by have:=hb2.size;(try simp at this);omega)|(go_at_call 217;(with_reducible refine(c3.out _).mono ?_);rintro e w' ⟨rfl,rfl⟩)|(go_at_call 217;(with_reducible refine(c4.out _).mono ?_);rintro e w' ⟨rfl,rfl⟩))
        go_ret
        exact⟨aC e2.out,H0.trans ((HB.mono (by omega)).trans (((GZ4 _ _).alloc (by omega) _).trans (hb2.mono (by simp;omega))))⟩
       ·have b4':decide ((tx.size:Int) -k<at_)=false:=by simp;omega
        by_cases b5:at_<en
        ·have e1:=Hp (hst.out (by omega) b5)
         have e2:=Hp ((e1.symm).trans (he.out (by rw[e1.out];omega)))
         clear b1 b2 b3 b4
         go_wp2_with (first|(go_at_call 235;(with_reducible refine(c1.out _).mono ?_);rintro e w2 ⟨rfl,hb2⟩;obtain⟨hc2,hf2⟩:=aJ hb2;have hz2:w.heap.size<w2.heap.size:=by have:=hb2.size;(try simp at this);omega)|(go_at_call 217;(with_reducible refine(c3.out _).mono ?_);rintro e w' ⟨rfl,rfl⟩)|(go_at_call 217;(with_reducible refine(c4.out _).mono ?_);rintro e w' ⟨rfl,rfl⟩))
         go_ret
         exact⟨aC e2.out,H0.trans ((HB.mono (by omega)).trans (((GZ4 _ _).alloc (by omega) _).trans (hb2.mono (by simp;omega))))⟩
        ·have b5':decide (at_<en)=false:=by simp;omega
         have e1:=Hp (hok.out (by omega) b5)
         have e2:=Hp (hx.out e1.out)
         have q3:=Hp (show wrap64 (at_+k)=at_+k from IntWalk.wrap64_in _ (by omega))
         have r1:=Hp (show 0<=at_+k/\at_+k<=140737488351236 by omega)
         clear b1 b2 b3 b4 b5
         go_wp2_with (first|(go_at_call 235;(with_reducible refine(c1.out _).mono ?_);rintro e w2 ⟨rfl,hb2⟩;obtain⟨hc2,hf2⟩:=aJ hb2;have hz2:w.heap.size<w2.heap.size:=by have:=hb2.size;(try simp at this);omega)|(go_at_call 217;(with_reducible refine(c3.out _).mono ?_);rintro e w' ⟨rfl,rfl⟩)|(go_at_call 217;(with_reducible refine(c4.out _).mono ?_);rintro e w' ⟨rfl,rfl⟩))
         go_roundw
         case rel=>exact⟨j+1,at_+k,by omega,by go_num,by rw[q3.out],r1.out.1,r1.out.2,by rw[HK.out];exact e2.out,HB.trans (((GZ4 _ _).alloc (by omega) _).trans (hb2.mono (by simp;omega)))⟩
         case measure=>(simp[intOf];try omega)
     ·have c4:=Hp (fun W=>mV ad_ 0 65535 W (by omega))
      have e1:=Hp (hrng.out (by omega))
      have e2:=Hp ((e1.symm).trans (he.out (by rw[e1.out];omega)))
      clear b1 b2
      go_wp2_with (first|(go_at_call 235;(with_reducible refine(c1.out _).mono ?_);rintro e w2 ⟨rfl,hb2⟩;obtain⟨hc2,hf2⟩:=aJ hb2;have hz2:w.heap.size<w2.heap.size:=by have:=hb2.size;(try simp at this);omega)|(go_at_call 217;(with_reducible refine(c3.out _).mono ?_);rintro e w' ⟨rfl,rfl⟩)|(go_at_call 217;(with_reducible refine(c4.out _).mono ?_);rintro e w' ⟨rfl,rfl⟩))
      go_ret
      exact⟨aC e2.out,H0.trans ((HB.mono (by omega)).trans (((GZ4 _ _).alloc (by omega) _).trans (hb2.mono (by simp;omega))))⟩
    ·have c3:=Hp (fun W=>mV sy (-1) (il -1) W (by omega))
     have e1:=Hp (hrng.out (by omega))
     have e2:=Hp ((e1.symm).trans (he.out (by rw[e1.out];omega)))
     clear b1
     go_wp2_with (first|(go_at_call 235;(with_reducible refine(c1.out _).mono ?_);rintro e w2 ⟨rfl,hb2⟩;obtain⟨hc2,hf2⟩:=aJ hb2;have hz2:w.heap.size<w2.heap.size:=by have:=hb2.size;(try simp at this);omega)|(go_at_call 217;(with_reducible refine(c3.out _).mono ?_);rintro e w' ⟨rfl,rfl⟩))
     go_ret
     exact⟨aC e2.out,H0.trans ((HB.mono (by omega)).trans (((GZ4 _ _).alloc (by omega) _).trans (hb2.mono (by simp;omega))))⟩
  ·have e1:=Hp ((vN (z:=tx.size) (ni:=il) (e:=en) hlt).symm.trans HE.out)
   clear hb
   go_wp2_with fail
   go_ret
   exact⟨aC e1.out,H0.trans (HB.mono (by omega))⟩
end
end Go.Proofs.YtjiedaialianmaaGreat
