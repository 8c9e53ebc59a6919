import Derived.Test.YtjiedaialianmaaGreatBCoPlReRu01
import Derived.Test.YtjiedaialianmaaGreatBPlReRu01
set_option maxRecDepth 100000
set_option maxHeartbeats 2000000
namespace Go.Proofs.YtjiedaialianmaaGreat
section
open Go.RowKit
theorem yY (kind sym add place:Int)(w:World):
  Calls Tryz.prog 259 #[.int .i64 kind,.int .i64 sym,.int .i64 add,.int .i64 place] w fun e w'=>
   e=.returned (.tuple #[.int .i64 (bD kind sym add place),.int .i64 (RN kind sym add place)])/\Below w.heap.size w w':=by
 have h5:=Rf kind
 by_cases h0:aK kind=0
 ·have h1:RN kind sym add place=7:=by unfold RN;rw[if_pos h0]
  have h2:bD kind sym add place=0:=by unfold bD;rw[h1,if_neg (by omega)]
  rw[h1,h2]
  clear h1 h2 h5
  go_enter Tryz.func259,Tryz.ntmps259
  go_wp2_with (first|(go_at_call 179;(with_reducible refine(gL _ _).mono ?_);rintro e w' ⟨rfl,rfl⟩)|(go_at_call 75;(with_reducible refine(bK _ _ _ _ ?_ ?_).mono ?_);(focus (first|omega|assumption));(focus (first|omega|assumption));rintro e w' ⟨rfl,rfl⟩)|(go_at_call 75;(with_reducible refine(RQ _ _ _ _ ?_).mono ?_);(focus (first|omega|assumption));rintro e w' ⟨rfl,rfl⟩)|(go_at_call 75;(with_reducible refine(bE _ _ _ _).mono ?_);rintro e w' ⟨rfl,rfl⟩))
  all_goals(go_ret2;exact⟨by simp,GZ4 _ _⟩)
 ·by_cases hr:sym<0\/65535<sym\/place<0\/65535<place\/add<0\/65535<add
  ·have h1:RN kind sym add place=3:=by unfold RN;rw[if_neg h0,if_pos hr]
   have h2:bD kind sym add place=0:=by unfold bD;rw[h1,if_neg (by omega)]
   rw[h1,h2]
   clear h1 h2 h5
   have h0':(aK kind==0)=false:=by simp[h0]
   have hc:(sym<0\/65535<sym)\/(0<=sym/\sym<=65535/\(place<0\/65535<place))\/(0<=sym/\sym<=65535/\0<=place/\place<=65535/\(add<0\/65535<add)):=by omega
   clear hr
   rcases hc with(hc|hc)|⟨g1,g2,hc|hc⟩|⟨g1,g2,g3,g4,hc|hc⟩
   all_goals
    go_enter Tryz.func259,Tryz.ntmps259
    go_wp2_with (first|(go_at_call 179;(with_reducible refine(gL _ _).mono ?_);rintro e w' ⟨rfl,rfl⟩)|(go_at_call 75;(with_reducible refine(bK _ _ _ _ ?_ ?_).mono ?_);(focus (first|omega|assumption));(focus (first|omega|assumption));rintro e w' ⟨rfl,rfl⟩)|(go_at_call 75;(with_reducible refine(RQ _ _ _ _ ?_).mono ?_);(focus (first|omega|assumption));rintro e w' ⟨rfl,rfl⟩)|(go_at_call 75;(with_reducible refine(bE _ _ _ _).mono ?_);rintro e w' ⟨rfl,rfl⟩))
    go_ret2
    exact⟨by simp,GZ4 _ _⟩
  ·have hr':0<=sym/\sym<=65535/\0<=place/\place<=65535/\0<=add/\add<=65535:=by omega
   obtain⟨r1,r2,r3,r4,r5,r6⟩:=hr'
   have p32:=fun W=>(rV 32 W (by omega) (by omega)).mono (fun _ _ h=>(⟨h.1.trans (aC (by decide)),h.2⟩:_=Ending.returned (.int .i64 4294967296)/\_))
   have p24:=fun W=>(rV 24 W (by omega) (by omega)).mono (fun _ _ h=>(⟨h.1.trans (aC (by decide)),h.2⟩:_=Ending.returned (.int .i64 16777216)/\_))
   have p16:=fun W=>(rV 16 W (by omega) (by omega)).mono (fun _ _ h=>(⟨h.1.trans (aC (by decide)),h.2⟩:_=Ending.returned (.int .i64 65536)/\_))
   have P32:=Hp p32
   have P24:=Hp p24
   have P16:=Hp p16
   clear p32 p24 p16
   have wk:∀k v,aK k=v->∀W,Calls Tryz.prog 179 #[.int .i64 k] W fun e w'=>e=.returned (.int .i64 v)/\W=w':=fun k v hv W=>(gL k W).mono fun _ _ h=>⟨h.1.trans (aC hv),h.2⟩
   rcases h5 with⟨rfl,hw⟩|⟨rfl,hw⟩|⟨rfl,hw⟩|⟨rfl,hw⟩|⟨rfl,hw⟩|⟨_,hw⟩
   ·have h1:RN 1 sym add place=0:=by unfold RN;rw[if_neg h0,if_neg hr,if_neg (by omega)]
    have h2:bD 1 sym add place=(sym+add) % 4294967296:=by unfold bD;rw[h1,if_pos rfl];rfl
    rw[h1,h2]
    have WK:=Hp (wk _ _ hw)
    clear h1 h2 hr wk hw h0
    go_enter Tryz.func259,Tryz.ntmps259
    go_wp2_with (first|(go_at_call 179;(with_reducible refine(WK.out _).mono ?_);rintro e w' ⟨rfl,rfl⟩)|(go_at_call 75;(with_reducible refine(bK _ _ _ _ ?_ ?_).mono ?_);(focus (first|omega|assumption));(focus (first|omega|assumption));rintro e w' ⟨rfl,rfl⟩)|(go_at_call 75;(with_reducible refine(RQ _ _ _ _ ?_).mono ?_);(focus (first|omega|assumption));rintro e w' ⟨rfl,rfl⟩)|(go_at_call 75;(with_reducible refine(bE _ _ _ _).mono ?_);rintro e w' ⟨rfl,rfl⟩)|(go_at_call 205;(with_reducible refine(P32.out _).mono ?_);rintro e w' ⟨rfl,rfl⟩)|(go_at_call 204;(with_reducible refine(SH _ _ _ (by omega) (by omega)).mono ?_);rintro e w' ⟨rfl,rfl⟩))
    go_ret2
    exact⟨by simp,GZ4 _ _⟩
   ·have h1:RN 2 sym add place=0:=by unfold RN;rw[if_neg h0,if_neg hr,if_neg (by omega)]
    have h2:bD 2 sym add place=(sym+add -place) % 4294967296:=by unfold bD;rw[h1,if_pos rfl];rfl
    rw[h1,h2]
    have WK:=Hp (wk _ _ hw)
    clear h1 h2 hr wk hw h0
    go_enter Tryz.func259,Tryz.ntmps259
    go_wp2_with (first|(go_at_call 179;(with_reducible refine(WK.out _).mono ?_);rintro e w' ⟨rfl,rfl⟩)|(go_at_call 75;(with_reducible refine(bK _ _ _ _ ?_ ?_).mono ?_);(focus (first|omega|assumption));(focus (first|omega|assumption));rintro e w' ⟨rfl,rfl⟩)|(go_at_call 75;(with_reducible refine(RQ _ _ _ _ ?_).mono ?_);(focus (first|omega|assumption));rintro e w' ⟨rfl,rfl⟩)|(go_at_call 75;(with_reducible refine(bE _ _ _ _).mono ?_);rintro e w' ⟨rfl,rfl⟩)|(go_at_call 205;(with_reducible refine(P32.out _).mono ?_);rintro e w' ⟨rfl,rfl⟩)|(go_at_call 204;(with_reducible refine(SH _ _ _ (by omega) (by omega)).mono ?_);rintro e w' ⟨rfl,rfl⟩))
    go_ret2
    exact⟨by simp,GZ4 _ _⟩
   ·have h1:RN 3 sym add place=0:=by unfold RN;rw[if_neg h0,if_neg hr,if_neg (by omega)]
    have h2:bD 3 sym add place=(sym+add) / 65536 % 65536:=by unfold bD;rw[h1,if_pos rfl];rfl
    rw[h1,h2]
    have WK:=Hp (wk _ _ hw)
    clear h1 h2 hr wk hw h0
    go_enter Tryz.func259,Tryz.ntmps259
    go_wp2_with (first|(go_at_call 179;(with_reducible refine(WK.out _).mono ?_);rintro e w' ⟨rfl,rfl⟩)|(go_at_call 75;(with_reducible refine(bK _ _ _ _ ?_ ?_).mono ?_);(focus (first|omega|assumption));(focus (first|omega|assumption));rintro e w' ⟨rfl,rfl⟩)|(go_at_call 75;(with_reducible refine(RQ _ _ _ _ ?_).mono ?_);(focus (first|omega|assumption));rintro e w' ⟨rfl,rfl⟩)|(go_at_call 75;(with_reducible refine(bE _ _ _ _).mono ?_);rintro e w' ⟨rfl,rfl⟩)|(go_at_call 205;(with_reducible refine(P16.out _).mono ?_);rintro e w' ⟨rfl,rfl⟩)|(go_at_call 204;(with_reducible refine(SH _ _ _ (by omega) (by omega)).mono ?_);rintro e w' ⟨rfl,rfl⟩))
    go_ret2
    exact⟨by simp,GZ4 _ _⟩
   ·have h1:RN 4 sym add place=0:=by unfold RN;rw[if_neg h0,if_neg hr,if_neg (by omega)]
    have h2:bD 4 sym add place=(sym+add) % 65536:=by unfold bD;rw[h1,if_pos rfl];rfl
    rw[h1,h2]
    have WK:=Hp (wk _ _ hw)
    clear h1 h2 hr wk hw h0
    go_enter Tryz.func259,Tryz.ntmps259
    go_wp2_with (first|(go_at_call 179;(with_reducible refine(WK.out _).mono ?_);rintro e w' ⟨rfl,rfl⟩)|(go_at_call 75;(with_reducible refine(bK _ _ _ _ ?_ ?_).mono ?_);(focus (first|omega|assumption));(focus (first|omega|assumption));rintro e w' ⟨rfl,rfl⟩)|(go_at_call 75;(with_reducible refine(RQ _ _ _ _ ?_).mono ?_);(focus (first|omega|assumption));rintro e w' ⟨rfl,rfl⟩)|(go_at_call 75;(with_reducible refine(bE _ _ _ _).mono ?_);rintro e w' ⟨rfl,rfl⟩)|(go_at_call 205;(with_reducible refine(P16.out _).mono ?_);rintro e w' ⟨rfl,rfl⟩)|(go_at_call 204;(with_reducible refine(SH _ _ _ (by omega) (by omega)).mono ?_);rintro e w' ⟨rfl,rfl⟩))
    go_ret2
    exact⟨by simp,GZ4 _ _⟩
   ·have WK:=Hp (wk _ _ hw)
    have m1:=fun W=>SH (sym+add -place) 2 W (by omega) (by omega)
    have M1:=Hp m1
    clear m1
    have hd:=Nk (sym+add -place)
    by_cases ho:(sym+add -place) % 2=1
    ·have h1:RN 5 sym add place=4:=by unfold RN;rw[if_neg h0,if_neg hr,if_pos ⟨rfl,ho⟩]
     have h2:bD 5 sym add place=0:=by unfold bD;rw[h1,if_neg (by omega)]
     rw[h1,h2]
     clear h1 h2 hr wk hw h0 hd
     go_enter Tryz.func259,Tryz.ntmps259
     go_wp2_with (first|(go_at_call 179;(with_reducible refine(WK.out _).mono ?_);rintro e w' ⟨rfl,rfl⟩)|(go_at_call 75;(with_reducible refine(bK _ _ _ _ ?_ ?_).mono ?_);(focus (first|omega|assumption));(focus (first|omega|assumption));rintro e w' ⟨rfl,rfl⟩)|(go_at_call 75;(with_reducible refine(RQ _ _ _ _ ?_).mono ?_);(focus (first|omega|assumption));rintro e w' ⟨rfl,rfl⟩)|(go_at_call 75;(with_reducible refine(bE _ _ _ _).mono ?_);rintro e w' ⟨rfl,rfl⟩)|(go_at_call 204;(with_reducible refine(M1.out _).mono ?_);rintro e w' ⟨rfl,rfl⟩))
     go_ret2
     exact⟨by simp,GZ4 _ _⟩
    ·have h1:RN 5 sym add place=0:=by unfold RN;rw[if_neg h0,if_neg hr,if_neg (by omega)]
     have h2:bD 5 sym add place=(sym+add -place).tdiv 2 % 16777216:=by
      unfold bD;rw[h1,if_pos rfl]
      have e:wI 5 sym add place=(sym+add -place) / 2:=by simp[wI]
      rw[e]
      have e2:(sym+add -place).tdiv 2=(sym+add -place) / 2:=by split at hd<;>omega
      rw[e2];rfl
     rw[h1,h2]
     have ho':(sym+add -place) % 2=0:=by omega
     clear h1 h2 hr wk hw h0 hd ho
     go_enter Tryz.func259,Tryz.ntmps259
     go_wp2_with (first|(go_at_call 179;(with_reducible refine(WK.out _).mono ?_);rintro e w' ⟨rfl,rfl⟩)|(go_at_call 75;(with_reducible refine(bK _ _ _ _ ?_ ?_).mono ?_);(focus (first|omega|assumption));(focus (first|omega|assumption));rintro e w' ⟨rfl,rfl⟩)|(go_at_call 75;(with_reducible refine(RQ _ _ _ _ ?_).mono ?_);(focus (first|omega|assumption));rintro e w' ⟨rfl,rfl⟩)|(go_at_call 75;(with_reducible refine(bE _ _ _ _).mono ?_);rintro e w' ⟨rfl,rfl⟩)|(go_at_call 204;(with_reducible refine(M1.out _).mono ?_);rintro e w' ⟨rfl,rfl⟩)|(go_at_call 205;(with_reducible refine(P24.out _).mono ?_);rintro e w' ⟨rfl,rfl⟩)|(go_at_call 204;(with_reducible refine(SH _ _ _ ?_ ?_).mono ?_);(focus (first|omega|assumption));(focus (first|omega|assumption));rintro e w' ⟨rfl,rfl⟩))
     go_ret2
     exact⟨by simp,GZ4 _ _⟩
   ·exact absurd hw h0
end
section
open Go.RowKit
theorem IQ (s:ByteArray)(kind at_ y add sym base:Int)(w:World)(hs:s.size<=140737488351232):
  Calls Tryz.prog 231 #[.string s,.agg #[.int .i64 kind,.int .i64 at_,.int .i64 y,.int .i64 add],.int .i64 sym,.int .i64 base] w fun e w'=>
   e=.returned (.tuple #[.string (bS s kind at_ add sym base),.int .i64 (RO s.size kind at_ add sym base)])/\Below w.heap.size w w':=by
 have hbw:Below w.heap.size w (w.alloc (.cells #[.int .i64 kind,.int .i64 at_,.int .i64 y,.int .i64 add] 180)):=ZB
 have HB:=Hp hbw
 clear hbw
 by_cases h0:aK kind=0
 ·have h1:RO s.size kind at_ add sym base=7:=by unfold RO;rw[if_pos h0]
  have h2:bS s kind at_ add sym base=⟨#[]⟩:=by unfold bS;rw[h1,if_neg (by omega)]
  rw[h1,h2]
  clear h1 h2
  go_enter Tryz.func231,Tryz.ntmps231
  go_wp2_with (first|(go_at_call 179;(with_reducible refine(gL _ _).mono ?_);rintro e w' ⟨rfl,rfl⟩))
  all_goals(go_ret2;exact⟨by simp,HB.out⟩)
 ·obtain⟨g1,g2⟩:=xO kind h0
  have h0':(aK kind==0)=false:=by simp[h0]
  by_cases hr:add<0\/65535<add\/at_<0\/(s.size:Int) -aK kind<at_\/base<0\/65279<base
  ·have h1:RO s.size kind at_ add sym base=3:=by unfold RO;rw[if_neg h0,if_pos hr]
   have h2:bS s kind at_ add sym base=⟨#[]⟩:=by unfold bS;rw[h1,if_neg (by omega)]
   rw[h1,h2]
   have hc:(add<0\/65535<add)\/(0<=add/\add<=65535/\(at_<0\/(s.size:Int) -aK kind<at_))\/(0<=add/\add<=65535/\0<=at_/\at_<=(s.size:Int) -aK kind/\(base<0\/65279<base)):=by omega
   clear h1 h2 hr
   rcases hc with(hc|hc)|⟨k1,k2,hc|hc⟩|⟨k1,k2,k3,k4,hc|hc⟩
   all_goals
    go_enter Tryz.func231,Tryz.ntmps231
    go_wp2_with (first|(go_at_call 179;(with_reducible refine(gL _ _).mono ?_);rintro e w' ⟨rfl,rfl⟩)|(go_at_call 75;(with_reducible refine(bK _ _ _ _ ?_ ?_).mono ?_);(focus (first|omega|assumption));(focus (first|omega|assumption));rintro e w' ⟨rfl,rfl⟩)|(go_at_call 75;(with_reducible refine(RQ _ _ _ _ ?_).mono ?_);(focus (first|omega|assumption));rintro e w' ⟨rfl,rfl⟩)|(go_at_call 75;(with_reducible refine(bE _ _ _ _).mono ?_);rintro e w' ⟨rfl,rfl⟩))
    go_ret2
    exact⟨by simp,HB.out⟩
  ·have hr':0<=add/\add<=65535/\0<=at_/\at_<=(s.size:Int) -aK kind/\0<=base/\base<=65279:=by omega
   obtain⟨r1,r2,r3,r4,r5,r6⟩:=hr'
   have h1:RO s.size kind at_ add sym base=RN kind sym add (base+at_):=by unfold RO;rw[if_neg h0,if_neg hr]
   by_cases hv:RN kind sym add (base+at_)=0
   ·have h2:bS s kind at_ add sym base=putStr s at_.toNat (aK kind).toNat (bD kind sym add (base+at_)):=by unfold bS;rw[h1,if_pos hv]
    rw[h1,h2,hv]
    obtain⟨v,hvn⟩:=Nm (bD kind sym add (base+at_))
    rw[<-hvn]
    have cv:=Hp (fun W=>(yY kind sym add (base+at_) W).mono (fun _ _ h=>(⟨h.1.trans (Tu hvn.symm hv),h.2⟩:_=Ending.returned (.tuple #[.int .i64 v,.int .i64 0])/\_)))
    clear h1 h2 hr hv hvn
    go_enter Tryz.func231,Tryz.ntmps231
    go_wp2_with (first|(go_at_call 179;(with_reducible refine(gL _ _).mono ?_);rintro e w' ⟨rfl,rfl⟩)|(go_at_call 75;(with_reducible refine(bK _ _ _ _ ?_ ?_).mono ?_);(focus (first|omega|assumption));(focus (first|omega|assumption));rintro e w' ⟨rfl,rfl⟩)|(go_at_call 75;(with_reducible refine(RQ _ _ _ _ ?_).mono ?_);(focus (first|omega|assumption));rintro e w' ⟨rfl,rfl⟩)|(go_at_call 75;(with_reducible refine(bE _ _ _ _).mono ?_);rintro e w' ⟨rfl,rfl⟩)|(go_at_call 259;(with_reducible refine(cv.out _).mono ?_);rintro e w2 ⟨rfl,hb2⟩;obtain⟨hc2,hf2⟩:=aJ hb2;have hz2:w.heap.size<w2.heap.size:=by have:=hb2.size;(try simp at this);omega))
    obtain⟨a,ha⟩:=Int.eq_ofNat_of_zero_le r3
    obtain⟨k,hk⟩:=Int.eq_ofNat_of_zero_le (show 0<=aK kind by omega)
    subst ha
    have hk4:k<=4:=by omega
    have HK:=Hp (show(aK kind).toNat=k by omega)
    have r7:(a:Int)<=s.size:=by omega
    rw[hk]at r4 ⊢
    clear hk
    obtain⟨f1,f2,f3,f4,f5,f6⟩:=Ec (P:=Tryz.prog) s ⟨(digits v k).toArray⟩ a k hs (by simp[ByteArray.size,digits_length];omega) (by omega)
    have EQ:=Hp ((Ls s a k (digits v k)).trans (rfl:_=putStr s a k v))
    have hc2':w2.cell? ⟨w.heap.size,1,none⟩=some (.int .i64 a):=by rw[hc2 _ _ (by simp)];exact(cell_of_row _ _ _ _ _ _ (heap_alloc_new w _)).trans rfl
    have hz2':w.heap.size<w2.heap.size:=by omega
    go_region_held3 (fun w'=>Below w2.heap.size w2 w'/\w'.cell? ⟨w.heap.size,1,none⟩=some (.int .i64 a)) (first|exact⟨GZ4 _ _,hc2'⟩|exact Cz ⟨GZ4 _ _,hc2'⟩|exact Lm hz2' (by assumption) (by assumption)|exact Cz (by assumption)|assumption)
     (first|(go_at_call 143;refine(iF _ _ _ (by omega)).mono ?_;rintro e w3 ⟨rfl,hb3⟩))
    rw[EQ.out]
    go_wp2_with fail
    go_ret2
    exact⟨by simp[HK.out],(HB.trans ((kS hb2 (And.left (by assumption))).mono (by simp)))⟩
   ·have h2:bS s kind at_ add sym base=⟨#[]⟩:=by unfold bS;rw[h1,if_neg hv]
    rw[h1,h2]
    have hv':(RN kind sym add (base+at_) != 0)=true:=by simp[hv]
    have cv:=Hp (fun W=>yY kind sym add (base+at_) W)
    clear h1 h2 hr hv
    go_enter Tryz.func231,Tryz.ntmps231
    go_wp2_with (first|(go_at_call 179;(with_reducible refine(gL _ _).mono ?_);rintro e w' ⟨rfl,rfl⟩)|(go_at_call 75;(with_reducible refine(bK _ _ _ _ ?_ ?_).mono ?_);(focus (first|omega|assumption));(focus (first|omega|assumption));rintro e w' ⟨rfl,rfl⟩)|(go_at_call 75;(with_reducible refine(RQ _ _ _ _ ?_).mono ?_);(focus (first|omega|assumption));rintro e w' ⟨rfl,rfl⟩)|(go_at_call 75;(with_reducible refine(bE _ _ _ _).mono ?_);rintro e w' ⟨rfl,rfl⟩)|(go_at_call 259;(with_reducible refine(cv.out _).mono ?_);rintro e w2 ⟨rfl,hb2⟩;obtain⟨hc2,hf2⟩:=aJ hb2;have hz2:w.heap.size<w2.heap.size:=by have:=hb2.size;(try simp at this);omega))
    all_goals(go_ret2;exact⟨by simp,HB.trans (hb2.mono (by simp))⟩)
end
section
open Go.RowKit
theorem lH (m:Mod)(w:World)(h:m.text.size<=big):
  Calls Tryz.prog 107 #[m.v] w fun e w'=>e=.returned (.int .i64 (aH m))/\Below w.heap.size w w':=by
 unfold big at h
 obtain⟨d,q1,q2⟩:∃d:Int,(m.text.size:Int).tdiv 64=d/\d=m.text.size / 64:=⟨_,rfl,by rw[Int.tdiv_eq_ediv_of_nonneg (by omega)]⟩
 obtain⟨r,q3,q4⟩:∃r:Int,(m.text.size:Int).tmod 64=r/\r=m.text.size % 64:=⟨_,rfl,by rw[Int.tmod_eq_emod_of_nonneg (by omega)]⟩
 have q6:wrap64 d=d:=IntWalk.wrap64_in _ (by omega)
 have q5:wrap64 (d+1)=d+1:=IntWalk.wrap64_in _ (by omega)
 have HM:=Hp (show aH m=if 0<r then d+1 else d by unfold aH;split<;>omega)
 clear q2 q4
 by_cases hr:0<r
 ·have HM:=Hp (HM.trans (if_pos hr))
  go_enter Tryz.func107,Tryz.ntmps107
  go_wp2_with fail
  go_ret
  exact⟨aC (by rw[HM.out];first|rfl|exact q5),ZB⟩
 ·have HM:=Hp (HM.trans (if_neg hr))
  have hr':decide (0<r)=false:=by simp;omega
  clear hr
  go_enter Tryz.func107,Tryz.ntmps107
  go_wp2_with fail
  go_ret
  exact⟨aC (by first|exact HM.symm|exact q6.trans HM.symm),ZB⟩
theorem xV (A:Option Addr)(c:Nat)(l:List Plc)(first whole:Bool)(w:World)(h:aU w A l):
  Calls Tryz.prog 229 #[.slice A l.length c,.bool first,.bool whole] w fun e w'=>e=.returned (.int .i64 (bY (Po first whole) l))/\Below w.heap.size w w':=by
 have hl:=h.len
 unfold big at hl
 have HP:=Hp h
 clear h
 obtain⟨q,hq⟩:=Nm (Po first whole)
 rw[<-hq]
 have HQ:=Hp hq
 clear hq
 by_cases h8:8<l.length
 ·have e1:=Hp (show 2=bY q l by unfold bY;rw[if_pos h8])
  have h8':(8:Int)<l.length:=by omega
  go_enter Tryz.func229,Tryz.ntmps229
  go_wp2_with fail
  go_ret
  exact⟨aC e1.out,GZ4 _ _⟩
 have h8':decide ((8:Int)<l.length)=false:=by simp;omega
 have e0:=Hp (show fU q l=bY q l by unfold bY;rw[if_neg h8])
 go_enter Tryz.func229,Tryz.ntmps229
 go_wp2_with fail
 go_loopw [7] (fun i wr=>∃j:Nat,j<=l.length/\i=.int .i64 j/\SF q l j=bY q l/\Below w.heap.size w wr) (fun i _=>l.length -(intOf i).toNat)
 case atStart=>exact⟨0,by omega,rfl,e0.out,GZ4 _ _⟩
 case round=>
  obtain⟨j,hj,rfl,hE,hb⟩:=hrel
  have HE:=Hp hE
  have HB:=Hp hb
  clear hE
  by_cases hlt:j<l.length
  ·have hlt':(j:Int)<l.length:=by omega
   obtain⟨ad,rfl,hab,h0,h1,h2,h3,h4,h5,h6,h7⟩:=RS HP.row hb j hlt
   have hwz:=hb.size
   have hmo:=HP.each l[j] (GZ9 _)
   have c1:=Hp (fun W(hbW:Below w.heap.size w W)=>iV (l[j]'hlt).m W (hmo.below hbW))
   have c2:=Hp (fun W=>lH (l[j]'hlt).m W hmo.text)
   obtain⟨er,her⟩:=Nm (aL (l[j]'hlt).m)
   rw[<-her]at c1
   have HER:=Hp her
   --all cells of the row,behind whatever comes
   have HK:=Hp (fun W(hbW:Below w.heap.size w W)=>RS HP.row hbW j hlt)
   clear hb her hmo
   by_cases h5e:er=0
   ·obtain rfl:=h5e
    have hme:=aY HER.symm
    have hmr:=Hp (show 0<=aH l[j].m/\aH l[j].m<=4 by unfold aH;omega)
    clear hme
    obtain⟨bq,hbq⟩:=Nm (q (l[j]'hlt))
    have HBQ:=Hp hbq
    have hd:bq=(!first || (decide (0<=l[j].first)&&decide (l[j].first<=16 -(if whole then aH l[j].m else 1)))):=by rw[hbq,HQ.out];rfl
    clear hbq
    obtain⟨mz,hmz⟩:=Nm (aH (l[j]'hlt).m)
    rw[<-hmz]at c2 hmr hd
    have q0:wrap64 (16 -mz)=16 -mz:=by have:=hmr.out;exact IntWalk.wrap64_in _ (by omega)
    have c3:=Hp (fun W=>bE l[j].first 0 (16 -(if whole then mz else 1)) W)
    have HD:=Hp hd
    clear hmz hd
    have e1:=Hp (fun(hf:bq=false)=>(yH hlt HER.symm (HBQ.symm.trans hf)).symm.trans HE.out)
    have e2:=Hp (fun(hf:bq=true)=>(UL hlt HER.symm (HBQ.symm.trans hf)).trans HE.out)
    cases first
    ·have e3:=Hp (e2.out (by rw[HD.out];rfl))
     cases whole
     ·go_wp2_with (go_at_call 104;refine(c1.out _ HB.out).mono ?_;rintro e w2 ⟨rfl,hb2⟩)
      go_roundw
      case rel=>exact⟨j+1,by omega,by go_num,e3.out,HB.trans (hb2.mono (by omega))⟩
      case measure=>(simp[intOf];try omega)
     ·go_wp2_with (first|(go_at_call 104;refine(c1.out _ HB.out).mono ?_;rintro e w2 ⟨rfl,hb2⟩;obtain⟨_,ead,_,k0,k1,k2,k3,k4,k5,k6,k7⟩:=HK.out _ (HB.trans (hb2.mono (by omega)));obtain rfl:=GY3 ead;have hz2:=hb2.size)|(go_at_call 107;refine(c2.out _).mono ?_;rintro e w3 ⟨rfl,hb3⟩))
      go_roundw
      case rel=>exact⟨j+1,by omega,by go_num,e3.out,(HB.trans (hb2.mono (by omega))).trans (hb3.mono (by omega))⟩
      case measure=>(simp[intOf];try omega)
    ·cases whole
     ·rw[if_neg (by simp)]at c3
      have hd:bq=(decide (0<=l[j].first)&&decide (l[j].first<=16 -1)):=by rw[HD.out];simp
      rw[<-hd]at c3
      clear hd
      cases bq
      ·have e3:=Hp (e1.out rfl)
       go_wp2_with (first|(go_at_call 104;refine(c1.out _ HB.out).mono ?_;rintro e w2 ⟨rfl,hb2⟩;obtain⟨_,ead,_,k0,k1,k2,k3,k4,k5,k6,k7⟩:=HK.out _ (HB.trans (hb2.mono (by omega)));obtain rfl:=GY3 ead;have hz2:=hb2.size)|(go_at_call 75;refine(c3.out _).mono ?_;rintro e w' ⟨rfl,rfl⟩))
       go_ret
       exact⟨aC e3.out,HB.trans (hb2.mono (by omega))⟩
      ·have e3:=Hp (e2.out rfl)
       go_wp2_with (first|(go_at_call 104;refine(c1.out _ HB.out).mono ?_;rintro e w2 ⟨rfl,hb2⟩;obtain⟨_,ead,_,k0,k1,k2,k3,k4,k5,k6,k7⟩:=HK.out _ (HB.trans (hb2.mono (by omega)));obtain rfl:=GY3 ead;have hz2:=hb2.size)|(go_at_call 75;refine(c3.out _).mono ?_;rintro e w' ⟨rfl,rfl⟩))
       go_roundw
       case rel=>exact⟨j+1,by omega,by go_num,e3.out,HB.trans (hb2.mono (by omega))⟩
       case measure=>(simp[intOf];try omega)
     ·rw[if_pos rfl]at c3
      have hd:bq=(decide (0<=l[j].first)&&decide (l[j].first<=16 -mz)):=by rw[HD.out];simp
      rw[<-hd]at c3
      clear hd
      cases bq
      ·have e3:=Hp (e1.out rfl)
       go_wp2_with (first|(go_at_call 104;refine(c1.out _ HB.out).mono ?_;rintro e w2 ⟨rfl,hb2⟩;obtain⟨_,ead,_,k0,k1,k2,k3,k4,k5,k6,k7⟩:=HK.out _ (HB.trans (hb2.mono (by omega)));obtain rfl:=GY3 ead;have hz2:=hb2.size)|(go_at_call 107;refine(c2.out _).mono ?_;rintro e w3 ⟨rfl,hb3⟩;obtain⟨_,ead,_,k0,k1,k2,k3,k4,k5,k6,k7⟩:=HK.out _ ((HB.trans (hb2.mono (by omega))).trans (hb3.mono (by omega)));obtain rfl:=GY3 ead)|(go_at_call 75;refine(c3.out _).mono ?_;rintro e w' ⟨rfl,rfl⟩))
       go_ret
       exact⟨aC e3.out,(HB.trans (hb2.mono (by omega))).trans (hb3.mono (by omega))⟩
      ·have e3:=Hp (e2.out rfl)
       go_wp2_with (first|(go_at_call 104;refine(c1.out _ HB.out).mono ?_;rintro e w2 ⟨rfl,hb2⟩;obtain⟨_,ead,_,k0,k1,k2,k3,k4,k5,k6,k7⟩:=HK.out _ (HB.trans (hb2.mono (by omega)));obtain rfl:=GY3 ead;have hz2:=hb2.size)|(go_at_call 107;refine(c2.out _).mono ?_;rintro e w3 ⟨rfl,hb3⟩;obtain⟨_,ead,_,k0,k1,k2,k3,k4,k5,k6,k7⟩:=HK.out _ ((HB.trans (hb2.mono (by omega))).trans (hb3.mono (by omega)));obtain rfl:=GY3 ead)|(go_at_call 75;refine(c3.out _).mono ?_;rintro e w' ⟨rfl,rfl⟩))
       go_roundw
       case rel=>exact⟨j+1,by omega,by go_num,e3.out,(HB.trans (hb2.mono (by omega))).trans (hb3.mono (by omega))⟩
       case measure=>(simp[intOf];try omega)
   ·have e1:=Hp ((vW (q:=q) hlt (by rw[<-HER.out];exact h5e)).symm.trans HE.out)
    have h5':(er != 0)=true:=by simp[h5e]
    clear h5e
    go_wp2_with (go_at_call 104;refine(c1.out _ HB.out).mono ?_;rintro e w2 ⟨rfl,hb2⟩)
    go_ret
    exact⟨aC (HER.trans e1.out),HB.trans (hb2.mono (by omega))⟩
  ·have e1:=Hp ((vG (q:=q) hlt).symm.trans HE.out)
   go_wp2_with fail
   go_ret
   exact⟨aC e1.out,HB.out⟩
end
section
open Go.RowKit
theorem Uf (A:Option Addr)(c:Nat)(l:List Plc)(w:World)(h:aU w A l):
  Calls Tryz.prog 174 #[.slice A l.length c] w fun e w'=>e=.returned (.int .i64 (RY l))/\Below w.heap.size w w':=by
 have hl:=h.len
 unfold big at hl
 have HP:=Hp h
 have c1:=Hp (xV A c l true true w h)
 rw[Nc]at c1
 obtain⟨E,hE⟩:=Nm (bY kE l)
 rw[<-hE]at c1
 have hR:RY l=if E≠0 then E else iI l:=by unfold RY;rw[hE]
 clear h
 by_cases t0:E=0
 ·obtain rfl:=t0
  rw[if_neg (by omega)]at hR
  obtain⟨h8,hall⟩:=TB hE.symm
  have HALL:=Hp (show∀x∈l,x.m.text.size<=256/\0<=x.first/\x.first<=16/\0<=aH x.m/\aH x.m<=4 from fun x hx=>by
   obtain⟨h1,h2⟩:=hall x hx
   have h3:=gK h1
   simp only[kE,Bool.and_eq_true,decide_eq_true_eq]at h2
   exact⟨(aY h1).2.2.1,by omega⟩)
  have HR:=Hp hR
  clear hE hR h8 hall
  go_enter Tryz.func174,Tryz.ntmps174
  go_wp2_with (first|(go_at_call 229;refine(c1.out).mono ?_;rintro e w2 ⟨rfl,hb2⟩))
  clear c1
  go_loopw [4] (fun i wr=>∃j:Nat,1<=j/\(j<=l.length\/j=1)/\i=.int .i64 j/\jV l j=iI l/\Below w.heap.size w wr) (fun i _=>l.length -(intOf i).toNat)
  case atStart=>exact⟨1,by omega,by omega,rfl,Uu,hb2⟩
  case round=>
   obtain⟨j,hj1,hj,rfl,hE,hb⟩:=hrel
   have HE:=Hp hE
   have HB:=Hp hb
   clear hE
   by_cases hlt:j<l.length
   ·have hlt':(j:Int)<l.length:=by omega
    obtain⟨ad,rfl,hab,h0,h1,h2,h3,h4,h5,h6,h7⟩:=RS HP.row hb j hlt
    obtain⟨k,hk⟩:∃k,j=k+1:=⟨j -1,by omega⟩
    have hkl:k<l.length:=by omega
    obtain⟨ad',e',hab',g0,g1,g2,g3,g4,g5,g6,g7⟩:=RS HP.row hb k hkl
    obtain rfl:=GY3 e'
    have hwz:=hb.size
    have q1:IntKind.i64.wrap ((j:Int) -1)=k:=by rw[IntWalk.i64_in _ (by omega)];omega
    have HK:=Hp (show∀(h:j<l.length),l[j -1]'(Nat.lt_of_le_of_lt (Nat.sub_le _ _) h)=l[k]'hkl from fun h=>by simp only[show j -1=k by omega])
    have q2:(k:Int)<l.length:=by omega
    have q3:(0:Int)<=k:=by omega
    obtain⟨f1,f2,f3,f4,f5⟩:=HALL.out (l[k]'hkl) (GZ9 _)
    obtain⟨y,hy⟩:=Nm (l[k]'hkl)
    rw[<-hy]at f1 f2 f3 f4 f5 g0 g1 g2 g3 g4 g5 g6 g7
    have HY:=Hp hy
    obtain⟨z,hz⟩:=Nm (l[j].first)
    rw[<-hz]at h7
    have HZ:=Hp hz
    clear hy hz
    have cE:=Hp (fun W=>lH y.m W (by unfold big;omega))
    obtain⟨N,hN⟩:=Nm (aR y)
    obtain⟨M,hM⟩:=Nm (aH y.m)
    rw[<-hM]at cE f4 f5
    have q4:IntKind.i64.wrap (y.first+M)=N:=by rw[IntWalk.i64_in _ (by omega),hN,hM];rfl
    clear hM
    have HN:=Hp hN
    clear f1 f2 f3 f4 f5 hN e'
    have hbm:(ad.add (j*8)).block<wr.heap.size:=by rw[aA];omega
    have hbn:(ad.add (k*8)).block<wr.heap.size:=by rw[aA];omega
    have HCH:=Hp (show fI wr (fun W'=>Below wr.heap.size wr W'/\W'.cell? (ad.add (k*8))=some (.string y.m.name)/\W'.cell? ⟨(ad.add (k*8)).block,(ad.add (k*8)).off+1,none⟩=some (.int .i64 y.m.major)/\W'.cell? ⟨(ad.add (k*8)).block,(ad.add (k*8)).off+2,none⟩=some (.int .i64 y.m.minor)/\W'.cell? ⟨(ad.add (k*8)).block,(ad.add (k*8)).off+3,none⟩=some (.string y.m.text)/\W'.cell? ⟨(ad.add (k*8)).block,(ad.add (k*8)).off+4,none⟩=some (.slice y.m.eA y.m.ex.length y.m.eC)/\W'.cell? ⟨(ad.add (k*8)).block,(ad.add (k*8)).off+5,none⟩=some (.slice y.m.iA y.m.im.length y.m.iC)/\W'.cell? ⟨(ad.add (k*8)).block,(ad.add (k*8)).off+6,none⟩=some (.slice y.m.pA y.m.pa.length y.m.pC)/\W'.cell? ⟨(ad.add (k*8)).block,(ad.add (k*8)).off+7,none⟩=some (.int .i64 y.first)/\W'.cell? ⟨(ad.add (j*8)).block,(ad.add (j*8)).off+7,none⟩=some (.int .i64 z)) from dE (by repeat' first|(with_reducible exact bC.cell (by first|omega|(simp;omega)|(simp only[aA];omega)))|refine bC.and ?_ ?_))
    have HC0:=Hp (HCH.now ⟨GZ4 _ _,by assumption,by assumption,by assumption,by assumption,by assumption,by assumption,by assumption,by assumption,by assumption⟩)
    have HCD:=Hp HCH.D
    have HCS:=Hp HCH.S
    have HCA:=Hp HCH.A
    have HCX:=Hp HCH.X
    have HCL:=Hp HCH.L
    clear hk h0 h1 h2 h3 h4 h5 h6 h7 g0 g1 g2 g3 g4 g5 g6 g7 hb
    by_cases t1:z<N
    ·have e1:=Hp ((yS hlt hj1 (show l[j].first<aR l[j -1] by rw[show l[j -1]=l[k]'hkl from HK.out hlt,<-HZ.out,<-HY.out,<-HN.out];exact t1)).symm.trans HE.out)
     go_wp2_with fail
     go_region_held3 (fun W'=>Below wr.heap.size wr W'/\W'.cell? (ad.add (k*8))=some (.string y.m.name)/\W'.cell? ⟨(ad.add (k*8)).block,(ad.add (k*8)).off+1,none⟩=some (.int .i64 y.m.major)/\W'.cell? ⟨(ad.add (k*8)).block,(ad.add (k*8)).off+2,none⟩=some (.int .i64 y.m.minor)/\W'.cell? ⟨(ad.add (k*8)).block,(ad.add (k*8)).off+3,none⟩=some (.string y.m.text)/\W'.cell? ⟨(ad.add (k*8)).block,(ad.add (k*8)).off+4,none⟩=some (.slice y.m.eA y.m.ex.length y.m.eC)/\W'.cell? ⟨(ad.add (k*8)).block,(ad.add (k*8)).off+5,none⟩=some (.slice y.m.iA y.m.im.length y.m.iC)/\W'.cell? ⟨(ad.add (k*8)).block,(ad.add (k*8)).off+6,none⟩=some (.slice y.m.pA y.m.pa.length y.m.pC)/\W'.cell? ⟨(ad.add (k*8)).block,(ad.add (k*8)).off+7,none⟩=some (.int .i64 y.first)/\W'.cell? ⟨(ad.add (j*8)).block,(ad.add (j*8)).off+7,none⟩=some (.int .i64 z)) (first|exact HC0.out|exact HCD.out _ HC0.out|exact HCS.out _ _ (by assumption) (by assumption)|exact HCS.out _ _ HC0.out (by assumption)|exact HCS.out _ _ (HCD.out _ HC0.out) (by assumption)|exact HCS.out _ _ (HCD.out _ (by assumption)) (by assumption)|exact HCD.out _ (by assumption)|exact HCA.out _ _ (by assumption)|exact HCA.out _ _ HC0.out|exact HCA.out _ _ (HCD.out _ HC0.out)|exact HCD.out _ (HCA.out _ _ (by assumption))|exact HCA.out _ _ (HCS.out _ _ HC0.out (by assumption))|exact HCA.out _ _ (HCS.out _ _ (HCD.out _ HC0.out) (by assumption))|exact HCX.out _ _ _ _ (GZ3 _) (by assumption)|exact HCX.out _ _ _ _ (GZ3 _) (HCS.out _ _ (HCA.out _ _ HC0.out) (by assumption))|exact HCX.out _ _ _ _ (GZ3 _) (HCS.out _ _ (HCD.out _ (HCA.out _ _ HC0.out)) (by assumption))|assumption) (first|(go_at_call 107;refine(cE.out _).mono ?_;rintro e w3 ⟨rfl,hb3⟩))
     have hB:=HCL.out _ (by assumption)
     clear HC0 HCD HCS HCA
     go_wp2_with fail
     go_ret
     exact⟨aC (e1.trans HR.symm),HB.trans (hB.mono (by omega))⟩
    ·have e1:=Hp ((vS hlt hj1 (show¬l[j].first<aR l[j -1] by rw[show l[j -1]=l[k]'hkl from HK.out hlt,<-HZ.out,<-HY.out,<-HN.out];exact t1)).trans HE.out)
     have t1':decide (z<N)=false:=by simp;omega
     clear t1
     go_wp2_with fail
     go_region_held3 (fun W'=>Below wr.heap.size wr W'/\W'.cell? (ad.add (k*8))=some (.string y.m.name)/\W'.cell? ⟨(ad.add (k*8)).block,(ad.add (k*8)).off+1,none⟩=some (.int .i64 y.m.major)/\W'.cell? ⟨(ad.add (k*8)).block,(ad.add (k*8)).off+2,none⟩=some (.int .i64 y.m.minor)/\W'.cell? ⟨(ad.add (k*8)).block,(ad.add (k*8)).off+3,none⟩=some (.string y.m.text)/\W'.cell? ⟨(ad.add (k*8)).block,(ad.add (k*8)).off+4,none⟩=some (.slice y.m.eA y.m.ex.length y.m.eC)/\W'.cell? ⟨(ad.add (k*8)).block,(ad.add (k*8)).off+5,none⟩=some (.slice y.m.iA y.m.im.length y.m.iC)/\W'.cell? ⟨(ad.add (k*8)).block,(ad.add (k*8)).off+6,none⟩=some (.slice y.m.pA y.m.pa.length y.m.pC)/\W'.cell? ⟨(ad.add (k*8)).block,(ad.add (k*8)).off+7,none⟩=some (.int .i64 y.first)/\W'.cell? ⟨(ad.add (j*8)).block,(ad.add (j*8)).off+7,none⟩=some (.int .i64 z)) (first|exact HC0.out|exact HCD.out _ HC0.out|exact HCS.out _ _ (by assumption) (by assumption)|exact HCS.out _ _ HC0.out (by assumption)|exact HCS.out _ _ (HCD.out _ HC0.out) (by assumption)|exact HCS.out _ _ (HCD.out _ (by assumption)) (by assumption)|exact HCD.out _ (by assumption)|exact HCA.out _ _ (by assumption)|exact HCA.out _ _ HC0.out|exact HCA.out _ _ (HCD.out _ HC0.out)|exact HCD.out _ (HCA.out _ _ (by assumption))|exact HCA.out _ _ (HCS.out _ _ HC0.out (by assumption))|exact HCA.out _ _ (HCS.out _ _ (HCD.out _ HC0.out) (by assumption))|exact HCX.out _ _ _ _ (GZ3 _) (by assumption)|exact HCX.out _ _ _ _ (GZ3 _) (HCS.out _ _ (HCA.out _ _ HC0.out) (by assumption))|exact HCX.out _ _ _ _ (GZ3 _) (HCS.out _ _ (HCD.out _ (HCA.out _ _ HC0.out)) (by assumption))|assumption) (first|(go_at_call 107;refine(cE.out _).mono ?_;rintro e w3 ⟨rfl,hb3⟩))
     have hB:=HCL.out _ (by assumption)
     clear HC0 HCD HCS HCA
     go_wp2_with fail
     go_roundw
     case rel=>exact⟨j+1,by omega,by omega,by go_num,e1.out,HB.trans (hB.mono (by omega))⟩
     case measure=>(simp[intOf];try omega)
   ·have e1:=Hp ((yR hlt).symm.trans HE.out)
    go_wp2_with fail
    go_ret
    exact⟨aC (e1.trans HR.symm),HB.out⟩
 ·rw[if_pos t0]at hR
  have HR:=Hp hR
  have t0':(E != 0)=true:=by simp[t0]
  clear hE hR t0
  go_enter Tryz.func174,Tryz.ntmps174
  go_wp2_with (first|(go_at_call 229;refine(c1.out).mono ?_;rintro e w2 ⟨rfl,hb2⟩))
  go_ret
  exact⟨aC HR.symm,hb2⟩
end
end Go.Proofs.YtjiedaialianmaaGreat
