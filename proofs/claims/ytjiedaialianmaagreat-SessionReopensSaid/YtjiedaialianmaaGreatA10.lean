import Derived.Test.YtjiedaialianmaaGreatA04
import Derived.Test.YtjiedaialianmaaGreatA05
import Derived.Test.YtjiedaialianmaaGreatA06
set_option maxRecDepth 100000
set_option maxHeartbeats 8000000
namespace Go.Proofs.YtjiedaialianmaaGreat
section
open Go.RowKit
theorem oP (A:Option Addr)(c:Nat)(l:List Exp)(most:Int)(w:World)(h:Sj w A l)(hm:0<=most)(hm2:most<=big):
  Calls Tryz.prog 76 #[.slice A l.length c,.int .i64 most] w fun e w'=>e=.returned (.int .i64 (eF [] most l))/\Below w.heap.size w w':=by
 obtain⟨hr,hl,hs⟩:=h
 unfold big at hl hm2
 have HR:=Hp hr
 have HS:=Hp hs
 clear hr hs
 have c3:=Hp (fun W n=>bE n 0 (most -1) W)
 have q1:wrap64 (most -1)=most -1:=IntWalk.wrap64_in _ (by omega)
 go_enter Tryz.func76,Tryz.ntmps76
 go_wp2_with fail
 go_loopw [5] (fun i wr=>∃j:Nat,j<=l.length/\i=.int .i64 j/\SC l most j=eF [] most l/\Below w.heap.size w wr) (fun i _=>l.length -(intOf i).toNat)
 case atStart=>exact⟨0,by omega,rfl,rfl,GZ4 _ _⟩
 case round=>
  obtain⟨j,hj,rfl,hE,hb⟩:=hrel
  have HE:=Hp hE
  have HB:=Hp hb
  clear hE
  by_cases hlt:j<l.length
  ·have hlt':(j:Int)<l.length:=by omega
   obtain⟨ad,rfl,hab,h0,h1⟩:=mF HR.out hb j hlt
   clear hb
   have hsz:=HS.out l[j] (GZ9 _)
   have c1:=Hp (fun W=>Sl l[j].name W hsz)
   cases hnm:isName l[j].name
   ·rw[hnm]at c1
    have e1:=Hp ((wM (most:=most) hlt hnm).symm.trans HE.out)
    clear hnm
    go_wp2_with (first|(go_at_call 142;(with_reducible refine(c1.out _).mono ?_);rintro e w' ⟨rfl,rfl⟩))
    go_ret
    exact⟨aC e1.out,HB.out⟩
   ·rw[hnm]at c1
    have HM:=Hp hnm
    clear hnm
    go_wp2_with (first|(go_at_call 142;(with_reducible refine(c1.out _).mono ?_);rintro e w' ⟨rfl,rfl⟩))
    go_loopw [6] (fun i wi=>∃k:Nat,k<=j/\i=.int .i64 k/\(∀k'(hk:k'<l.length),k'<k->l[k'].name≠l[j].name)/\Below w.heap.size w wi) (fun i _=>j -(intOf i).toNat)
    case atStart=>exact⟨0,by omega,rfl,by omega,HB.out⟩
    case round=>
     obtain⟨k,hk,rfl,hK,hb2⟩:=hrel
     have HK:=Hp hK
     have HB2:=Hp hb2
     clear hK
     obtain⟨_,ead,_,g0,g1⟩:=mF HR.out hb2 j hlt
     obtain rfl:=GY3 ead
     by_cases hkj:k<j
     ·have hkl:k<l.length:=by omega
      have hkj':(k:Int)<j:=by omega
      obtain⟨_,ead,_,f0,_⟩:=mF HR.out hb2 k hkl
      obtain rfl:=GY3 ead
      clear hb2 ead
      by_cases heq:l[k].name=l[j].name
      ·have e1:=Hp ((UN (most:=most) hlt HM.out hkl hkj heq).symm.trans HE.out)
       go_wp2_with fail
       go_quiet (fail)
       go_wp2_with fail
       go_ret
       exact⟨aC e1.out,below_drewN HB2.out _⟩
      ·have HQ:=Hp heq
       have hd:=mY heq
       clear heq
       go_wp2_with fail
       go_quiet (fail)
       go_wp2_with fail
       go_roundw
       case rel=>exact⟨k+1,by omega,by go_num,fun k' h' hlt=>by rcases Nat.lt_succ_iff_lt_or_eq.1 hlt with h|rfl;exact HK.out k' h' h;exact HQ.out,below_drewN HB2.out _⟩
       case measure=>(simp[intOf];try omega)
     ·obtain rfl:k=j:=by omega
      clear hb2 ead
      by_cases hr:0<=l[k].at_/\l[k].at_<most
      ·have e1:=Hp ((vT hlt HM.out (fun k' h' hlt=>HK.out k' h' hlt) hr).trans HE.out)
       have c4:=Hp (fun W=>bK l[k].at_ 0 (most -1) W hr.1 (by omega))
       clear hr
       go_wp2_with (first|(go_at_call 75;(with_reducible refine(c4.out _).mono ?_);rintro e w' ⟨rfl,rfl⟩))
       go_roundw
       case rel=>exact⟨k+1,by omega,by go_num,e1.out,HB2.out⟩
       case measure=>(simp[intOf];try omega)
      ·have e1:=Hp ((sI hlt HM.out (fun k' h' hlt=>HK.out k' h' hlt) (by omega)).symm.trans HE.out)
       have c4:=Hp (fun W=>RQ l[k].at_ 0 (most -1) W (by omega))
       clear hr
       go_wp2_with (first|(go_at_call 75;(with_reducible refine(c4.out _).mono ?_);rintro e w' ⟨rfl,rfl⟩))
       go_ret
       exact⟨aC e1.out,HB2.out⟩
  ·have e1:=Hp ((yO (most:=most) hlt).symm.trans HE.out)
   go_wp2_with fail
   go_ret
   exact⟨aC e1.out,HB.out⟩
end
section
open Go.RowKit
def zI (W:World)(b:Nat)(t:TypeId):Prop:=∃(x y:Int)(A1:Option Addr)(n1 c1:Nat)(A2:Option Addr)(n2 c2:Nat),W.heap[b]? =some (.cells #[.int .i64 x,.int .i64 y,.slice A1 n1 c1,.slice A2 n2 c2] t (0,0))
theorem KC {W:World}{b:Nat}{t:TypeId}{p:Addr}(h:zI W b t)(hp:p.block=b){u:Value}(hu:W.cell? p=some u):(p.off<2/\∃x,u=.int .i64 x)\/(2<=p.off/\∃A n c,u=.slice A n c):=by
 obtain⟨x,y,A1,n1,c1,A2,n2,c2,hb⟩:=h
 obtain⟨pb,o,sp⟩:=p
 subst hp
 simp only[World.cell?,hb]at hu
 split at hu
 ·cases hu
 ·match o,hu with
  |0,hu=>simp at hu;exact .inl ⟨by simp,x,hu.symm⟩
  |1,hu=>simp at hu;exact .inl ⟨by simp,y,hu.symm⟩
  |2,hu=>simp at hu;exact .inr ⟨by simp,_,_,_,hu.symm⟩
  |3,hu=>simp at hu;exact .inr ⟨by simp,_,_,_,hu.symm⟩
  |o+4,hu=>simp at hu
theorem JQ (a:Addr)(n:Nat):(a.add n).off=a.off+n:=by
 unfold Addr.add;split
 ·rename_i h;subst h;rfl
 ·rfl
theorem Reads.other {W W':World}{b k n:Nat}{t:TypeId}{A:Option Addr}{xs:List Value}(h:Reads W W.heap.size k A n xs)(hr:zI W b t)(ho:Only b W W')
  (hs:0<n->(∃s,xs[0]? =some (.string s))\/∃x0 x2,xs[0]? =some (.int .i64 x0)/\xs[2]? =some (.int .i64 x2)):Reads W' W'.heap.size k A n xs:=by
 refine⟨h.1,fun hn=>?_⟩
 obtain⟨ad,e,hb,hc⟩:=h.2 hn
 have hne:ad.block≠b:=fun hbb=>by
  rcases hs hn with⟨s,h0⟩|⟨x0,x2,h0,h2⟩
  ·rcases KC hr (by rw[aA];exact hbb) (hc 0 _ h0)with⟨_,x,h⟩|⟨_,_,_,_,h⟩<;>cases h
  ·rcases KC hr (by rw[aA];exact hbb) (hc 2 _ h2)with⟨h,_⟩|⟨_,_,_,_,h⟩
   ·rw[JQ]at h;omega
   ·cases h
 exact⟨ad,e,GY0 hb ho.size,fun j u hu=>by
  rw[<-hc j u hu]
  exact World.cell?_of_block (by rw[aA];exact ho.block ad.block hb hne)⟩
section
variable {W W':World} {b:Nat} {t:TypeId} (hr:zI W b t) (ho:Only b W W')
include hr ho
theorem Sj.other {A:Option Addr}{l:List Exp}(h:Sj W A l):Sj W' A l:=⟨Reads.other h.1 hr ho (fun hn=>by
 cases l with
 |nil=>simp at hn
 |cons x r=>exact .inl ⟨x.name,rfl⟩),h.2⟩
theorem TC.other {A:Option Addr}{l:List Imp}(h:TC W A l):TC W' A l:=⟨Reads.other h.1 hr ho (fun hn=>by
 cases l with
 |nil=>simp at hn
 |cons x r=>exact .inl ⟨x.mod,rfl⟩),h.2⟩
theorem pJ.other {A:Option Addr}{l:List Pat}(h:pJ W A l):pJ W' A l:=⟨Reads.other h.1 hr ho (fun hn=>by
 cases l with
 |nil=>simp at hn
 |cons x r=>exact .inr ⟨x.kind,x.sym,rfl,rfl⟩),h.2⟩
theorem Mod.ok.other {m:Mod}(h:m.ok W):m.ok W':=⟨Sj.other hr ho h.ex,TC.other hr ho h.im,pJ.other hr ho h.pa,h.name,h.text⟩
theorem Krn.ok.other {k:Krn}(h:k.ok W):k.ok W':=⟨Sj.other hr ho h.ex⟩
theorem aU.other {A:Option Addr}{l:List Plc}(h:aU W A l):aU W' A l:=⟨Reads.other h.row hr ho (fun hn=>by
 cases l with
 |nil=>simp at hn
 |cons x r=>exact .inl ⟨x.m.name,rfl⟩),h.len,fun x hx=>Mod.ok.other hr ho (h.each x hx)⟩
end
end
section
open Go.RowKit
theorem Iy :Holds 235:=⟨by kernel_rfl,by decide⟩
abbrev Wr (b:Nat)(l:List UInt8)(w:World):Prop:=Bld 235 b l w
theorem Eo (b g c k:Nat)(ns:List Int)(l:List UInt8)(w:World)(h:Wr b l w)(hg:w.heap[g]? =some (.cells (ns.map iv).toArray 3 (0,0)))(hgb:g≠b)(hk:k<=4)(hlen:l.length+ns.length*4<=90000):
  Calls Tryz.prog 196 #[.pointer (some ⟨b,0,none⟩),.int .i64 k,.slice (some ⟨g,0,none⟩) ns.length c] w fun e w'=>(∃u,e=.returned u)/\Wr b (l++ns.flatMap fun n=>digits n k) w'/\Below b w w'/\Kept b w w':=by
 have H:=Hp h
 have HG:=Hp hg
 clear h hg
 go_enter Tryz.func196,Tryz.ntmps196
 go_wp2_with fail
 go_loopw [10] (fun i wr=>∃(j:Nat),j<=ns.length/\i=.int .i64 j/\Wr b (l++(ns.take j).flatMap fun n=>digits n k) wr/\Below b w wr/\Kept b w wr) (fun i _=>ns.length -(intOf i).toNat)
 case atStart=>exact⟨0,by omega,rfl,by simpa using H.out,GZ4 _ _,Lib.OthersKept.refl _ _ _⟩
 case round=>
  obtain⟨j,hj,rfl,hw,hb,hkp⟩:=hrel
  have HW:=Hp hw
  have HB:=Hp hb
  have HK:=Hp hkp
  by_cases hlt:j<ns.length
  ·have hlt':(j:Int)<ns.length:=by omega
   have hgr:=hkp.heap HG.out hgb (by decide)
   have c0:wr.cell? ⟨g,j,none⟩=some (.int .i64 ns[j]):=by
    rw[Lib.cell_of_heap hgr]
    simp[hlt]
   have e1:=Sm (f:=fun n=>digits n k) hlt
   have hfl:=kF (f:=fun n=>digits n k) (K:=4) (l:=ns.take j) (fun x _=>by rw[digits_length];exact hk)
   rw[GY6]at hfl
   have hmin:min j ns.length=j:=by omega
   rw[hmin]at hfl
   obtain⟨n,hn⟩:=Nm (ns[j])
   rw[<-hn]at c0 e1
   have HE:=Hp e1
   have hd:=digits_length n k
   have hbw:=hw.lt
   have cB:=Hp (fun W=>Dt n k W hk)
   have cW:=Hp (fun W hW=>jW 235 b Iy (l++(ns.take j).flatMap fun n=>digits n k) ⟨(digits n k).toArray⟩ W hW (by
    have:(⟨(digits n k).toArray⟩:ByteArray).size=k:=by show(digits n k).toArray.size=k;simpa using hd
    rw[this,GZ8];omega))
   clear hw hb hkp hgr hn e1 hfl hmin hd
   go_wp2_with fail
   go_region_with (first|(go_at_call 240;refine(cB.out _).mono ?_;rintro e w2 ⟨rfl,hb2⟩;have hs2:wr.heap.size<=w2.heap.size:=hb2.size;have HW2:=Hp (Bld.below (w:=wr.drew) HW.out hb2))|(go_at_call 89;refine(cW.out _ HW2.out).mono ?_;rintro e w3 ⟨⟨u,rfl⟩,h3,hb3,hk3⟩))
   all_goals(
    have B3:=Hp ((HB.drew.trans (hb2.mono (show b<=wr.heap.size by omega))).trans hb3)
    have K3:=Hp ((HK.drew.trans (Kept.of_below hb2)).trans hk3)
    have H3:=Hp h3
    clear hb3 hk3 h3
    go_wp2_with fail
    go_roundw
    case rel=>exact⟨j+1,by omega,by go_num,by rw[HE.out,<-List.append_assoc];exact H3.out,B3.out,K3.out⟩
    case measure=>(simp[intOf];try omega))
  ·have e0:ns.take j=ns:=List.take_of_length_le (by omega)
   rw[e0]at HW
   go_wp2_with fail
   go_end0
   exact⟨⟨_,rfl⟩,HW.out,HB.out,HK.out⟩
theorem rH (b:Nat)(s:ByteArray)(l:List UInt8)(w:World)(h:Wr b l w)(hlen:l.length+s.size<=80000):
  Calls Tryz.prog 195 #[.pointer (some ⟨b,0,none⟩),.string s] w fun e w'=>(∃u,e=.returned u)/\Wr b (l++bL s) w'/\Below b w w'/\Kept b w w':=by
 have hbl:=h.lt
 obtain⟨w0,hw0⟩:=Nm (w.alloc (.cells #[.int .i64 s.size] 3))
 have hb0:Below w.heap.size w w0:=by subst hw0;exact ZB
 have hg:w0.heap[w.heap.size]? =some (.cells #[.int .i64 s.size] 3 (0,0)):=by subst hw0;exact heap_alloc_new _ _
 have hw0':=hw0.symm
 have cP:=Hp (Eo b w.heap.size 1 1 [(s.size:Int)] l w0 (h.below hb0) hg (by omega) (by omega) (by simp;omega))
 have cW:=Hp (fun W hW=>jW 235 b Iy (l++[(s.size:Int)].flatMap fun n=>digits n 1) s W hW (by
  simp only[List.flatMap_cons,List.flatMap_nil,List.append_nil,GZ8,digits_length];omega))
 have HE:=Hp (show(l++[(s.size:Int)].flatMap fun n=>digits n 1)++s.data.toList=l++bL s by simp[bL])
 have HB:=Hp hb0
 clear hw0 hb0 hg h
 go_enter Tryz.func195,Tryz.ntmps195
 go_wp2_with (first|(go_at_call 196;refine(cP.out).mono ?_;rintro e w2 ⟨⟨u,rfl⟩,h2,hb2,hk2⟩;have H2:=Hp h2;clear h2)|(go_at_call 89;refine(cW.out _ H2.out).mono ?_;rintro e w3 ⟨⟨u,rfl⟩,h3,hb3,hk3⟩))
 go_end0
 exact⟨⟨_,rfl⟩,by rw[<-HE.out];exact h3,((HB.mono (by omega)).trans hb2).trans hb3,((Kept.of_below HB.out).trans hk2).trans hk3⟩
end
section
open Go.RowKit
theorem jH (b k:Nat)(n:Int)(l:List UInt8)(w:World)(h:Wr b l w)(hk:k<=4)(hlen:l.length<=80000):
  Calls Tryz.prog 196 #[.pointer (some ⟨b,0,none⟩),.int .i64 k,.slice (some ⟨w.heap.size,0,none⟩) 1 1] (w.alloc (.cells #[.int .i64 n] 3)) fun e w'=>(∃u,e=.returned u)/\Wr b (l++digits n k) w'/\Below b w w'/\Kept b w w':=by
 have hb0:Below w.heap.size w (w.alloc (.cells #[.int .i64 n] 3)):=ZB
 have hbl:=h.lt
 refine(Eo b w.heap.size 1 k [n] l _ (h.below hb0) (heap_alloc_new _ _) (by omega) hk (by simp;omega)).mono ?_
 rintro e w' ⟨hu,h2,hb2,hk2⟩
 refine⟨hu,?_,(hb0.mono (by omega)).trans hb2,(Kept.of_below hb0).trans hk2⟩
 simpa using h2
theorem Gt (b k:Nat)(n m:Int)(l:List UInt8)(w:World)(h:Wr b l w)(hk:k<=4)(hlen:l.length<=80000):
  Calls Tryz.prog 196 #[.pointer (some ⟨b,0,none⟩),.int .i64 k,.slice (some ⟨w.heap.size,0,none⟩) 2 2] (w.alloc (.cells #[.int .i64 n,.int .i64 m] 3)) fun e w'=>(∃u,e=.returned u)/\Wr b (l++digits n k++digits m k) w'/\Below b w w'/\Kept b w w':=by
 have hb0:Below w.heap.size w (w.alloc (.cells #[.int .i64 n,.int .i64 m] 3)):=ZB
 have hbl:=h.lt
 refine(Eo b w.heap.size 2 k [n,m] l _ (h.below hb0) (heap_alloc_new _ _) (by omega) hk (by simp;omega)).mono ?_
 rintro e w' ⟨hu,h2,hb2,hk2⟩
 refine⟨hu,?_,(hb0.mono (by omega)).trans hb2,(Kept.of_below hb0).trans hk2⟩
 simpa using h2
theorem nX {n:Nat}{w0 wk:World}(hb:Below (n+1) w0 wk):∀o,wk.cell? ⟨n,o,none⟩=w0.cell? ⟨n,o,none⟩:=fun o=>hb.cell (p:=⟨n,o,none⟩) (Nat.lt_succ_self n)
theorem Ug {i:Imp}(h:dP i=0):isName i.mod=true/\isName i.name=true/\0<=i.major/\i.major<=255/\0<=i.minor/\i.minor<=255:=by
 unfold dP at h
 by_cases h1:isName i.mod=false\/isName i.name=false
 ·rw[if_pos h1]at h;omega
 rw[if_neg h1]at h
 by_cases h2:i.major<0\/255<i.major\/i.minor<0\/255<i.minor
 ·rw[if_pos h2]at h;omega
 simp only[not_or,Bool.not_eq_false]at h1
 exact⟨h1.1,h1.2,by omega⟩
theorem kX :∀{l:List Imp}{seen:List (ByteArray×ByteArray)},eP seen l=0->∀x∈l,dP x=0
 |y::l,seen,h,x,hx=>by
  unfold eP at h
  by_cases h1:dP y=1
  ·rw[if_pos h1]at h;omega
  rw[if_neg h1]at h
  split at h
  ·omega
  ·by_cases h2:dP y=0
   ·rw[if_neg (by omega)]at h
    rcases List.mem_cons.1 hx with rfl|hx
    ·exact h2
    ·exact kX h x hx
   ·rw[if_pos h2]at h;exact absurd h h2
theorem uB {m:Mod}(h:aL m=0):m.name.size<=10/\m.text.size<=256/\m.ex.length<=6/\m.im.length<=6/\m.pa.length<=12/\(∀x∈m.ex,(eX x).length<=13)/\(∀x∈m.im,(eG x).length<=24):=by
 obtain⟨h1,_,h3,_,_,h6,h7,h8,h9,h10,_⟩:=aY h
 refine⟨RZ h1,h3,h6,h7,h8,fun x hx=>?_,fun x hx=>?_⟩
 ·have:=RZ (lJ h9 x hx).1
  rw[lS];omega
 ·have:=Ug (kX h10 x hx)
  have h1:=RZ this.1
  have h2:=RZ this.2.1
  rw[nW];omega
theorem uW {z ni:Int}:∀{l:List Pat}{e:Int},Rp z ni e l=0->∀p∈l,∃e',iM z ni e' p=0
 |p::l,e,h,q,hq=>by
  unfold Rp at h
  by_cases h1:iM z ni e p=0
  ·rw[if_neg (by omega)]at h
   rcases List.mem_cons.1 hq with rfl|hq
   ·exact⟨e,h1⟩
   ·exact uW h q hq
  ·rw[if_pos h1]at h;exact absurd h h1
theorem AA {z ni e:Int}{p:Pat}(h:iM z ni e p=0):aK p.kind≠0/\ -1<=p.sym/\p.sym<ni/\0<=p.add/\p.add<=65535/\0<=p.at_/\p.at_<=z -aK p.kind:=by
 unfold iM at h
 by_cases h1:aK p.kind=0
 ·rw[if_pos h1]at h;omega
 rw[if_neg h1]at h
 split at h
 ·omega
 ·exact⟨h1,by omega⟩
theorem DX {m:Mod}(h:aL m=0):Rp m.text.size m.im.length 0 m.pa=0:=by
 obtain⟨h1,h2,h3,h4,h5,h6,h7,h8,h9,h10,h11⟩:=aY h
 unfold aL at h
 rw[if_neg (by simp[h1,h2]),if_neg (by omega),if_neg (by omega),if_neg (by omega),if_neg (by omega),if_neg (by omega)]at h
 exact h
theorem Gx {m:Mod}(h:aL m=0):∀p∈m.pa,-1<=p.sym/\p.sym<6:=fun p hp=>by
 obtain⟨e,he⟩:=uW (DX h) p hp
 have:=AA he
 have h7:=(aY h).2.2.2.2.2.2.1
 omega
theorem Jg (m:Mod)(w:World)(hm:m.ok w)(he:aL m=0):
  Calls Tryz.prog 126 #[m.v] w fun e w'=>e=.returned (.string ⟨(dK m).toArray⟩)/\Below w.heap.size w w':=by
 obtain⟨b1,b2,b3,b4,b5,b6,b7⟩:=uB he
 obtain⟨w0,hw0⟩:=Nm (w.alloc (.cells #[.string m.name,.int .i64 m.major,.int .i64 m.minor,.string m.text,.slice m.eA m.ex.length m.eC,.slice m.iA m.im.length m.iC,.slice m.pA m.pa.length m.pC] 70))
 obtain⟨e0,e1,e2,e3,e4,e5,e6,hz,hb⟩:=wE hw0
 obtain⟨eA,heA⟩:=Nm m.eA
 obtain⟨iA,hiA⟩:=Nm m.iA
 obtain⟨pA,hpA⟩:=Nm m.pA
 rw[<-heA]at e4
 rw[<-hiA]at e5
 rw[<-hpA]at e6
 have HEA:=Hp heA
 have HIA:=Hp hiA
 have HPA:=Hp hpA
 have hw0':=hw0.symm
 have hz0:w.heap.size<w0.heap.size:=by omega
 have H0:=Hp hb
 obtain⟨w1,hw1⟩:=Nm (w0.alloc (.cells #[.pointer none,.slice none 0 0] 235))
 have hr1:Wr (w.heap.size+1) [] w1:=by
  have:=Lib.fresh_isBuilder 235 5 w0
  rw[hz]at this
  exact hw1▸this
 have hbB1:Below (w.heap.size+1) w0 w1:=by rw[hw1];exact(GZ4 _ _).alloc (by omega) _
 have hw1':=hw1.symm
 have HM:=Hp hm
 have R1:=Hp hr1
 have B1:=Hp hbB1
 have c1:=nX hbB1
 have hend:dK m=dK m:=rfl
 have hN:m.name.data.toList.length=m.name.size:=by rw[Array.length_toList];rfl
 have hT:m.text.data.toList.length=m.text.size:=by rw[Array.length_toList];rfl
 clear hw0 hb hw1 hr1 hbB1 hend hm heA hiA hpA
 go_enter Tryz.func126,Tryz.ntmps126
 go_wp2_with fail
 refine(rH (w.heap.size+1) m.name [] w1 R1.out (by simp;omega)).mono ?_
 rintro e w2 ⟨⟨u2,rfl⟩,h2,hb2,hk2⟩
 have B2:=Hp (B1.trans hb2)
 have c2:=nX B2.out
 have R2:=Hp h2
 clear h2 hb2 hk2 c1
 go_wp2_with fail
 refine(Gt (w.heap.size+1) 1 m.major m.minor _ w2 R2.out (by omega) (by simp only[List.nil_append,aT];omega)).mono ?_
 rintro e w3 ⟨⟨u3,rfl⟩,h3,hb3,hk3⟩
 have B3:=Hp (B2.trans hb3)
 have c3:=nX B3.out
 have R3:=Hp h3
 clear h3 hb3 hk3 c2
 go_wp2_with fail
 refine(jH (w.heap.size+1) 2 m.text.size _ w3 R3.out (by omega) (by simp only[List.nil_append,GZ8,digits_length,aT];omega)).mono ?_
 rintro e w4 ⟨⟨u4,rfl⟩,h4,hb4,hk4⟩
 have B4:=Hp (B3.trans hb4)
 have c4:=nX B4.out
 have R4:=Hp h4
 clear h4 hb4 hk4 c3
 go_wp2_with fail
 go_region_with (go_at_call 89;refine(jW 235 (w.heap.size+1) Iy _ m.text w4.drew R4.out (by simp only[List.nil_append,GZ8,digits_length,aT];omega)).mono ?_;rintro e w5 ⟨⟨u5,rfl⟩,h5,hb5,hk5⟩)
 obtain⟨P,hP⟩:=Nm (kG m)
 have R5:=Hp (show Wr (w.heap.size+1) P w5 by rw[hP];simpa[kG]using h5)
 have hPl:P.length<=280:=by rw[hP];unfold kG;simp only[GZ8,digits_length,aT,hT];omega
 have HENC:=Hp (show dK m=P++digits m.ex.length 1++m.ex.flatMap eX++digits m.im.length 1++m.im.flatMap eG++digits m.pa.length 1++m.pa.flatMap gB by rw[hP];rfl)
 have B5:=Hp (B4.drew.trans hb5)
 have c5:=nX B5.out
 clear h5 hb5 hk5 c4 hP R4 R3 R2
 go_wp2_with fail
 refine(jH (w.heap.size+1) 1 m.ex.length _ w5 R5.out (by omega) (by omega)).mono ?_
 rintro e w6 ⟨⟨u6,rfl⟩,h6,hb6,hk6⟩
 obtain⟨P1,hP1⟩:=Nm (P++digits m.ex.length 1)
 have hP1l:P1.length<=281:=by rw[hP1,GZ8,digits_length];omega
 rw[<-hP1]at h6 HENC
 have R6:=Hp h6
 have B6:=Hp (B5.trans hb6)
 have c6:=nX B6.out
 clear h6 hb6 hk6 c5 hP1 R5
 go_wp2_with fail
 go_loopw [44] (fun i wr=>∃(j:Nat),j<=m.ex.length/\i=.int .i64 j/\Wr (w.heap.size+1) (P1++(m.ex.take j).flatMap eX) wr/\Below (w.heap.size+1) w0 wr) (fun i _=>m.ex.length -(intOf i).toNat)
 case atStart=>exact⟨0,by omega,rfl,by simpa using R6.out,B6.out⟩
 case round=>
  obtain⟨j,hj,rfl,hw,hb⟩:=hrel
  have HB:=Hp hb
  have HW:=Hp hw
  have hbw:=hw.lt
  have HX:=Hp (show Below w.heap.size w wr from H0.trans (hb.mono (by omega)))
  have hfl:=kF (f:=eX) (K:=13) (l:=m.ex.take j) (fun x hx=>b6 x (List.mem_of_mem_take hx))
  rw[GY6]at hfl
  have hfl2:(P1++(m.ex.take j).flatMap eX).length<=400:=by rw[GZ8];omega
  by_cases hlt:j<m.ex.length
  ·have hlt':(j:Int)<m.ex.length:=by omega
   obtain⟨ad,ead,hab,h0,h1⟩:=mF HM.ex.1 HX.out j hlt
   obtain rfl:eA=some ad:=HEA.trans ead
   clear ead
   have HE:=Hp (Sm (f:=eX) hlt)
   have hx:=b6 (m.ex[j]'hlt) (GZ9 _)
   obtain⟨x,hxx⟩:=Nm (m.ex[j]'hlt)
   rw[<-hxx]at h0 h1 HE hx
   rw[lS]at hx
   obtain⟨wx,hwx⟩:=Nm (wr.alloc (.cells #[.string x.name,.int .i64 x.at_] 159))
   obtain⟨x0,x1,hzx,hbx⟩:=Qz hwx
   have hgx:wx.heap[wr.heap.size]? =some (.cells #[.string x.name,.int .i64 x.at_] 159 (0,0)):=hwx▸heap_alloc_new _ _
   have HGX:=Hp hgx
   have hwx':=hwx.symm
   have RX:=Hp (HW.below hbx)
   have BX:=Hp (HB.trans (hbx.mono (by omega)))
   clear hb hw hfl hxx hwx hgx hbx
   go_wp2_with fail
   refine(rH (w.heap.size+1) x.name _ wx RX.out (by omega)).mono ?_
   rintro e w7 ⟨⟨u7,rfl⟩,h7,hb7,hk7⟩
   have R7:=Hp h7
   have B7:=Hp (BX.trans hb7)
   have hg7:=hk7.heap HGX.out (by omega) (by decide)
   have y0:w7.cell? ⟨wr.heap.size,0,none⟩=some (.string x.name):=by rw[Lib.cell_of_heap hg7];rfl
   have y1:w7.cell? ⟨wr.heap.size,1,none⟩=some (.int .i64 x.at_):=by rw[Lib.cell_of_heap hg7];rfl
   clear h7 hb7 hk7 hg7 x0 x1
   go_wp2_with fail
   refine(jH (w.heap.size+1) 2 x.at_ _ w7 R7.out (by omega) (by rw[GZ8,aT];omega)).mono ?_
   rintro e w8 ⟨⟨u8,rfl⟩,h8,hb8,hk8⟩
   have R8:=Hp h8
   have B8:=Hp (B7.trans hb8)
   clear h8 hb8 hk8 y0 y1
   go_wp2_with fail
   go_roundw
   case rel=>exact⟨j+1,by omega,by go_num,by rw[HE.out];have:=R8.out;simpa[eX]using this,B8.out⟩
   case measure=>(simp[intOf];try omega)
  ·have e0:m.ex.take j=m.ex:=List.take_of_length_le (by omega)
   rw[e0]at HW hfl2
   have c9:=nX HB.out
   clear e0 hfl hb hw
   go_wp2_with fail
   refine(jH (w.heap.size+1) 1 m.im.length _ wr HW.out (by omega) (by omega)).mono ?_
   rintro e w6 ⟨⟨u6,rfl⟩,h6,hb6,hk6⟩
   obtain⟨P2,hP2⟩:=Nm (P1++m.ex.flatMap eX++digits m.im.length 1)
   have hP2l:P2.length<=401:=by rw[hP2,GZ8,digits_length];omega
   rw[<-hP2]at h6 HENC
   have R6:=Hp h6
   have B6:=Hp (HB.trans hb6)
   have c6:=nX B6.out
   clear h6 hb6 hk6 c9 hP2 HW HB hfl2
   go_wp2_with fail
   go_loopw [67] (fun i wr=>∃(j:Nat),j<=m.im.length/\i=.int .i64 j/\Wr (w.heap.size+1) (P2++(m.im.take j).flatMap eG) wr/\Below (w.heap.size+1) w0 wr) (fun i _=>m.im.length -(intOf i).toNat)
   case atStart=>exact⟨0,by omega,rfl,by simpa using R6.out,B6.out⟩
   case round=>
    obtain⟨j,hj,rfl,hw,hb⟩:=hrel
    have HB:=Hp hb
    have HW:=Hp hw
    have hbw:=hw.lt
    have HX:=Hp (show Below w.heap.size w wr from H0.trans (hb.mono (by omega)))
    have hfl:=kF (f:=eG) (K:=24) (l:=m.im.take j) (fun x hx=>b7 x (List.mem_of_mem_take hx))
    rw[GY6]at hfl
    have hfl2:(P2++(m.im.take j).flatMap eG).length<=600:=by rw[GZ8];omega
    by_cases hlt:j<m.im.length
    ·have hlt':(j:Int)<m.im.length:=by omega
     obtain⟨ad,ead,hab,h0,h1,h2,h3⟩:=TA HM.im.1 HX.out j hlt
     obtain rfl:iA=some ad:=HIA.trans ead
     have HE:=Hp (Sm (f:=eG) hlt)
     have hx:=b7 (m.im[j]'hlt) (GZ9 _)
     obtain⟨x,hxx⟩:=Nm (m.im[j]'hlt)
     rw[<-hxx]at h0 h1 h2 h3 HE hx
     rw[nW]at hx
     obtain⟨wx,hwx⟩:=Nm (wr.alloc (.cells #[.string x.mod,.string x.name,.int .i64 x.major,.int .i64 x.minor] 173))
     obtain⟨x0,x1,x2,x3,hzx,hbx⟩:=oJ hwx
     have HGX:=Hp (show wx.heap[wr.heap.size]? =some (.cells #[.string x.mod,.string x.name,.int .i64 x.major,.int .i64 x.minor] 173 (0,0)) from hwx▸heap_alloc_new _ _)
     have hwx':=hwx.symm
     have RX:=Hp (HW.below hbx)
     have BX:=Hp (HB.trans (hbx.mono (by omega)))
     clear hb hw hfl hxx hwx hbx ead
     go_wp2_with fail
     refine(rH (w.heap.size+1) x.mod _ wx RX.out (by omega)).mono ?_
     rintro e w7 ⟨⟨u7,rfl⟩,h7,hb7,hk7⟩
     have R7:=Hp h7
     have B7:=Hp (BX.trans hb7)
     have HG7:=Hp (hk7.heap HGX.out (by omega) (by decide))
     have y1:w7.cell? ⟨wr.heap.size,1,none⟩=some (.string x.name):=by rw[Lib.cell_of_heap HG7.out];rfl
     clear h7 hb7 hk7 x0 x1 x2 x3
     go_wp2_with fail
     refine(rH (w.heap.size+1) x.name _ w7 R7.out (by rw[GZ8,aT];omega)).mono ?_
     rintro e w8 ⟨⟨u8,rfl⟩,h8,hb8,hk8⟩
     have R8:=Hp h8
     have B8:=Hp (B7.trans hb8)
     have HG8:=Hp (hk8.heap HG7.out (by omega) (by decide))
     have y2:w8.cell? ⟨wr.heap.size,2,none⟩=some (.int .i64 x.major):=by rw[Lib.cell_of_heap HG8.out];rfl
     have y3:w8.cell? ⟨wr.heap.size,3,none⟩=some (.int .i64 x.minor):=by rw[Lib.cell_of_heap HG8.out];rfl
     clear h8 hb8 hk8 y1
     go_wp2_with fail
     refine(Gt (w.heap.size+1) 1 x.major x.minor _ w8 R8.out (by omega) (by rw[GZ8,GZ8,aT,aT];omega)).mono ?_
     rintro e w9 ⟨⟨u9,rfl⟩,h9,hb9,hk9⟩
     have R9:=Hp h9
     have B9:=Hp (B8.trans hb9)
     clear h9 hb9 hk9 y2 y3
     go_wp2_with fail
     go_roundw
     case rel=>exact⟨j+1,by omega,by go_num,by rw[HE.out];have:=R9.out;simpa[eG]using this,B9.out⟩
     case measure=>(simp[intOf];try omega)
    ·have e0:m.im.take j=m.im:=List.take_of_length_le (by omega)
     rw[e0]at HW hfl2
     have c9:=nX HB.out
     clear e0 hfl hb hw
     go_wp2_with fail
     refine(jH (w.heap.size+1) 1 m.pa.length _ wr HW.out (by omega) (by omega)).mono ?_
     rintro e w6 ⟨⟨u6,rfl⟩,h6,hb6,hk6⟩
     obtain⟨P3,hP3⟩:=Nm (P2++m.im.flatMap eG++digits m.pa.length 1)
     have hP3l:P3.length<=601:=by rw[hP3,GZ8,digits_length];omega
     have hP30:P3≠[]:=by rw[hP3];intro h;have:=congrArg List.length h;rw[GZ8,digits_length]at this;simp at this
     rw[<-hP3]at h6 HENC
     have R6:=Hp h6
     have B6:=Hp (HB.trans hb6)
     have c6:=nX B6.out
     have HP30:=Hp hP30
     clear h6 hb6 hk6 c9 hP3 HW HB hfl2 hP30
     go_wp2_with fail
     go_loopw [96] (fun i wr=>∃(j:Nat),j<=m.pa.length/\i=.int .i64 j/\Wr (w.heap.size+1) (P3++(m.pa.take j).flatMap gB) wr/\Below (w.heap.size+1) w0 wr) (fun i _=>m.pa.length -(intOf i).toNat)
     case atStart=>exact⟨0,by omega,rfl,by simpa using R6.out,B6.out⟩
     case round=>
      obtain⟨j,hj,rfl,hw,hb⟩:=hrel
      have HB:=Hp hb
      have HW:=Hp hw
      have hbw:=hw.lt
      have HX:=Hp (show Below w.heap.size w wr from H0.trans (hb.mono (by omega)))
      have hfl:=kF (f:=gB) (K:=6) (l:=m.pa.take j) (fun x _=>by rw[lK];omega)
      rw[GY6]at hfl
      have hfl2:(P3++(m.pa.take j).flatMap gB).length<=700:=by rw[GZ8];omega
      by_cases hlt:j<m.pa.length
      ·have hlt':(j:Int)<m.pa.length:=by omega
       obtain⟨ad,ead,hab,h0,h1,h2,h3⟩:=qE HM.pa.1 HX.out j hlt
       obtain rfl:pA=some ad:=HPA.trans ead
       have HE:=Hp (Sm (f:=gB) hlt)
       have hx:=Gx he (m.pa[j]'hlt) (GZ9 _)
       obtain⟨x,hxx⟩:=Nm (m.pa[j]'hlt)
       rw[<-hxx]at h0 h1 h2 h3 HE hx
       have Q1:=Hp (show wrap64 (x.sym+1)=x.sym+1 from IntWalk.wrap64_in _ (by omega))
       clear hx
       obtain⟨wx,hwx⟩:=Nm (wr.alloc (.cells #[.int .i64 x.kind,.int .i64 x.at_,.int .i64 x.sym,.int .i64 x.add] 180))
       obtain⟨x0,x1,x2,x3,hzx,hbx⟩:=oJ hwx
       have HGX:=Hp (show wx.heap[wr.heap.size]? =some (.cells #[.int .i64 x.kind,.int .i64 x.at_,.int .i64 x.sym,.int .i64 x.add] 180 (0,0)) from hwx▸heap_alloc_new _ _)
       have hwx':=hwx.symm
       have RX:=Hp (HW.below hbx)
       have BX:=Hp (HB.trans (hbx.mono (by omega)))
       clear hb hw hfl hxx hwx hbx ead hzx
       go_wp2_with fail
       refine(jH (w.heap.size+1) 1 x.kind _ wx RX.out (by omega) (by omega)).mono ?_
       rintro e w7 ⟨⟨u7,rfl⟩,h7,hb7,hk7⟩
       have R7:=Hp h7
       have B7:=Hp (BX.trans hb7)
       have HG7:=Hp (hk7.heap HGX.out (by omega) (by decide))
       have y1:w7.cell? ⟨wr.heap.size,1,none⟩=some (.int .i64 x.at_):=by rw[Lib.cell_of_heap HG7.out];rfl
       clear h7 hb7 hk7 x0 x1 x2 x3
       go_wp2_with fail
       refine(jH (w.heap.size+1) 2 x.at_ _ w7 R7.out (by omega) (by rw[GZ8,digits_length];omega)).mono ?_
       rintro e w8 ⟨⟨u8,rfl⟩,h8,hb8,hk8⟩
       have R8:=Hp h8
       have B8:=Hp (B7.trans hb8)
       have HG8:=Hp (hk8.heap HG7.out (by omega) (by decide))
       have y2:w8.cell? ⟨wr.heap.size,2,none⟩=some (.int .i64 x.sym):=by rw[Lib.cell_of_heap HG8.out];rfl
       clear h8 hb8 hk8 y1
       go_wp2_with fail
       rw[Q1.out]
       refine(jH (w.heap.size+1) 1 (x.sym+1) _ w8 R8.out (by omega) (by rw[GZ8,GZ8,digits_length,digits_length];omega)).mono ?_
       rintro e w9 ⟨⟨u9,rfl⟩,h9,hb9,hk9⟩
       have R9:=Hp h9
       have B9:=Hp (B8.trans hb9)
       have HG9:=Hp (hk9.heap HG8.out (by omega) (by decide))
       have y3:w9.cell? ⟨wr.heap.size,3,none⟩=some (.int .i64 x.add):=by rw[Lib.cell_of_heap HG9.out];rfl
       clear h9 hb9 hk9 y2
       go_wp2_with fail
       refine(jH (w.heap.size+1) 2 x.add _ w9 R9.out (by omega) (by rw[GZ8,GZ8,GZ8,digits_length,digits_length,digits_length];omega)).mono ?_
       rintro e w10 ⟨⟨u10,rfl⟩,h10,hb10,hk10⟩
       have R10:=Hp h10
       have B10:=Hp (B9.trans hb10)
       clear h10 hb10 hk10 y3
       go_wp2_with fail
       go_roundw
       case rel=>exact⟨j+1,by omega,by go_num,by rw[HE.out];have:=R10.out;simpa[gB]using this,B10.out⟩
       case measure=>(simp[intOf];try omega)
      ·have e0:m.pa.take j=m.pa:=List.take_of_length_le (by omega)
       rw[e0]at HW hfl2
       clear e0 hfl hb hw
       go_wp2_with fail
       refine(GN 235 (w.heap.size+1) _ wr HW.out (by intro h;exact HP30.out (List.append_eq_nil_iff.1 h).1)).mono ?_
       rintro e w6 ⟨rfl,hb6⟩
       go_wp2_with fail
       go_ret
       exact⟨by rw[HENC.out];rfl,H0.trans ((HB.trans hb6).mono (by omega))⟩
end
section
open Go
theorem Ep {n:Nat}{a r:List UInt8}(h:a.length=n):txt n (some (a++r))=(a,some r):=by
 rw[oU (by rw[GZ8];omega)]
 subst h
 simp
theorem gG {k:Nat}{n:Int}(r:List UInt8)(h0:0<=n)(h:n<dV k):aI k (some (digits n k++r))=(n,some r):=by
 unfold aI
 rw[Ep (digits_length n k),CB,Int.emod_eq_of_lt h0 h]
theorem xH :dV 1=256:=by rw[qN];rfl
theorem E9 :dV 2=65536:=by rw[qN];rfl
theorem iJ (s:ByteArray):sof s.data.toList=s:=by cases s;simp
theorem AR (s:ByteArray):s.data.toList.length=s.size:=by rw[Array.length_toList];rfl
theorem zK (s:ByteArray)(r:List UInt8)(h:s.size<=255):nam (some (bL s++r))=(s.data.toList,some r):=by
 have e:bL s++r=digits s.size 1++(s.data.toList++r):=by unfold bL;rw[List.append_assoc]
 unfold nam
 rw[e,gG _ (by omega) (by rw[xH];omega)]
 exact Ep (by rw[AR];omega)
theorem PM (x:Exp)(r:List UInt8)(h:x.name.size<=255)(h0:0<=x.at_)(h1:x.at_<65536):gF (some (eX x++r))=(x,some r):=by
 have e:eX x++r=bL x.name++(digits x.at_ 2++r):=by unfold eX;rw[List.append_assoc]
 unfold gF
 rw[e,zK _ _ h]
 simp only
 rw[gG _ h0 (by rw[E9];omega),iJ]
theorem Oj (x:Imp)(r:List UInt8)(h:x.mod.size<=255)(h':x.name.size<=255)(h0:0<=x.major)(h1:x.major<=255)(h2:0<=x.minor)(h3:x.minor<=255):Ro (some (eG x++r))=(x,some r):=by
 have e:eG x++r=bL x.mod++(bL x.name++(digits x.major 1++(digits x.minor 1++r))):=by unfold eG;simp only[List.append_assoc]
 unfold Ro
 rw[e,zK _ _ h]
 simp only
 rw[zK _ _ h']
 simp only
 rw[gG _ h0 (by rw[xH];omega)]
 simp only
 rw[gG _ h2 (by rw[xH];omega),iJ,iJ]
theorem PQ (x:Pat)(r:List UInt8)(h0:0<=x.kind)(h1:x.kind<=255)(h2:0<=x.at_)(h3:x.at_<65536)(h4: -1<=x.sym)(h5:x.sym<=100)(h6:0<=x.add)(h7:x.add<65536):fZ (some (gB x++r))=(x,some r):=by
 have e:gB x++r=digits x.kind 1++(digits x.at_ 2++(digits (x.sym+1) 1++(digits x.add 2++r))):=by unfold gB;simp only[List.append_assoc]
 unfold fZ
 rw[e,gG _ h0 (by rw[xH];omega)]
 simp only
 rw[gG _ h2 (by rw[E9];omega)]
 simp only
 rw[gG _ (by omega) (by rw[xH];omega)]
 simp only
 rw[gG _ h6 (by rw[E9];omega)]
 simp only[Prod.mk.injEq,and_true]
 rw[show x.sym+1 -1=x.sym by omega]
theorem wB {α:Type}{f:Rest->α×Rest}{enc:α->List UInt8}:∀{xs:List α}(r:List UInt8),(∀x∈xs,∀r,f (some (enc x++r))=(x,some r))->dU f xs.length (some (xs.flatMap enc++r))=(xs,some r)
 | [],r,_=>rfl
 |x::xs,r,h=>by
  have e:(x::xs).flatMap enc++r=enc x++(xs.flatMap enc++r):=by rw[List.flatMap_cons,List.append_assoc]
  rw[GY8,e]
  show((f (some (enc x++(xs.flatMap enc++r)))).1::(dU f xs.length (f (some (enc x++(xs.flatMap enc++r)))).2).1,(dU f xs.length (f (some (enc x++(xs.flatMap enc++r)))).2).2)=_
  rw[h x (by simp)]
  simp only
  rw[wB r fun y hy=>h y (List.mem_cons_of_mem _ hy)]
theorem Pk {m:Mod}(h:aL m=0):(d7 (dK m)).2=some []/\gI (pQ (dK m)) m:=by
 obtain⟨h1,h2,h3,h4,h5,h6,h7,h8,h9,h10,h11⟩:=aY h
 have hn:=RZ h1
 obtain⟨q9,hq9⟩:=Nm (m.pa.flatMap gB++([]:List UInt8))
 obtain⟨q8,hq8⟩:=Nm (digits m.pa.length 1++q9)
 obtain⟨q7,hq7⟩:=Nm (m.im.flatMap eG++q8)
 obtain⟨q6,hq6⟩:=Nm (digits m.im.length 1++q7)
 obtain⟨q5,hq5⟩:=Nm (m.ex.flatMap eX++q6)
 obtain⟨q4,hq4⟩:=Nm (digits m.ex.length 1++q5)
 obtain⟨q3,hq3⟩:=Nm (m.text.data.toList++q4)
 obtain⟨q2,hq2⟩:=Nm (digits m.text.size 2++q3)
 obtain⟨q1,hq1⟩:=Nm (digits m.minor 1++q2)
 obtain⟨q0,hq0⟩:=Nm (digits m.major 1++q1)
 have e:dK m=bL m.name++q0:=by
  rw[hq0,hq1,hq2,hq3,hq4,hq5,hq6,hq7,hq8,hq9]
  unfold dK kG
  simp only[List.append_assoc,List.append_nil]
 generalize hL:dK m=L at*
 have p1:=xH
 have p2:=E9
 have g0:d0 L=(m.name.data.toList,some q0):=by unfold d0;rw[e,zK _ _ (by omega)]
 have g1:d1 L=(m.major,some q1):=by unfold d1;rw[g0];simp only;rw[hq0,gG _ (by omega) (by omega)]
 have g2:d2 L=(m.minor,some q2):=by unfold d2;rw[g1];simp only;rw[hq1,gG _ (by omega) (by omega)]
 have g3:d3 L=((m.text.size:Int),some q3):=by unfold d3;rw[g2];simp only;rw[hq2,gG _ (by omega) (by omega)]
 have g4:d4 L=(m.text.data.toList,some q4):=by unfold d4;rw[g3];simp only;rw[hq3,Ep (by rw[AR];omega)]
 have g5:d5 L=(m.ex,some q6):=by
  unfold d5;rw[g4];simp only;rw[hq4,gG _ (by omega) (by omega)]
  simp only
  rw[show((m.ex.length:Int)).toNat=m.ex.length by omega,hq5,wB _ fun x hx r=>by
   have:=lJ h9 x hx
   have hs:=RZ this.1
   exact PM x r (by omega) this.2.1 (by omega)]
 have g6:d6 L=(m.im,some q8):=by
  unfold d6;rw[g5];simp only;rw[hq6,gG _ (by omega) (by omega)]
  simp only
  rw[show((m.im.length:Int)).toNat=m.im.length by omega,hq7,wB _ fun x hx r=>by
   have:=Ug (kX h10 x hx)
   have hs:=RZ this.1
   have hs':=RZ this.2.1
   exact Oj x r (by omega) (by omega) this.2.2.1 this.2.2.2.1 this.2.2.2.2.1 this.2.2.2.2.2]
 have g7:d7 L=(m.pa,some []):=by
  unfold d7;rw[g6];simp only;rw[hq8,gG _ (by omega) (by omega)]
  simp only
  rw[show((m.pa.length:Int)).toNat=m.pa.length by omega,hq9,wB _ fun x hx r=>by
   obtain⟨e,he⟩:=uW (DX h) x hx
   have:=AA he
   have hk:=Rf x.kind
   exact PQ x r (by omega) (by omega) (by omega) (by omega) (by omega) (by omega) (by omega) (by omega)]
 refine⟨by rw[g7],?_⟩
 unfold pQ
 exact⟨by show sof (d0 L).1=_;rw[g0,iJ],by show(d1 L).1=_;rw[g1],by show(d2 L).1=_;rw[g2],by show sof (d4 L).1=_;rw[g4,iJ],by show(d5 L).1=_;rw[g5],by show(d6 L).1=_;rw[g6],by show(d7 L).1=_;rw[g7]⟩
theorem Iz {m:Mod}(h:aL m=0):dO (dK m)=0/\gI (iD (dK m)) m:=by
 obtain⟨h1,h2⟩:=Pk h
 have e:dO (dK m)=0:=by
  unfold dO
  rw[if_neg (by simp[h1]),h2.err,h]
 refine⟨e,?_⟩
 unfold iD
 rw[if_neg (by omega)]
 exact h2
end
section
open Go.RowKit
theorem fA {A B S:ByteArray}(h:A.data.toList++B.data.toList=S.data.toList)(hsz:S.data.toList.length<=100000)(W:World):(Op.stringOp .add A B).run Tryz.prog W=.ok (.string S) W:=by
 have e1:A.data.toList.length=A.size:=by rw[Array.length_toList];rfl
 have e2:B.data.toList.length=B.size:=by rw[Array.length_toList];rfl
 have e3:=congrArg List.length h
 rw[GZ8]at e3
 rw[run_string_add_sum _ _ _ (by omega)]
 congr 2
 exact ba_eq (by rw[dY,h])
end
section
open Go.RowKit
theorem Uq {W:World}{b:Nat}{c0 c1 c2 c3 c4 c5 c6 c7 c8:Value}{t:TypeId}(h:W.heap[b]? =some (.cells #[c0,c1,c2,c3,c4,c5,c6,c7,c8] t (0,0)))(x0 x1 x2 x3 x4 x5 x6 x7 x8:Value):
  (((((((((W.setCell ⟨b,0,none⟩ x0).setCell ⟨b,1,none⟩ x1).setCell ⟨b,2,none⟩ x2).setCell ⟨b,3,none⟩ x3).setCell ⟨b,4,none⟩ x4).setCell ⟨b,5,none⟩ x5).setCell ⟨b,6,none⟩ x6).setCell ⟨b,7,none⟩ x7).setCell ⟨b,8,none⟩ x8).heap[b]? =some (.cells #[x0,x1,x2,x3,x4,x5,x6,x7,x8] t (0,0))/\Only b W (((((((((W.setCell ⟨b,0,none⟩ x0).setCell ⟨b,1,none⟩ x1).setCell ⟨b,2,none⟩ x2).setCell ⟨b,3,none⟩ x3).setCell ⟨b,4,none⟩ x4).setCell ⟨b,5,none⟩ x5).setCell ⟨b,6,none⟩ x6).setCell ⟨b,7,none⟩ x7).setCell ⟨b,8,none⟩ x8):=by
 have h1:(W.setCell ⟨b,0,none⟩ x0).heap[b]? =some (.cells #[x0,c1,c2,c3,c4,c5,c6,c7,c8] t (0,0)):=heap_setCell_same W b 0 _ _ x0 h
 have h2:((W.setCell ⟨b,0,none⟩ x0).setCell ⟨b,1,none⟩ x1).heap[b]? =some (.cells #[x0,x1,c2,c3,c4,c5,c6,c7,c8] t (0,0)):=heap_setCell_same (W.setCell ⟨b,0,none⟩ x0) b 1 _ _ x1 h1
 have h3:(((W.setCell ⟨b,0,none⟩ x0).setCell ⟨b,1,none⟩ x1).setCell ⟨b,2,none⟩ x2).heap[b]? =some (.cells #[x0,x1,x2,c3,c4,c5,c6,c7,c8] t (0,0)):=heap_setCell_same ((W.setCell ⟨b,0,none⟩ x0).setCell ⟨b,1,none⟩ x1) b 2 _ _ x2 h2
 have h4:((((W.setCell ⟨b,0,none⟩ x0).setCell ⟨b,1,none⟩ x1).setCell ⟨b,2,none⟩ x2).setCell ⟨b,3,none⟩ x3).heap[b]? =some (.cells #[x0,x1,x2,x3,c4,c5,c6,c7,c8] t (0,0)):=heap_setCell_same (((W.setCell ⟨b,0,none⟩ x0).setCell ⟨b,1,none⟩ x1).setCell ⟨b,2,none⟩ x2) b 3 _ _ x3 h3
 have h5:(((((W.setCell ⟨b,0,none⟩ x0).setCell ⟨b,1,none⟩ x1).setCell ⟨b,2,none⟩ x2).setCell ⟨b,3,none⟩ x3).setCell ⟨b,4,none⟩ x4).heap[b]? =some (.cells #[x0,x1,x2,x3,x4,c5,c6,c7,c8] t (0,0)):=heap_setCell_same ((((W.setCell ⟨b,0,none⟩ x0).setCell ⟨b,1,none⟩ x1).setCell ⟨b,2,none⟩ x2).setCell ⟨b,3,none⟩ x3) b 4 _ _ x4 h4
 have h6:((((((W.setCell ⟨b,0,none⟩ x0).setCell ⟨b,1,none⟩ x1).setCell ⟨b,2,none⟩ x2).setCell ⟨b,3,none⟩ x3).setCell ⟨b,4,none⟩ x4).setCell ⟨b,5,none⟩ x5).heap[b]? =some (.cells #[x0,x1,x2,x3,x4,x5,c6,c7,c8] t (0,0)):=heap_setCell_same (((((W.setCell ⟨b,0,none⟩ x0).setCell ⟨b,1,none⟩ x1).setCell ⟨b,2,none⟩ x2).setCell ⟨b,3,none⟩ x3).setCell ⟨b,4,none⟩ x4) b 5 _ _ x5 h5
 have h7:(((((((W.setCell ⟨b,0,none⟩ x0).setCell ⟨b,1,none⟩ x1).setCell ⟨b,2,none⟩ x2).setCell ⟨b,3,none⟩ x3).setCell ⟨b,4,none⟩ x4).setCell ⟨b,5,none⟩ x5).setCell ⟨b,6,none⟩ x6).heap[b]? =some (.cells #[x0,x1,x2,x3,x4,x5,x6,c7,c8] t (0,0)):=heap_setCell_same ((((((W.setCell ⟨b,0,none⟩ x0).setCell ⟨b,1,none⟩ x1).setCell ⟨b,2,none⟩ x2).setCell ⟨b,3,none⟩ x3).setCell ⟨b,4,none⟩ x4).setCell ⟨b,5,none⟩ x5) b 6 _ _ x6 h6
 have h8:((((((((W.setCell ⟨b,0,none⟩ x0).setCell ⟨b,1,none⟩ x1).setCell ⟨b,2,none⟩ x2).setCell ⟨b,3,none⟩ x3).setCell ⟨b,4,none⟩ x4).setCell ⟨b,5,none⟩ x5).setCell ⟨b,6,none⟩ x6).setCell ⟨b,7,none⟩ x7).heap[b]? =some (.cells #[x0,x1,x2,x3,x4,x5,x6,x7,c8] t (0,0)):=heap_setCell_same (((((((W.setCell ⟨b,0,none⟩ x0).setCell ⟨b,1,none⟩ x1).setCell ⟨b,2,none⟩ x2).setCell ⟨b,3,none⟩ x3).setCell ⟨b,4,none⟩ x4).setCell ⟨b,5,none⟩ x5).setCell ⟨b,6,none⟩ x6) b 7 _ _ x7 h7
 have h9:(((((((((W.setCell ⟨b,0,none⟩ x0).setCell ⟨b,1,none⟩ x1).setCell ⟨b,2,none⟩ x2).setCell ⟨b,3,none⟩ x3).setCell ⟨b,4,none⟩ x4).setCell ⟨b,5,none⟩ x5).setCell ⟨b,6,none⟩ x6).setCell ⟨b,7,none⟩ x7).setCell ⟨b,8,none⟩ x8).heap[b]? =some (.cells #[x0,x1,x2,x3,x4,x5,x6,x7,x8] t (0,0)):=heap_setCell_same ((((((((W.setCell ⟨b,0,none⟩ x0).setCell ⟨b,1,none⟩ x1).setCell ⟨b,2,none⟩ x2).setCell ⟨b,3,none⟩ x3).setCell ⟨b,4,none⟩ x4).setCell ⟨b,5,none⟩ x5).setCell ⟨b,6,none⟩ x6).setCell ⟨b,7,none⟩ x7) b 8 _ _ x8 h8
 exact⟨h9,(((((((((Only.set 0 x0).trans (Only.set 1 x1)).trans (Only.set 2 x2)).trans (Only.set 3 x3)).trans (Only.set 4 x4)).trans (Only.set 5 x5)).trans (Only.set 6 x6)).trans (Only.set 7 x7)).trans (Only.set 8 x8))⟩
end
section
open Go.RowKit
theorem mE (A A':Option Addr)(c c':Nat)(l:List Exp)(w:World)(h:Row Exp.cells 2 w A l)(h':Row Exp.cells 2 w A' l)(hl:l.length<=big):
  Calls Tryz.prog 33 #[.slice A l.length c,.slice A' l.length c'] w fun e w'=>e=.returned (.bool true)/\Below w.heap.size w w':=by
 have H:=Hp h
 have H':=Hp h'
 unfold big at hl
 clear h h'
 go_enter Tryz.func33,Tryz.ntmps33
 go_wp2_with fail
 go_loopw [5] (fun i wr=>∃(j:Nat),j<=l.length/\i=.int .i64 j/\Below w.heap.size w wr) (fun i _=>l.length -(intOf i).toNat)
 case atStart=>exact⟨0,by omega,rfl,GZ4 _ _⟩
 case round=>
  obtain⟨j,hj,rfl,hb⟩:=hrel
  have HB:=Hp hb
  by_cases hlt:j<l.length
  ·have hlt':(j:Int)<l.length:=by omega
   obtain⟨ad,rfl,hab,k0,k1⟩:=mF H.out hb j hlt
   obtain⟨ad',rfl,hab',k0',k1'⟩:=mF H'.out hb j hlt
   obtain⟨x,hx⟩:=Nm (l[j])
   rw[<-hx]at k0 k0' k1 k1'
   clear hx hb
   go_wp2_with fail
   go_quiet (fail)
   go_wp2_with fail
   go_roundw
   case rel=>exact⟨j+1,by omega,by go_num,below_drewN HB.out _⟩
   case measure=>(simp[intOf];try omega)
  ·go_wp2_with fail
   go_ret
   exact⟨rfl,HB.out⟩
theorem FN (nm tx:ByteArray)(mj mn:Int)(ex:List Exp)(im:List Imp)(pa:List Pat)(eA iA pA eA' iA' pA':Option Addr)(eC iC pC eC' iC' pC':Nat)(w:World)
  (he:Sj w eA ex) (he':Sj w eA' ex) (hi:TC w iA im) (hi':TC w iA' im) (hp:pJ w pA pa) (hp':pJ w pA' pa):
  Calls Tryz.prog 51 #[.agg #[.string nm,.int .i64 mj,.int .i64 mn,.string tx,.slice eA ex.length eC,.slice iA im.length iC,.slice pA pa.length pC],.agg #[.string nm,.int .i64 mj,.int .i64 mn,.string tx,.slice eA' ex.length eC',.slice iA' im.length iC',.slice pA' pa.length pC']] w fun e w'=>e=.returned (.bool true)/\Below w.heap.size w w':=by
 obtain⟨w0,hw0⟩:=Nm (w.alloc (.cells #[.string nm,.int .i64 mj,.int .i64 mn,.string tx,.slice eA ex.length eC,.slice iA im.length iC,.slice pA pa.length pC] 70))
 obtain⟨e0,e1,e2,e3,e4,e5,e6,hz,hb⟩:=wE hw0
 obtain⟨w1,hw1⟩:=Nm (w0.alloc (.cells #[.string nm,.int .i64 mj,.int .i64 mn,.string tx,.slice eA' ex.length eC',.slice iA' im.length iC',.slice pA' pa.length pC'] 70))
 obtain⟨f0,f1,f2,f3,f4,f5,f6,hz1,hb1⟩:=wE hw1
 rw[hz]at f0 f1 f2 f3 f4 f5 f6 hz1
 have x0:=(hb1.cell (p:=⟨w.heap.size,0,none⟩) (by simp;omega)).trans e0
 have x1:=(hb1.cell (p:=⟨w.heap.size,1,none⟩) (by simp;omega)).trans e1
 have x2:=(hb1.cell (p:=⟨w.heap.size,2,none⟩) (by simp;omega)).trans e2
 have x3:=(hb1.cell (p:=⟨w.heap.size,3,none⟩) (by simp;omega)).trans e3
 have x4:=(hb1.cell (p:=⟨w.heap.size,4,none⟩) (by simp;omega)).trans e4
 have x5:=(hb1.cell (p:=⟨w.heap.size,5,none⟩) (by simp;omega)).trans e5
 have x6:=(hb1.cell (p:=⟨w.heap.size,6,none⟩) (by simp;omega)).trans e6
 have HB1:=Hp (show Below w.heap.size w w1 from hb.trans (hb1.mono (by omega)))
 have hw0':=hw0.symm
 have hw1':=hw1.symm
 have cE:=Hp (fun W(hW:Below w.heap.size w W)=>mE eA eA' eC eC' ex W (he.1.below hW) (he'.1.below hW) he.2.1)
 have HI:=Hp hi
 have HI':=Hp hi'
 have HP:=Hp hp
 have HP':=Hp hp'
 have hil:=hi.2.1
 have hpl:=hp.2
 unfold big at hil hpl
 have hz2:w.heap.size+1<w1.heap.size:=by omega
 have hz3:w.heap.size<w1.heap.size:=by omega
 clear hw0 hw1 hb hb1 he he' hi hi' hp hp' e0 e1 e2 e3 e4 e5 e6 hz1
 go_enter Tryz.func51,Tryz.ntmps51
 go_wp2_with (go_at_call 33;refine(cE.out _ HB1.out).mono ?_;rintro e w2 ⟨rfl,hb2⟩;obtain⟨hc2,hf2⟩:=aJ hb2;have HB2:=Hp (HB1.trans (hb2.mono (by omega)));have hz4:w.heap.size+1<w2.heap.size:=(by have:=hb2.size;omega))
 have y5:=(hc2 w.heap.size 5 (by omega)).trans x5
 have y6:=(hc2 w.heap.size 6 (by omega)).trans x6
 have g5:=(hc2 (w.heap.size+1) 5 (by omega)).trans f5
 have g6:=(hc2 (w.heap.size+1) 6 (by omega)).trans f6
 clear x0 x1 x2 x3 x4 x5 x6 f0 f1 f2 f3 f4 f5 f6 hc2 hf2 hb2 cE
 go_loopw [5] (fun i wr=>∃(j:Nat),j<=im.length/\i=.int .i64 j/\Below w2.heap.size w2 wr) (fun i _=>im.length -(intOf i).toNat)
 case atStart=>exact⟨0,by omega,rfl,GZ4 _ _⟩
 case round=>
  obtain⟨j,hj,rfl,hb⟩:=hrel
  have HB:=Hp hb
  have r5:=(hb.cell (p:=⟨w.heap.size,5,none⟩) (by simp;omega)).trans y5
  have s5:=(hb.cell (p:=⟨w.heap.size+1,5,none⟩) (by simp;omega)).trans g5
  have r6:=(hb.cell (p:=⟨w.heap.size,6,none⟩) (by simp;omega)).trans y6
  have s6:=(hb.cell (p:=⟨w.heap.size+1,6,none⟩) (by simp;omega)).trans g6
  have HX:=Hp (HB2.trans (hb.mono (by omega)))
  by_cases hlt:j<im.length
  ·have hlt':(j:Int)<im.length:=by omega
   obtain⟨ad,rfl,hab,k0,k1,k2,k3⟩:=TA HI.out.1 HX.out j hlt
   obtain⟨ad',rfl,hab',k0',k1',k2',k3'⟩:=TA HI'.out.1 HX.out j hlt
   obtain⟨x,hx⟩:=Nm (im[j])
   rw[<-hx]at k0 k0' k1 k1' k2 k2' k3 k3'
   clear hx hb
   go_wp2_with fail
   go_quiet (fail)
   go_wp2_with fail
   go_roundw
   case rel=>exact⟨j+1,by omega,by go_num,below_drewN HB.out _⟩
   case measure=>(simp[intOf];try omega)
  ·clear hb
   have hwr:w.heap.size+1<wr.heap.size:=by have:=HB.size;omega
   go_wp2_with fail
   go_loopw [6] (fun i wr'=>∃(j:Nat),j<=pa.length/\i=.int .i64 j/\Below w2.heap.size w2 wr') (fun i _=>pa.length -(intOf i).toNat)
   case atStart=>exact⟨0,by omega,rfl,HB.out⟩
   clear r5 s5 r6 s6 HB HX hwr
   case round=>
    obtain⟨j,hj,rfl,hb⟩:=hrel
    have HB:=Hp hb
    have r6:=(hb.cell (p:=⟨w.heap.size,6,none⟩) (by simp;omega)).trans y6
    have s6:=(hb.cell (p:=⟨w.heap.size+1,6,none⟩) (by simp;omega)).trans g6
    have HX:=Hp (HB2.trans (hb.mono (by omega)))
    by_cases hlt:j<pa.length
    ·have hlt':(j:Int)<pa.length:=by omega
     obtain⟨ad,rfl,hab,k0,k1,k2,k3⟩:=qE HP.out.1 HX.out j hlt
     obtain⟨ad',rfl,hab',k0',k1',k2',k3'⟩:=qE HP'.out.1 HX.out j hlt
     obtain⟨x,hx⟩:=Nm (pa[j])
     rw[<-hx]at k0 k0' k1 k1' k2 k2' k3 k3'
     clear hx hb
     go_wp2_with fail
     go_quiet (fail)
     go_wp2_with fail
     go_roundw
     case rel=>exact⟨j+1,by omega,by go_num,below_drewN HB.out _⟩
     case measure=>(simp[intOf];try omega)
    ·clear hb
     go_wp2_with fail
     go_ret
     exact⟨rfl,HX.out⟩
theorem qA (a b:Mod)(w:World)(hs:gI a b)(ha:a.ok w)(hb:b.ok w):
  Calls Tryz.prog 51 #[a.v,b.v] w fun e w'=>e=.returned (.bool true)/\Below w.heap.size w w':=by
 obtain⟨nm,mj,mn,tx,ex,im,pa,eA,eC,iA,iC,pA,pC⟩:=a
 obtain⟨nm',mj',mn',tx',ex',im',pa',eA',eC',iA',iC',pA',pC'⟩:=b
 obtain⟨h1,h2,h3,h4,h5,h6,h7⟩:=hs
 simp only at h1 h2 h3 h4 h5 h6 h7
 subst h1 h2 h3 h4 h5 h6 h7
 exact FN nm tx mj mn ex im pa eA iA pA eA' iA' pA' eC iC pC eC' iC' pC' w ha.ex hb.ex ha.im hb.im ha.pa hb.pa
end
end Go.Proofs.YtjiedaialianmaaGreat
