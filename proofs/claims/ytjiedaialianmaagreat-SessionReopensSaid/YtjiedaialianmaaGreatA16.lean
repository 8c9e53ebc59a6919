import Derived.Test.YtjiedaialianmaaGreatA12
import Derived.Test.YtjiedaialianmaaGreatA13
set_option maxRecDepth 100000
set_option maxHeartbeats 4000000
namespace Go.Proofs.YtjiedaialianmaaGreat
section
open Go.RowKit
open Gs (Tx)
def Rk :Krn:=⟨0,0,[],none,0⟩
theorem Sg (w:World):Rk.ok w:=⟨⟨Row.nil,Nat.zero_le _,by simp[Rk]⟩⟩
end
section
open Go.RowKit
theorem JO (A:Option Addr)(c:Nat)(l:List ByteArray)(g:Nat)(lb:Array Value)(q:ByteArray->Bool)(w:World)(eg:∀args w,(callFunc g args).run Tryz.prog w=.ok (.enter g args) w)(h:Row strCells 1 w A l)(hl:l.length<=big)
  (hq:∀x∈l,∀W,Below w.heap.size w W->Calls Tryz.prog g (#[.string x]++lb) W fun e w'=>e=.returned (.bool (q x))/\Below W.heap.size W w'):
  Calls Tryz.prog 157 #[.slice A l.length c,.func (.func g) #[] lb] w fun e w'=>e=.returned (.int .i64 (idxOf q l))/\Below w.heap.size w w':=by
 unfold big at hl
 have HP:=Hp h
 have HQ:=Hp hq
 clear h hq
 go_enter Tryz.func157,Tryz.ntmps157
 go_wp2_with fail
 go_loopw [8] (fun i wr=>∃j:Nat,j<=l.length/\i=.int .i64 j/\(∀k(hk:k<l.length),k<j->q l[k]=false)/\Below w.heap.size w wr) (fun i _=>l.length -(intOf i).toNat)
 case atStart=>exact⟨0,by omega,rfl,by omega,GZ4 _ _⟩
 case round=>
  obtain⟨j,hj,rfl,hN,hb⟩:=hrel
  have HN:=Hp hN
  have HB:=Hp hb
  clear hN
  by_cases hlt:j<l.length
  ·have hlt':(j:Int)<l.length:=by omega
   obtain⟨ad,rfl,hab,h0⟩:=nT HP.out hb j hlt
   have hwz:=hb.size
   have c2:=Hp (show Calls Tryz.prog g (#[.string (l[j]'hlt)]++lb) wr fun e w'=>e=.returned (.bool (q (l[j]'hlt)))/\Below wr.heap.size wr w' from HQ.out (l[j]'hlt) (GZ9 _) wr HB.out)
   obtain⟨bq,hbq⟩:=Nm (q (l[j]'hlt))
   rw[<-hbq]at c2
   have HBQ:=Hp hbq
   clear hbq hb
   cases bq
   ·go_wp2_with fail
    refine(c2.out).mono ?_
    rintro e w3 ⟨rfl,hb3⟩
    go_wp2_with fail
    go_roundw
    case rel=>exact⟨j+1,by omega,by go_num,fun k hk hkj=>by rcases Nat.lt_succ_iff_lt_or_eq.1 hkj with h|rfl;exact HN.out k hk h;exact HBQ.symm,HB.trans (hb3.mono (by omega))⟩
    case measure=>(simp[intOf];try omega)
   ·have e1:=Hp (fJ hlt HN.out HBQ.symm)
    go_wp2_with fail
    refine(c2.out).mono ?_
    rintro e w3 ⟨rfl,hb3⟩
    go_wp2_with fail
    go_ret
    exact⟨aC e1.symm,HB.trans (hb3.mono (by omega))⟩
  ·have e1:=Hp (gT (q:=q) (l:=l) (fun k hk=>HN.out k hk (by omega)))
   go_wp2_with fail
   go_ret
   exact⟨aC e1.symm,HB.out⟩
def oQ (s:ByteArray):Bool:=((s.size:Int) != 128)
theorem EU (s:ByteArray)(w:World):Calls Tryz.prog 168 #[.string s] w fun e w'=>e=.returned (.bool (oQ s))/\w=w':=by
 go_enter Tryz.func168,Tryz.ntmps168
 go_wp2_with fail
 all_goals(go_ret;exact⟨rfl,rfl⟩)
theorem PN {α:Type}(q:α->Bool)(l:List α):(0<=idxOf q l)↔∃x∈l,q x=true:=by
 rcases Sb q l with⟨h1,h2⟩|⟨j,hj,h1,h2,_⟩
 ·rw[h1]
  constructor
  ·intro h;omega
  ·rintro⟨x,hx,hq⟩;rw[h2 x hx]at hq;cases hq
 ·rw[h1]
  exact⟨fun _=>⟨_,GZ9 hj,h2⟩,fun _=>by omega⟩
theorem Ph (l:List ByteArray):(0<=idxOf oQ l)↔¬ ∀s∈l,s.size=128:=by
 rw[PN]
 constructor
 ·rintro⟨x,hx,hq⟩ h
  have:=h x hx
  simp[oQ,this]at hq
 ·intro h
  refine Classical.byContradiction fun hn=>h fun s hs=>?_
  refine Classical.byContradiction fun h8=>hn ⟨s,hs,?_⟩
  simp[oQ];omega
theorem yN (f:Fl)(w:World)(h:f.ok w):Calls Tryz.prog 94 #[f.v] w fun e w'=>e=.returned (.int .i64 (bP f.bl))/\Below w.heap.size w w':=by
 obtain⟨w0,hw0⟩:=Nm (w.alloc (.cells #[.slice f.a f.bl.length f.c] 29))
 obtain⟨f0,hz0,hb0⟩:=Ui hw0
 have hw0':=hw0.symm
 have HB0:=Hp hb0
 have HB:=Hp (Ph f.bl)
 have c1:=Hp (JO f.a f.c f.bl 168 #[] oQ w0 (fun _ _=>by kernel_rfl) (h.below hb0).row.row h.row.len (fun x _ W _=>(EU x W).mono fun e w' ⟨he,hw⟩=>⟨he,hw▸GZ4 _ _⟩))
 have hl:=h.row.len
 unfold big at hl
 obtain⟨N,hN⟩:=Nm (idxOf oQ f.bl)
 rw[<-hN]at c1 HB
 obtain⟨E,hE⟩:=Nm (bP f.bl)
 rw[<-hE]
 have HE:=Hp hE
 clear hw0 hb0 h hN hE
 by_cases t0:1<=f.bl.length/\f.bl.length<=32
 ·by_cases t1:0<=N
  ·have HE1:=Hp (show E=1 by rw[HE.out];unfold bP;rw[if_pos t0,if_neg (HB.out.1 t1)])
   clear HE HB
   obtain⟨t2,t3⟩:=t0
   go_enter Tryz.func94,Tryz.ntmps94
   go_wp2_with (first|(go_at_call 159;go_in)|(go_at_call 157;refine(c1.out).mono ?_;rintro e w1 ⟨rfl,hb1⟩))
   go_ret
   exact⟨aC HE1.symm,HB0.trans (hb1.mono (by omega))⟩
  ·have HE1:=Hp (show E=0 by rw[HE.out];unfold bP;rw[if_pos t0,if_pos (Classical.byContradiction fun hx=>t1 (HB.out.2 hx))])
   clear HE HB
   obtain⟨t2,t3⟩:=t0
   go_enter Tryz.func94,Tryz.ntmps94
   go_wp2_with (first|(go_at_call 159;go_in)|(go_at_call 157;refine(c1.out).mono ?_;rintro e w1 ⟨rfl,hb1⟩))
   go_ret
   exact⟨aC HE1.symm,HB0.trans (hb1.mono (by omega))⟩
 ·have HE1:=Hp (show E=3 by rw[HE.out];unfold bP;rw[if_neg t0])
  clear HE HB c1
  go_enter Tryz.func94,Tryz.ntmps94
  go_wp2_with fail
  all_goals(go_ret;exact⟨aC HE1.symm,HB0.out⟩)
end
section
open Go.RowKit
theorem dA.Qb {w:World}{g:Nat}{cs:List Value}{l:List ByteArray}{n:Nat}{base:Nat}(h:w.heap[g]? =some (.cells cs.toArray 9 (0,0)))(hcs:cs=l.map Value.string)(hn:n=l.length)(hl:l.length<=1000000)(hg:base<=g):dA w base (.slice (some ⟨g,0,none⟩) n n) l:=by
 subst hcs hn
 refine⟨by simp,.inr ⟨g,l.length,(l.map Value.string).toArray,rfl,hg,h,GZ3 _,by simp only[maxLen];omega,by simp,?_⟩⟩
 simp[List.take_of_length_le]
theorem J6 (s:ByteArray)(c:Nat)(h1:1<=c)(h32:c<=32)(A:Addr)(cap:Nat)(w:World)(hs:w.cell? A=some (.string s)):
  Calls Tryz.prog 147 #[.slice (some A) 1 cap,.int .i64 c] w fun e w'=>Below w.heap.size w w'/\∃A':Option Addr,e=.returned (.slice A' c c)/\dA w' w.heap.size (.slice A' c c) (List.replicate c s):=by
 have hmk:=run_make_row' (P:=Tryz.prog) 27 9 (.string ⟨#[]⟩) 16 Tryz.underlying27 Tryz.zQ rfl .i64 .i64 c (by omega) (by omega)
 rw[Hu s c]at hmk
 have cM:=Hp (fun W=>Om c h32 W)
 have q1:IntKind.u64.wrap (c:Int)=c:=IntWalk.u64_in _ (by omega)
 have q2:IntKind.i64.wrap (c:Int)=c:=IntWalk.i64_in _ (by omega)
 have t1:¬((c:Int)<0):=by omega
 have t2:¬((9223372036854775807:Int)<c):=by omega
 obtain⟨w1,hw1⟩:=Nm (w.alloc (.cells (filled s c 0).toArray 9))
 have hg1:w1.heap[w.heap.size]? =some (.cells (filled s c 0).toArray 9 (0,0)):=by rw[hw1];exact heap_alloc_new _ _
 have hb1:Below w.heap.size w w1:=by rw[hw1];exact ZB
 have hs1:=(hb1.cell (p:=A) (oG hs)).trans hs
 have hw1':=hw1.symm
 have HG1:=Hp hg1
 have HB1:=Hp hb1
 have HS1:=Hp hs1
 have HZ:(Tryz.prog.info? 9).map (·.size)=some 1:=by kernel_rfl
 clear hw1 hg1 hb1 hs hs1
 go_enter Tryz.func147,Tryz.ntmps147
 have H1:=Hp (show[Value.string s].length=Nat.min 1 c from(Nat.min_eq_left h1).symm)
 have H2:=Hp (show∀(j:Nat)v,[Value.string s][j]? =some v->w1.cell? (A.add j)=some v from
  fun j v hj=>by
   cases j with
   |zero=>rw[add_zero_,HS1.out];simpa using hj
   |succ j=>simp at hj)
 have H3:=Hp (show 0+[Value.string s].length<=(filled s c 0).length from by rw[tV (Nat.zero_le _)];simpa using h1)
 have H4:=Hp (show∀v∈[Value.string s],v.oneCell'=true from by intro v hv;simp at hv;subst hv;rfl)
 go_upto_region 9 with(first
  |(go_at_call 211;refine(cM.out _).mono ?_;rintro e w' ⟨rfl,rfl⟩)
  |(refine wpList_copy_splice rfl (.tmp 31) (.tmp 32) 27 27 rfl 9 Tryz.underlying27 HZ (some ⟨w.heap.size,0,none⟩) (some A) c c 1 cap rfl rfl w.heap.size 0 (filled s c 0) 9 HG1.out [.string s] H1.out (fun _=>⟨rfl,A,rfl,H2.out⟩) H3.out H4.out w.heap.size w HB1.out (GZ3 _) ?_
    intro w2 HG2 hb2
    have hG2:w2.heap[w.heap.size]? =some (.cells (filled s c 1).toArray 9 (0,0)):=by have:=HG2.out;rwa [show[Value.string s]=List.replicate 1 (.string s) from rfl,sV s c 0 1 (by omega)]at this
    have HG3:=Hp hG2
    have HB2:=Hp hb2
    clear HG2 hG2 hb2))
 clear H1 H2 H3 H4 hmk HG1 HS1 hw1'
 go_loopw [8] (fun i wr=>∃k:Nat,1<=k/\k<=c/\i=.int .i64 k/\wr.heap[w.heap.size]? =some (.cells (filled s c k).toArray 9 (0,0))/\Below w.heap.size w wr) (fun i _=>c -(intOf i).toNat)
 case atStart=>exact⟨1,GZ3 _,h1,rfl,HG3.out,HB2.out⟩
 case round=>
  obtain⟨k,hk1,hkc,rfl,hg,hb⟩:=hrel
  have HG:=Hp hg
  have HB:=Hp hb
  by_cases hlt:k<c
  ·have hlt':(k:Int)<c:=by omega
   have hne:¬(k=c):=by omega
   have hne':¬(c=k):=by omega
   obtain⟨m,hm⟩:=Nm (Nat.min k (c -k))
   have hm1:k+m<=c:=by have:Nat.min k (c -k)<=c -k:=Nat.min_le_right _ _;omega
   have hm2:1<=m:=by rw[hm];exact Nat.le_min.2 ⟨hk1,by omega⟩
   have hm3:m<=k:=by rw[hm];exact Nat.min_le_left _ _
   have H1:=Hp (show(List.replicate m (Value.string s)).length=Nat.min k (c -k) by rw[List.length_replicate,hm])
   have H2:=Hp (show∀(j:Nat)v,(List.replicate m (Value.string s))[j]? =some v->wr.drew.cell? ((⟨w.heap.size,0,none⟩:Addr).add j)=some v from fun j v hj=>by
    rw[List.getElem?_replicate]at hj
    split at hj
    ·next hjm=>
     have e:(⟨w.heap.size,0,none⟩:Addr).add j=⟨w.heap.size,j,none⟩:=by unfold Addr.add;split<;>simp_all
     have hc:=cell_of_heap (show wr.drew.heap[w.heap.size]? =_ from hg) j
     rw[e,hc,<-hj]
     simp only[GZ2]
     exact Ie s c k j (by omega)
    ·cases hj)
   have H3:=Hp (show k+(List.replicate m (Value.string s)).length<=(filled s c k).length by rw[tV hkc,List.length_replicate];exact hm1)
   have H4:=Hp (show∀v∈List.replicate m (Value.string s),v.oneCell'=true from by intro v hv;rw[List.eq_of_mem_replicate hv];rfl)
   have HGD:=Hp (show wr.drew.heap[w.heap.size]? =some (.cells (filled s c k).toArray 9 (0,0)) from hg)
   have HBD:=Hp (show Below w.heap.size w wr.drew from below_drewN hb 1)
   obtain⟨L,hL⟩:=Nm (List.replicate m (Value.string s))
   have hLl:L.length=m:=by rw[hL];simp
   have HSP:=Hp (show splice (filled s c k) k L=filled s c (k+m) by rw[hL];exact sV s c k m hm1)
   rw[<-hL]at H1 H2 H3 H4
   clear hg hb hm hL
   go_upto_region 9 with fail
   go_region_law (refine step_copy_splice rfl (.tmp 41) (.tmp 44) 27 27 rfl 9 Tryz.underlying27 HZ (some ⟨w.heap.size,k,none⟩) (some ⟨w.heap.size,0,none⟩) (c -k) (c -k) k c (by simp[Act.eval,Act.put]) (by simp[Act.eval,Act.put]) w.heap.size k (filled s c k) 9 HGD.out L H1.out (fun _=>⟨rfl,_,rfl,H2.out⟩) H3.out H4.out w.heap.size w HBD.out (GZ3 _) ?_;intro w4 hg4 hb4)
   have q3:IntKind.i64.wrap ((k:Int)+(m:Int))=((k+m:Nat):Int):=by rw[IntWalk.i64_in _ (by omega)];omega
   rw[HSP.out]at hg4
   have HG4:=Hp hg4.out
   have HB4:=Hp hb4
   clear hg4 hb4
   go_simp
   go_wp2_with fail
   go_roundw
   case rel=>exact⟨k+m,by omega,hm1,by first|rfl|(rw[q3])|(simp only[q3])|(simp[q3]),HG4.out,HB4.out⟩
   case measure=>(simp[intOf];try omega)
  ·obtain rfl:k=c:=by omega
   clear hg hb
   go_wp2_with fail
   go_ret
   refine⟨HB.out,_,rfl,?_⟩
   exact dA.Qb (cs:=filled s k k) HG.out (by simp[filled]) (by simp) (by simp;omega) (GZ3 _)
def uX (b:Int):Int:=if 1<=b/\b<=32 then 0 else 3
theorem P5 (b:Int)(w:World):
  Calls Tryz.prog 74 #[.int .i64 b] w fun e w'=>Below w.heap.size w w'/\∃f':Fl,e=.returned (.tuple #[f'.v,.int .i64 (uX b)])/\Rt w' w.heap.size f' (Bu (uX b) (List.replicate b.toNat blank)):=by
 obtain⟨w1,hw1⟩:=Nm (w.alloc (.cells #[.slice none 0 0] 29))
 obtain⟨f0,hR,hz1,hb1⟩:=jG hw1
 have hw1':=hw1.symm
 have HR:=Hp hR
 have HB1:=Hp hb1
 have HZ1:=Hp hz1
 obtain⟨E,hE⟩:=Nm (uX b)
 rw[<-hE]
 unfold uX at hE
 by_cases t0:1<=b/\b<=32
 ·rw[if_pos t0]at hE
  subst hE
  obtain⟨c,rfl⟩:∃c:Nat,b=c:=⟨b.toNat,by omega⟩
  obtain⟨t1,t2⟩:=t0
  have c1:1<=c:=by omega
  have c2:c<=32:=by omega
  obtain⟨B,hB⟩:=Nm blank
  have cB:=Hp (fun W=>Lc W)
  rw[<-hB]at cB ⊢
  have cR:=Hp (fun A cap W h=>J6 B c c1 c2 A cap W h)
  have HC:=Hp c2
  clear hw1 hR hb1 f0 hB t1 t2 c2 hz1
  go_enter Tryz.func74,Tryz.ntmps74
  go_wp2_with (first
   |(go_at_call 148;refine(cB.out _).mono ?_;rintro e w2 ⟨rfl,hb2⟩
     have HB2:=Hp hb2
     clear hb2)
   |(go_at_call 147;refine(cR.out _ _ _ (by rw[World.cell?_alloc_new];rfl)).mono ?_;rintro e w4 ⟨hb4,A4,rfl,ho4⟩
     have HB4:=Hp (HB2.trans (((GZ4 _ w2).alloc (GZ3 _) (.cells #[.string B] 9)).trans (hb4.mono (by simp)) |>.mono HB2.size))
     have hR4:=(HB4.block _ (by have:=HZ1.out;omega)).trans HR.out
     have z0:=cell_of_heap hR4 0
     have zf:=aQ hR4 0
     simp only[GZ2,GZ0]at z0
     have HR4:=Hp hR4
     have HO4:=Hp (ho4.more (show w.heap.size<=_ by have:=HB2.size;have:=HZ1.out;simp;omega))
     clear hR4 ho4 hb4))
  all_goals first
   |(refine EL rfl rfl HR4.out ?_
     refine⟨(HB1.trans (HB4.mono HB1.size)).setCell (p:=⟨w.heap.size,0,none⟩) (GZ3 _) _,⟨List.replicate c B,A4,c⟩,?_,?_,?_,?_⟩
     ·show _=Ending.returned (.tuple #[.agg #[.slice A4 (List.replicate c B).length c],_]);rw[List.length_replicate];rfl
     ·show dA _ _ (.slice A4 (List.replicate c B).length c) _
      rw[List.length_replicate]
      exact HO4.eT HR4.out (by decide) 0 _
     ·show(List.replicate c B).length<=c
      rw[List.length_replicate];exact GZ3 _
     ·rw[SK rfl];rfl)
   |exact absurd HC.out (by simp at*;omega)
 ·rw[if_neg t0]at hE
  subst hE
  have HT:=Hp t0
  clear t0 hw1 hb1 hR
  have vf:=aQ HR.out 0
  go_enter Tryz.func74,Tryz.ntmps74
  go_wp2_with fail
  all_goals first
   |(refine EL rfl rfl HR.out ?_;exact⟨HB1.setCell (p:=⟨w.heap.size,0,none⟩) (GZ3 _) _,F5,rfl,AY _ _,GZ3 _,(AQ (by decide)).symm⟩)
   |exact absurd HT.out (by simp at*;omega)
end
section
open Go.RowKit
theorem rP {fn:Func}{p u v:Tmp}(h:fn.results=#[.cell p 29,.tmp u,.tmp v]){tmps:Array Value}{W:World}{R:Nat}{x old:Value}{Q:Ending->World->Prop}
  (hp:tmps.getD p undef=.pointer (some ⟨R,0,none⟩)) (hR:W.heap[R]? =some (.cells #[old] 29 (0,0)))
  (hQ:Q (.returned (.tuple #[.agg #[x],tmps.getD u undef,tmps.getD v undef])) (W.setCell ⟨R,0,none⟩ x)):bodyPost Tryz.prog fn Q .ret ⟨tmps,[]⟩ (W.setCell ⟨R,0,none⟩ x):=by
 have hR9:(W.setCell ⟨R,0,none⟩ x).heap[R]? =some (.cells #[x] 29 (0,0)):=heap_setCell_same W R 0 _ _ x hR
 have hp':tmps[p]?.getD undef=.pointer (some ⟨R,0,none⟩):=by simpa using hp
 have hr:(results fn tmps).run Tryz.prog (W.setCell ⟨R,0,none⟩ x)=.ok (.tuple #[.agg #[x],tmps.getD u undef,tmps.getD v undef]) (W.setCell ⟨R,0,none⟩ x):=by
  simp[results,h,hp',asAddr,run_loadVar_row _ R 29 29 #[x] (0,0) _ hR9 Tryz.underlying29 rfl Tryz.jI]
 exact bodyPost_ret hr rfl hQ
def Tc (w:World)(E:Int)(F0:List ByteArray)(D0:List Ded)(e:Ending)(w':World):Prop:=Below w.heap.size w w'/\∃(f':Fl)(A:Option Addr)(c:Nat)(D:List Ded),e=.returned (.tuple #[f'.v,.slice A D.length c,.int .i64 E])/\Rt w' w.heap.size f' F0/\mZ w' w.heap.size (.slice A D.length c) D/\D=D0
theorem Tc.err {w w':World}{E:Int}{F0:List ByteArray}{D0:List Ded}(h:Below w.heap.size w w')(hF:F0=[])(hD:D0=[]):Tc w E F0 D0 (.returned (.tuple #[.agg #[.slice none 0 0],.slice none 0 0,.int .i64 E])) w':=by
 subst hF hD
 exact⟨h,F5,none,0,[],rfl,⟨AY _ _,GZ3 _,rfl⟩,World.ownsRow_nil _ _ _ _,rfl⟩
def xU (f:List ByteArray)(s:List UInt8):List ByteArray:=Bu (dF f s.length) (bT f (aW f s))
def OL (f:List ByteArray)(s:List UInt8):List Ded:=if dF f s.length=0 then aW f s else[]
theorem uG (f:Fl)(s:ByteArray)(w:World)(h:f.ok w)(hs:s.size<=big):
  Calls Tryz.prog 27 #[f.v,.string s] w (Tc w (dF f.bl s.size) (xU f.bl (bytesOf s)) (OL f.bl (bytesOf s))):=by
 unfold big at hs
 obtain⟨w1,hw1⟩:=Nm (w.alloc (.cells #[.slice f.a f.bl.length f.c] 29))
 obtain⟨f0,hz1,hb1⟩:=Ui hw1
 obtain⟨w2,hw2⟩:=Nm (w1.alloc (.cells #[.slice none 0 0] 29))
 obtain⟨_,hR,hz2,hb2⟩:=jG hw2
 have k0:=(hb2.cell (p:=⟨w.heap.size,0,none⟩) (by simp;omega)).trans f0
 have HB2:=Hp (hb1.trans (hb2.mono (by omega)))
 have HZ:=Hp (show w1.heap.size=w.heap.size+1/\w2.heap.size=w.heap.size+2 by omega)
 have hw1':=hw1.symm
 have hw2':=hw2.symm
 have HR:=Hp hR
 have cF:=Hp (yN f w2 (h.below HB2.out))
 have H:=Hp h
 have HSL:=Hp (RB s)
 unfold xU OL
 rw[HSL.out]
 obtain⟨EA,hEA⟩:=Nm (dF f.bl s.size)
 obtain⟨EF,hEF⟩:=Nm (bP f.bl)
 rw[<-hEF]at cF
 rw[<-hEA]
 have HEA:=Hp hEA
 obtain⟨F0,hF0⟩:=Nm (Bu EA (bT f.bl (aW f.bl (bytesOf s))))
 obtain⟨D0,hD0⟩:∃D,D=if EA=0 then aW f.bl (bytesOf s)else[]:=⟨_,rfl⟩
 rw[<-hF0,<-hD0]
 have HF0:=Hp hF0
 have HD0:=Hp hD0
 have HERR:=Hp (show EA≠0->F0=[]/\D0=[] from fun h=>⟨by rw[hF0];exact AQ h,by rw[hD0];exact if_neg h⟩)
 clear hF0 hD0
 unfold dF at hEA
 rw[<-hEF]at hEA
 have HEF:=Hp hEF
 clear hw1 hw2 hb1 hb2 hz1 hz2 f0 hR h hEF
 by_cases t0:EF=0
 ·rw[if_pos t0]at hEA
  subst t0
  by_cases t1:s.size=0
  ·rw[if_pos t1]at hEA
   obtain rfl:s=⟨#[]⟩:=by
    obtain⟨x⟩:=s
    rw[Array.eq_empty_of_size_eq_zero t1]
   subst hEA
   clear t1 hs
   go_enter Tryz.func27,Tryz.ntmps27
   go_wp2_with (
    go_at_call 94
    refine(cF.out).mono ?_
    rintro e w3 ⟨rfl,hb3⟩
    have hR3:=(hb3.block _ (by have:=HZ.out;omega)).trans HR.out
    have z0:=cell_of_heap hR3 0
    have zf:=aQ hR3 0
    simp only[GZ2,GZ0]at z0
    have HR3:=Hp hR3
    have HB3:=Hp (HB2.trans (hb3.mono HB2.size))
    clear hR3 hb3)
   refine rP rfl rfl HR3.out ?_
   exact Tc.err (HB3.setCell (p:=⟨w1.heap.size,0,none⟩) (by have:=HZ.out;simp;omega) _) (HERR.out (by decide)).1 (HERR.out (by decide)).2
  ·rw[if_neg t1]at hEA
   have hsn:(s.toList==(⟨#[]⟩:ByteArray).toList)=false:=mY (by rintro rfl;exact t1 rfl)
   have hse:s.toList.isEmpty=false:=by
    cases h:s.toList with
    |nil=>rw[h,show(⟨#[]⟩:ByteArray).toList=[] from by kernel_rfl]at hsn;exact absurd hsn (by decide)
    |cons a l=>rfl
   by_cases t2:800<s.size
   ·rw[if_pos t2]at hEA
    have t2':(800:Int)<s.size:=by omega
    subst hEA
    clear hsn t1 t2
    go_enter Tryz.func27,Tryz.ntmps27
    go_wp2_with (
     go_at_call 94
     refine(cF.out).mono ?_
     rintro e w3 ⟨rfl,hb3⟩
     have hR3:=(hb3.block _ (by have:=HZ.out;omega)).trans HR.out
     have z0:=cell_of_heap hR3 0
     have zf:=aQ hR3 0
     simp only[GZ2,GZ0]at z0
     have HR3:=Hp hR3
     have HB3:=Hp (HB2.trans (hb3.mono HB2.size))
     clear hR3 hb3)
    refine rP rfl rfl HR3.out ?_
    exact Tc.err (HB3.setCell (p:=⟨w1.heap.size,0,none⟩) (by have:=HZ.out;simp;omega) _) (HERR.out (by decide)).1 (HERR.out (by decide)).2
   ·rw[if_neg t2]at hEA
    have t2':¬((800:Int)<s.size):=by omega
    have HT1:=Hp (show 1<=s.size/\s.size<=800 by omega)
    have cA:=Hp (fun W(hW:Below w.heap.size w W)=>PL f s W (H.below hW) HEF.symm HT1.out.1 HT1.out.2)
    rw[<-hEA]at cA
    have HEA2:=Hp hEA
    clear hEA hsn t1 t2
    by_cases t3:EA=0
    ·have HT:=Hp t3
     have HAF:=Hp (Av (f:=f.bl) (s:=bytesOf s) (by rw[HSL.out,<-HEA.out];exact t3))
     obtain⟨k,r,e0,e,ho,hfit,hds⟩:=HAF.out
     have HDK:=Hp (show∀d∈aW f.bl (bytesOf s),eB f.bl.length d=0 by rw[hds];exact FM hfit)
     have hdl:(aW f.bl (bytesOf s)).length<=5000:=by
      rw[hds];unfold CU
      have h1:=iH e (bytesOf s)
      have h2:=iH (128*f.bl.length -5*(k+1)) (Sw e (bytesOf s).length)
      have h3:(Sw e (bytesOf s).length).length=4:=rfl
      have h4:=HT1.out.2
      rw[HSL.out]at h1
      rw[GZ8,GZ8,List.length_singleton]
      omega
     have HDL:=Hp hdl
     obtain⟨DD,hDD⟩:=Nm (aW f.bl (bytesOf s))
     rw[<-hDD]at HDK HDL cA HF0 HD0
     rw[t3]at HF0 HD0
     have HF1:=Hp (HF0.trans (SK rfl))
     have HD1:=Hp (HD0.trans (if_pos rfl))
     rw[if_pos t3]at cA
     subst t3
     clear ho hfit hds hdl hDD HF0 HD0 HAF
     go_enter Tryz.func27,Tryz.ntmps27
     go_wp2_with (first
      |(go_at_call 94
        refine(cF.out).mono ?_
        rintro e w3 ⟨rfl,hb3⟩
        have k3:=(hb3.cell (p:=⟨w.heap.size,0,none⟩) (by have:=HZ.out;simp;omega)).trans k0
        have HB23:=Hp hb3
        have HB3:=Hp (HB2.trans (hb3.mono HB2.size))
        clear hb3)
      |(go_at_call 95
        refine(cA.out _ HB3.out).mono ?_
        rintro e w4 ⟨hb4,A4,c4,D4,rfl,hO4,hD4⟩
        have k4:=(hb4.cell (p:=⟨w.heap.size,0,none⟩) (oG k3)).trans k3
        have hb24:=HB23.trans (hb4.mono HB23.size)
        have HR4:=Hp ((hb24.block _ (by have:=HZ.out;omega)).trans HR.out)
        have HB4:=Hp (HB2.trans (hb24.mono HB2.size))
        have HB24:=Hp hb24
        have HW3:=Hp HB3.size
        have HO4:=Hp hO4
        have HDE4:=Hp hD4
        have cX:=Hp (Gg f A4 c4 D4 w4 (H.below HB4.out) HEF.symm (by rw[hD4];exact HDK.out) ⟨hO4.row,by rw[hD4];have:=HDL.out;unfold big;omega⟩)
        clear hb4 hb24 hO4 hD4)
      |(go_at_call 77
        refine(cX.out).mono ?_
        rintro e w5 ⟨hb5,A5,c5,rfl,hc5,hO5⟩
        have hR5:=(hb5.block _ (by have:=HZ.out;have:=HB24.size;omega)).trans HR4.out
        have z0:=cell_of_heap hR5 0
        have zf:=aQ hR5 0
        simp only[GZ2,GZ0]at z0
        have HR5:=Hp hR5
        have HB5:=Hp (HB4.trans (hb5.mono HB4.size))
        have HO5:=Hp hO5
        have HD5:=Hp (HO4.below hb5 (GZ3 _))
        have HC5:=Hp hc5
        clear hR5 hb5 hO5 hc5))
     refine rP rfl rfl HR5.out ?_
     have hle:=(qQ HEF.symm (l:=D4) (by rw[HDE4.out];exact HDK.out)).2
     refine⟨HB5.setCell (p:=⟨w1.heap.size,0,none⟩) (by have:=HZ.out;simp;omega) _,⟨bT f.bl D4,A5,c5⟩,A4,c4,D4,?_,⟨?_,?_,?_⟩,?_,?_⟩
     ·show _=Ending.returned (.tuple #[.agg #[.slice A5 (bT f.bl D4).length c5],_,_]);rw[hle];rfl
     ·show dA _ _ (.slice A5 (bT f.bl D4).length c5) _
      rw[hle]
      exact(HO5.eT HR5.out (by decide) 0 _).more HB4.size
     ·show(bT f.bl D4).length<=c5
      rw[hle];exact HC5.out
     ·show bT f.bl D4=F0
      rw[HF1.out,HDE4.out]
     ·exact(HD5.eT HR5.out (by decide) 0 _).more HB3.size
     ·rw[HD1.out,HDE4.out]
    ·have u1:(EA != 0)=true:=by simp[t3]
     rw[if_neg t3]at cA
     have HT:=Hp t3
     clear t3
     go_enter Tryz.func27,Tryz.ntmps27
     go_wp2_with (first
      |(go_at_call 94
        refine(cF.out).mono ?_
        rintro e w3 ⟨rfl,hb3⟩
        have k3:=(hb3.cell (p:=⟨w.heap.size,0,none⟩) (by have:=HZ.out;simp;omega)).trans k0
        have HB23:=Hp hb3
        have HB3:=Hp (HB2.trans (hb3.mono HB2.size))
        clear hb3)
      |(go_at_call 95
        refine(cA.out _ HB3.out).mono ?_
        rintro e w4 ⟨hb4,A4,c4,D4,rfl,hO4,hD4⟩
        have hb24:=HB23.trans (hb4.mono HB23.size)
        have hR4:=(hb24.block _ (by have:=HZ.out;omega)).trans HR.out
        have z0:=cell_of_heap hR4 0
        have zf:=aQ hR4 0
        simp only[GZ2,GZ0]at z0
        have HR4:=Hp hR4
        have HB4:=Hp (HB2.trans (hb24.mono HB2.size))
        clear hR4 hb4 hb24 hO4 hD4))
     refine rP rfl rfl HR4.out ?_
     exact Tc.err (HB4.setCell (p:=⟨w1.heap.size,0,none⟩) (by have:=HZ.out;simp;omega) _) (HERR.out HT.out).1 (HERR.out HT.out).2
 ·rw[if_neg t0]at hEA
  subst hEA
  have u1:(EA != 0)=true:=by simp[t0]
  have HT:=Hp t0
  clear t0
  go_enter Tryz.func27,Tryz.ntmps27
  go_wp2_with (
   go_at_call 94
   refine(cF.out).mono ?_
   rintro e w3 ⟨rfl,hb3⟩
   have hR3:=(hb3.block _ (by have:=HZ.out;omega)).trans HR.out
   have z0:=cell_of_heap hR3 0
   have zf:=aQ hR3 0
   simp only[GZ2,GZ0]at z0
   have HR3:=Hp hR3
   have HB3:=Hp (HB2.trans (hb3.mono HB2.size))
   clear hR3 hb3)
  refine rP rfl rfl HR3.out ?_
  exact Tc.err (HB3.setCell (p:=⟨w1.heap.size,0,none⟩) (by have:=HZ.out;simp;omega) _) (HERR.out HT.out).1 (HERR.out HT.out).2
def qH (w:World)(E:Int)(R0:List ByteArray)(e:Ending)(w':World):Prop:=Below w.heap.size w w'/\∃(A:Option Addr)(c:Nat)(R:List ByteArray),e=.returned (.tuple #[.slice A R.length c,.int .i64 E])/\dA w' w.heap.size (.slice A R.length c) R/\R=R0
theorem qH.err {w w':World}{E:Int}{R0:List ByteArray}(h:Below w.heap.size w w')(hR:R0=[]):qH w E R0 (.returned (.tuple #[.slice none 0 0,.int .i64 E])) w':=by
 subst hR
 exact⟨h,none,0,[],rfl,dA.nil _ _,rfl⟩
theorem wJ (f:Fl)(w:World)(h:f.ok w):Calls Tryz.prog 28 #[f.v] w (qH w (gZ f.bl) (bQ f.bl)):=by
 obtain⟨w1,hw1⟩:=Nm (w.alloc (.cells #[.slice f.a f.bl.length f.c] 29))
 obtain⟨f0,hz1,hb1⟩:=Ui hw1
 have hw1':=hw1.symm
 have HB1:=Hp hb1
 have HZ:=Hp hz1
 have H:=Hp h
 have cF:=Hp (yN f w1 (h.below hb1))
 obtain⟨EF,hEF⟩:=Nm (bP f.bl)
 rw[<-hEF]at cF
 unfold gZ bQ
 rw[<-hEF]
 have HEF:=Hp hEF
 clear hw1 hb1 h hz1 hEF
 by_cases t0:EF=0
 ·rw[if_pos t0,if_pos t0]
  have HF:=Hp (HEF.symm.trans t0)
  subst t0
  cases hj:Re (flat f.bl)with
  |none=>
   have cL:=Hp (fun W(hW:Below w.heap.size w W)=>Dm f W (H.below hW) HF.out hj)
   clear hj
   go_enter Tryz.func28,Tryz.ntmps28
   go_wp2_with (first
    |(go_at_call 94
      refine(cF.out).mono ?_
      rintro e w2 ⟨rfl,hb2⟩
      have k2:=(hb2.cell (p:=⟨w.heap.size,0,none⟩) (by have:=HZ.out;simp;omega)).trans f0
      have HB2:=Hp (HB1.trans (hb2.mono HB1.size))
      clear hb2)
    |(go_at_call 96
      refine(cL.out _ HB2.out).mono ?_
      rintro e w3 ⟨rfl,hb3⟩))
   go_ret2
   exact qH.err (HB2.trans (hb3.mono HB2.size)) rfl
  |some p=>
   obtain⟨k,r,e⟩:=p
   have cL:=Hp (fun W(hW:Below w.heap.size w W)=>ED f W (H.below hW) HF.out k r e hj)
   clear hj
   go_enter Tryz.func28,Tryz.ntmps28
   go_wp2_with (first
    |(go_at_call 94
      refine(cF.out).mono ?_
      rintro e w2 ⟨rfl,hb2⟩
      have k2:=(hb2.cell (p:=⟨w.heap.size,0,none⟩) (by have:=HZ.out;simp;omega)).trans f0
      have HB2:=Hp (HB1.trans (hb2.mono HB1.size))
      clear hb2)
    |(go_at_call 96
      refine(cL.out _ HB2.out).mono ?_
      rintro e w3 ⟨hb3,B,hB,rfl,A,c,hJ,hO⟩
      have z2:=cell_of_heap hJ 2
      simp only[GZ2,GZ0,GZ1]at z2
      have HB3:=Hp (HB2.trans (hb3.mono HB2.size))
      have HO:=Hp hO
      have HBB:=Hp hB
      clear hb3 hJ hO hB))
   go_ret2
   exact⟨HB3.out,A,c,r,rfl,HO.more (by have:=HB2.size;have:=HBB.out;omega),rfl⟩
 ·rw[if_neg t0,if_neg t0]
  have u1:(EF != 0)=true:=by simp[t0]
  clear t0
  go_enter Tryz.func28,Tryz.ntmps28
  go_wp2_with (go_at_call 94;refine(cF.out).mono ?_;rintro e w2 ⟨rfl,hb2⟩)
  go_ret2
  exact qH.err (HB1.trans (hb2.mono HB1.size)) rfl
def lD (b:Int):Int:=if b<3 then 3 else uX b
theorem SL (b:Int)(w:World):
  Calls Tryz.prog 16 #[.int .i64 b] w fun e w'=>Below w.heap.size w w'/\∃f':Fl,e=.returned (.tuple #[f'.v,.int .i64 (lD b)])/\Rt w' w.heap.size f' (Bu (lD b) (List.replicate b.toNat blank)):=by
 obtain⟨w1,hw1⟩:=Nm (w.alloc (.cells #[.slice none 0 0] 29))
 obtain⟨z0,hR,hz1,hb1⟩:=jG hw1
 have zf:=aQ hR 0
 have hw1':=hw1.symm
 have HB1:=Hp hb1
 have HR:=Hp hR
 have HZ:=Hp hz1
 have cN:=Hp (fun W=>P5 b W)
 obtain⟨E,hE⟩:=Nm (lD b)
 obtain⟨EN,hEN⟩:=Nm (uX b)
 rw[<-hE]
 rw[<-hEN]at cN
 unfold lD at hE
 rw[<-hEN]at hE
 clear hw1 hb1 hR hz1 hEN
 by_cases t:b<3
 ·rw[if_pos t]at hE
  subst hE
  go_enter Tryz.func16,Tryz.ntmps16
  go_wp2_with fail
  refine EL rfl rfl HR.out ?_
  exact⟨HB1.setCell (p:=⟨w.heap.size,0,none⟩) (GZ3 _) _,F5,rfl,AY _ _,GZ3 _,(AQ (by decide)).symm⟩
 ·rw[if_neg t]at hE
  subst hE
  go_enter Tryz.func16,Tryz.ntmps16
  go_wp2_with (
   go_at_call 74
   refine(cN.out _).mono ?_
   rintro e w2 ⟨hb2,f',rfl,hr2⟩
   have hR2:=(hb2.block _ (by have:=HZ.out;omega)).trans HR.out
   have y0:=cell_of_heap hR2 0
   have yf:=aQ hR2 0
   simp only[GZ2,GZ0]at y0
   have HR2:=Hp hR2
   have HB2:=Hp (HB1.trans (hb2.mono HB1.size))
   have HF2:=Hp hr2
   clear hR2 hb2 hr2)
  refine EL rfl rfl HR2.out ?_
  exact⟨HB2.setCell (p:=⟨w.heap.size,0,none⟩) (GZ3 _) _,f',rfl,(HF2.own.eT HR2.out (by decide) 0 _).more HB1.size,HF2.cap,HF2.is⟩
end
section
open Go.RowKit
theorem TT {f:List ByteArray}{s:List UInt8}(h:dF f s.length=0):
  bP (bT f (aW f s))=0/\(bT f (aW f s)).length=f.length/\gZ (bT f (aW f s))=0/\bQ (bT f (aW f s))=bQ f++[ofBytes s]/\0<(aW f s).length:=by
 obtain⟨k,r,e0,e,ho,hf,hd⟩:=Av h
 have hall:=FO hf ho
 rw[<-hd]at hall
 obtain⟨h1,h2⟩:=qQ hf.ok (l:=aW f s) (by rw[hd];exact FM hf)
 refine⟨h1,h2,?_,?_,?_⟩
 ·unfold gZ;rw[if_pos h1,hall]
 ·unfold bQ;rw[if_pos h1,if_pos hf.ok,hall,ho.load]
 ·rw[hd];unfold CU;rw[GZ8,List.length_singleton];omega
end
section
open Go.RowKit
structure JInv (F0 F:List ByteArray)(R:List ByteArray)(D:List Ded)(k e:Nat):Prop where
 ok:bP F=0
 len:F.length=F0.length
 load:Re (flat F)=some (k,R,e)
 done:F=bT F0 D
 deeds:∀d∈D,eB F0.length d=0
 many:R.length<=k
 dl:D.length<=e+5*k
theorem JInv.start {F0:List ByteArray}(h:bP F0=0)(hl:Re (flat F0)=some (0,[],0)):JInv F0 F0 [] [] 0 0:=
 ⟨h,rfl,hl,rfl,(fun _ h=>by cases h),GZ3 _,GZ3 _⟩
theorem EI {F R:List ByteArray}{k e:Nat}(h:Re (flat F)=some (k,R,e))(s:List UInt8):(aW F s).length<=s.length+5:=by
 unfold aW
 rw[h]
 show(CU e (128*F.length -5*(k+1)) s).length<=_
 unfold CU
 have h1:=iH e s
 have h2:=iH (128*F.length -5*(k+1)) (Sw e s.length)
 have h3:(Sw e s.length).length=4:=rfl
 rw[GZ8,GZ8,List.length_singleton]
 omega
theorem JInv.next {F0 F R:List ByteArray}{D:List Ded}{k e:Nat}{s:ByteArray}(h:JInv F0 F R D k e)(ha:dF F s.size=0):JInv F0 (bT F (aW F (bytesOf s))) (R++[s]) (D++aW F (bytesOf s)) (k+1) (e+s.size):=by
 rw[<-RB]at ha
 obtain⟨h1,h2,_,_,_⟩:=TT ha
 obtain⟨k',r',e0',e',ho,hf,hd⟩:=Av ha
 have hj:=ho.load
 rw[h.load]at hj
 simp only[Option.some.injEq,Prod.mk.injEq]at hj
 obtain⟨rfl,rfl,rfl⟩:=hj
 have hall:=FO hf ho
 rw[<-hd,wR,RB]at hall
 refine⟨h1,h2.trans h.len,hall,?_,?_,?_,?_⟩
 ·rw[mM,<-h.done]
 ·intro d hdm
  rcases List.mem_append.1 hdm with hdm|hdm
  ·exact h.deeds d hdm
  ·rw[<-h.len];rw[hd]at hdm;exact FM hf d hdm
 ·have:=h.many;rw[GZ8,List.length_singleton];omega
 ·have h3:=h.dl
  have h4:=EI h.load (bytesOf s)
  rw[RB]at h4
  rw[GZ8];omega
theorem JInv.err {F0 F R:List ByteArray}{D:List Ded}{k e n:Nat}(h:JInv F0 F R D k e)(ha:dF F n≠0)(h1:n≠0)(h8:n<=800):dF F n=8/\(flat F).length<e+n+5+5*(k+1):=by
 unfold dF at ha ⊢
 rw[if_pos h.ok,if_neg h1,if_neg (by omega)]at ha ⊢
 unfold TG at ha ⊢
 rw[h.load]at ha ⊢
 simp only at ha ⊢
 by_cases hr:(flat F).length<e+n+5+5*(k+1)
 ·rw[if_pos hr];exact⟨rfl,hr⟩
 ·rw[if_neg hr]at ha;exact absurd rfl ha
theorem JInv.open_ {F0 F R:List ByteArray}{D:List Ded}{k e:Nat}(h:JInv F0 F R D k e):gZ F=0/\bQ F=R:=by
 unfold gZ bQ
 rw[if_pos h.ok,if_pos h.ok,h.load]
 exact⟨rfl,rfl⟩
theorem JInv.do_ {F0 F R:List ByteArray}{D:List Ded}{k e:Nat}(h:JInv F0 F R D k e)(h0:bP F0=0):Eg F0 D=0/\bT F0 D=F:=⟨I4.2 ⟨h0,h.deeds⟩,h.done.symm⟩
theorem EW {w:World}{base size n:Nat}{e:TypeId}{v:Value}{xs:List Value}(h:w.ownsRow base e size v n xs){b:Nat}(hb:v.ownBlock=some b):b<w.heap.size/\base<=b:=by
 rcases h.2 with⟨rfl,_⟩|⟨g,cap,cur,rfl,h1,h2,_⟩
 ·cases hb
 ·have:g=b:=by simpa[Value.ownBlock]using hb
  subst this
  exact⟨(ZL h2),h1⟩
end
end Go.Proofs.YtjiedaialianmaaGreat
