import Derived.Test.YtjiedaialianmaaGreatA21
set_option maxRecDepth 100000
set_option maxHeartbeats 8000000
namespace Go.Proofs.YtjiedaialianmaaGreat
section
open Go
open Go.RowKit Go.Lib
theorem Jv {w w':World}{A:Option Addr}{l:List Cm}(h:Row Cm.cells 9 w A l)(hb:Below w.heap.size w w')(i:Nat)(hi:i<l.length):
  ∃ad,A=some ad/\ad.block<w.heap.size/\w'.cell? (ad.add (i*9))=some (iv l[i].kind)/\w'.cell? ⟨(ad.add (i*9)).block,(ad.add (i*9)).off+1,none⟩=some (.string l[i].m.name)/\w'.cell? ⟨(ad.add (i*9)).block,(ad.add (i*9)).off+2,none⟩=some (iv l[i].m.major)/\w'.cell? ⟨(ad.add (i*9)).block,(ad.add (i*9)).off+3,none⟩=some (iv l[i].m.minor)/\w'.cell? ⟨(ad.add (i*9)).block,(ad.add (i*9)).off+4,none⟩=some (.string l[i].m.text)/\w'.cell? ⟨(ad.add (i*9)).block,(ad.add (i*9)).off+5,none⟩=some (.slice l[i].m.eA l[i].m.ex.length l[i].m.eC)/\w'.cell? ⟨(ad.add (i*9)).block,(ad.add (i*9)).off+6,none⟩=some (.slice l[i].m.iA l[i].m.im.length l[i].m.iC)/\w'.cell? ⟨(ad.add (i*9)).block,(ad.add (i*9)).off+7,none⟩=some (.slice l[i].m.pA l[i].m.pa.length l[i].m.pC)/\w'.cell? ⟨(ad.add (i*9)).block,(ad.add (i*9)).off+8,none⟩=some (.string l[i].nm):=by
 obtain⟨ad,rfl,hab,hc⟩:=Row.at_ (enc:=Cm.cells) (k:=9) (fun _=>rfl) h i hi
 have e0:=hc 0 _ rfl
 rw[add_zero_]at e0
 have hk:∀j u,0<j->(Cm.cells l[i])[j]? =some u->w'.cell? ⟨(ad.add (i*9)).block,(ad.add (i*9)).off+j,none⟩=some u:=fun j u hj hu=>by
  rw[<-add_pos_ _ _ hj]
  exact(hb.cell (by rw[aA,aA];exact hab)).trans (hc j u hu)
 exact⟨ad,rfl,hab,(hb.cell (by rw[aA];exact hab)).trans e0,hk 1 _ (by omega) rfl,hk 2 _ (by omega) rfl,hk 3 _ (by omega) rfl,hk 4 _ (by omega) rfl,hk 5 _ (by omega) rfl,hk 6 _ (by omega) rfl,hk 7 _ (by omega) rfl,hk 8 _ (by omega) rfl⟩
theorem DN (A:Option Addr)(c:Nat)(l:List Cm)(g:Nat)(lb:Array Value)(I:Nat->World->Prop)(S:World->Prop)(w:World)
  (eg:∀args w,(callFunc g args).run Tryz.prog w=.ok (.enter g args) w) (hlen:l.length<=big)
  (hrow:∀j W,I j W->Row Cm.cells 9 W A l) (hbel:∀j W W',I j W->Below W.heap.size W W'->I j W')
  (hstep:∀(j:Nat)(hj:j<l.length)(W:World),I j W->Calls Tryz.prog g (#[(l[j]).v]++lb) W fun e w'=>(e=.returned (.bool true)/\I (j+1) w')\/(e=.returned (.bool false)/\S w'))
  (h0:I 0 w):Calls Tryz.prog 78 #[.slice A l.length c,.func (.func g) #[] lb] w fun e w'=>(∃u,e=.returned u)/\(I l.length w'\/S w'):=by
 have HROW:=Hp hrow
 have HBEL:=Hp hbel
 have HST:=Hp hstep
 have H0:=Hp h0
 unfold big at hlen
 clear hrow hbel hstep h0
 go_enter Tryz.func78,Tryz.ntmps78
 go_wp2_with fail
 go_loopw [8] (fun i wr=>∃j:Nat,i=.int .i64 j/\j<=l.length/\I j wr) (fun i _=>l.length -(intOf i).toNat)
 case atStart=>exact⟨0,rfl,Nat.zero_le _,H0.out⟩
 case round=>
  obtain⟨j,rfl,hj,hI⟩:=hrel
  have HI:=Hp hI
  clear hI
  by_cases hlt:j<l.length
  ·have hlt':(j:Int)<l.length:=by omega
   obtain⟨ad,rfl,hab,p0,p1,p2,p3,p4,p5,p6,p7,p8⟩:=Jv (HROW.out _ _ HI.out) (GZ4 _ _) j hlt
   obtain⟨y,hy⟩:=Nm (l[j]'hlt)
   obtain⟨W0,hW0⟩:=Nm (wr.alloc (.cells (cmA y) 102))
   have hI0:=HBEL.out j wr W0 HI.out (hW0▸ZB)
   have cD:=Hp (HST.out j hlt W0 hI0)
   simp only[<-hy]at p0 p1 p2 p3 p4 p5 p6 p7 p8 cD
   have hW0':=hW0.symm
   obtain⟨q0,q1,q2,q3,q4,q5,q6,q7,q8⟩:=dJ (W:=W0) (b:=wr.heap.size) (c:=y) (by rw[hW0];exact heap_alloc_new wr _)
   clear hy hI0 hW0
   go_wp2_with fail
   refine(cD.out).mono ?_
   rintro e w3 (⟨rfl,h3⟩|⟨rfl,h3⟩)
   ·have I3:=Hp h3
    clear h3 cD HI p0 p1 p2 p3 p4 p5 p6 p7 p8 q0 q1 q2 q3 q4 q5 q6 q7 q8
    go_wp2_with fail
    go_roundw
    case rel=>exact⟨j+1,by go_num,by omega,I3.out⟩
    case measure=>(simp[intOf];try omega)
   ·have S3:=Hp h3
    clear h3 cD HI p0 p1 p2 p3 p4 p5 p6 p7 p8 q0 q1 q2 q3 q4 q5 q6 q7 q8
    go_wp2_with fail
    exact bodyPost_ret (results_none rfl _ _ _) rfl ⟨⟨_,rfl⟩,.inr S3.out⟩
  ·obtain rfl:j=l.length:=by omega
   go_wp2_with fail
   go_end0
   exact⟨⟨_,rfl⟩,.inl HI.out⟩
end
section
open Go
open Go.RowKit Go.Lib
theorem Tryz.Pb :(Tryz.prog.info? 30).map (fun i=>(i.zero,i.size,i.bytes))=some (some (.int .i64 0),1,8):=by kernel_rfl
def dN (w:World)(base:Nat)(v:Value)(l:List Int):Prop:=w.ownsRow base 30 1 v l.length (l.map iv)
theorem dN.nil (w:World)(base:Nat):dN w base (.slice none 0 0) []:=World.ownsRow_nil _ _ _ _
theorem NJ (W:World){o:Oper}{a:Act}{K:Act->World->Prop}{Q:Exit->Act->World->Prop}(s x:Operand)
  (ho:o.op=.call {callee:=.builtin .append,args:=#[s,x],argTypes:=#[34,34]}) (base:Nat) (v:Value) (l0:List Int) (n:Int) (hs:a.eval s=v) (hx:a.eval x=.slice (some ⟨W.heap.size,0,none⟩) 1 1)
  (hown:dN W base v l0) (hlen:l0.length<=1000000) (hbase:base<=W.heap.size)
  (h:∀v' w',dN w' base v' (l0++[n])->Kp [30] W w'->Below base W w'->K (a.put o.dst v') w'):o.wp Tryz.prog a (W.alloc (.cells #[.int .i64 n] 30)) K Q:=by
 obtain⟨i0,hi,hz0,hz1,hz2⟩:=info_parts Tryz.Pb
 have hr:Reads (W.alloc (.cells #[.int .i64 n] 30)) (W.heap.size+1) 1 (some ⟨W.heap.size,0,none⟩) 1 [iv n]:=⟨rfl,fun _=>⟨_,rfl,by simp,fun j u hu=>by
  match j,hu with
  |0,hu=>rw[add_zero_];exact(heap_cell (heap_alloc_new W (.cells #[.int .i64 n] 30)) 0).trans hu
  |j+1,hu=>simp at hu⟩⟩
 refine jQ (W.alloc (.cells #[.int .i64 n] 30)) s x 34 ho base 30 i0 (.int .i64 0) 1 8 Tryz.underlying34 hi hz0 hz1 hz2 rfl (by decide) v l0.length (l0.map iv) hs (World.ownsRow.alloc hown _) _ _ 1 1 [iv n] hx hr (by simp[Value.oneCell']) (by simp only[maxLen];omega) (by omega) (by simp;omega) ?_
 intro v' w' h1 h2 _
 refine h v' w' (by unfold dN;simpa using h1) ?_ (((GZ4 base W).alloc hbase _).grown h2 (by simp;omega) (iW hown))
 exact((Kp.refl _ W).alloc _).trans (Kp.grown h2 fun g hg=>by
  obtain⟨c,fz,hk⟩:=own_kind (World.ownsRow.alloc hown (.cells #[.int .i64 n] 30)) g hg
  exact⟨c,_,fz,hk,by simp⟩)
theorem MZ (W:World){ops:Array Oper}{o:Oper}{a:Act}{K:Act->World->Prop}{Q:Exit->Act->World->Prop}{E:Prop}(hgd:o.guard=none)(s x:Operand)
  (ho:o.op=.call {callee:=.builtin .append,args:=#[s,x],argTypes:=#[34,34]}) (base:Nat) (v:Value) (l0:List Int) (n:Int) (hs:a.eval s=v) (hx:a.eval x=.slice (some ⟨W.heap.size,0,none⟩) 1 1)
  (hown:dN W base v l0) (hlen:l0.length<=1000000) (hbase:base<=W.heap.size)
  (h:∀v' w',dN w' base v' (l0++[n])->Kp [30] W w'->Below base W w'->K (a.put o.dst v') w'):if Region.wanted o (yielded ops a.tmps)=true then Oper.wp Tryz.prog o a (W.alloc (.cells #[.int .i64 n] 30)) K Q else E:=by
 have hw:Region.wanted o (yielded ops a.tmps)=true:=by simp[Region.wanted,hgd]
 rw[if_pos hw]
 exact NJ W s x ho base v l0 n hs hx hown hlen hbase h
theorem uL (W:World){ops:Array Oper}{rest:List Oper}{o:Oper}{a:Act}{Q:Exit->Act->World->Prop}(hgd:o.guard=none)(s x:Operand)
  (ho:o.op=.call {callee:=.builtin .append,args:=#[s,x],argTypes:=#[34,34]}) (base:Nat) (v:Value) (l0:List Int) (n:Int) (hs:a.eval s=v) (hx:a.eval x=.slice (some ⟨W.heap.size,0,none⟩) 1 1)
  (hown:dN W base v l0) (hlen:l0.length<=1000000) (hbase:base<=W.heap.size)
  (h:∀v' w',dN w' base v' (l0++[n])->Kp [30] W w'->Below base W w'->wpList Tryz.prog ops Q rest (a.put o.dst v') w'):wpList Tryz.prog ops Q (o::rest) a (W.alloc (.cells #[.int .i64 n] 30)):=
 wpList_plain hgd fun _ hK=>NJ W s x ho base v l0 n hs hx hown hlen hbase fun v' w' h2 h3 h4=>hK _ _ (h v' w' h2 h3 h4)
def kT (W:World)(base bp:Nat)(k:Krn)(l:List Plc):Prop:=∃k' A' l' c',jR W base bp k' A' l' c'/\k'.bare=k.bare/\aD l'=aD l
def Un (W:World)(base bo:Nat)(es:List Int):Prop:=∃v,Boxed W bo 34 v/\dN W base v es
theorem kT.kp {ts:List TypeId}{W W':World}{base bp:Nat}{k:Krn}{l:List Plc}(h:kT W base bp k l)(hk:Kp ts W W')(hr:126 ∉ ts)(h0:83 ∉ ts)(h1:159 ∉ ts)(h2:173 ∉ ts)(h3:180 ∉ ts):kT W' base bp k l:=by
 obtain⟨k',A',l',c',h,e1,e2⟩:=h
 exact⟨k',A',l',c',⟨hk _ _ _ _ h.heap hr,h.own.kp hk h0 h1 h2 h3,h.low⟩,e1,e2⟩
theorem Un.kp {ts:List TypeId}{W W':World}{base bo:Nat}{es:List Int}(h:Un W base bo es)(hk:Kp ts W W')(h0:34 ∉ ts)(h1:30 ∉ ts):Un W' base bo es:=by
 obtain⟨v,hb,ho⟩:=h
 exact⟨v,box_kp hb hk h0,own_kp ho hk h1⟩
theorem kT.lt {W:World}{base bp:Nat}{k:Krn}{l:List Plc}(h:kT W base bp k l):base<=bp/\bp<W.heap.size:=by
 obtain⟨k',A',l',c',h,_⟩:=h
 exact⟨h.low,h.lt⟩
theorem kT.do_ {base bp:Nat}{k:Krn}{l:List Plc}{w:World}(h:kT w base bp k l)(cm:Cm)(hr:aZ k l=0)(hm:cm.m.ok w)(hn:cm.nm.size<=big):
  Calls Tryz.prog 80 #[.pointer (some ⟨bp,0,none⟩),cm.v] w fun e w'=>e=.returned (.int .i64 (doE k l cm))/\kT w' base bp k (doL k l cm)/\Only bp w w'/\Kp [126] w w':=by
 obtain⟨k',A',l',c',h,e1,e2⟩:=h
 refine(Pm base bp k' A' c' l' cm w h (by rw[kQ e1 e2];exact hr) hm hn).mono ?_
 rintro e w' ⟨rfl,⟨k2,A2,l2,c2,h2,e3,e4⟩,ho⟩
 exact⟨by rw[Tz e1 e2 rfl],⟨k2,A2,l2,c2,h2,e3.trans e1,e4.trans (Su e1 e2 rfl)⟩,ho,ho.kp h.heap (by simp)⟩
end
section
open Go
open Go.RowKit Go.Lib
theorem run_end {w w0 w2 w3:World}{base bp bo:Nat}{k:Krn}{L:List Plc}{es:List Int}{E:Int}{v:Value}{A':Option Addr}{n c':Nat}(hk0:Kp [] w w0)(hb0:Below base w w0)(hs:base<=bp/\bp<w.heap.size)(hsz:w.heap.size<=w0.heap.size)(hlo:base<=bo)(hr2:kT w2 base bp k L)(ho2:Only bp w0 w2)
  (hk2:Kp [126] w0 w2) (hbo:Boxed w2 bo 34 v) (ho3:dN w3 base (.slice A' n c') (es++[E])) (hk3:Kp [30] w2 w3) (hb3:Below base w2 w3):
  kT (w3.setCell ⟨bo,0,none⟩ (.slice A' n c')) base bp k L/\Un (w3.setCell ⟨bo,0,none⟩ (.slice A' n c')) base bo (es++[E])/\Kp [126,30,34] w (w3.setCell ⟨bo,0,none⟩ (.slice A' n c'))/\Below base w (w3.setCell ⟨bo,0,none⟩ (.slice A' n c')):=by
 have h3:=box_kp hbo hk3 (by decide)
 have hks:Kp [34] w3 (w3.setCell ⟨bo,0,none⟩ (.slice A' n c')):=Kp.set h3 (by simp) 0 _
 refine⟨(hr2.kp hk3 (by decide) (by decide) (by decide) (by decide) (by decide)).kp hks (by decide) (by decide) (by decide) (by decide) (by decide),⟨_,heap_setCell_same w3 bo 0 _ _ _ h3,own_kp ho3 hks (by decide)⟩,?_,?_⟩
 ·exact(hk0.mono (by simp)).trans ((hk2.mono (by simp)).trans ((hk3.mono (by simp)).trans (hks.mono (by simp))))
 ·exact(hb0.trans ((ho2.below (by omega)).mono hs.1)).trans (hb3.setCell (p:=⟨bo,0,none⟩) hlo _)
theorem Mg (base bp bo bx:Nat)(k:Krn)(l:List Plc)(es:List Int)(cm:Cm)(w:World)(h:kT w base bp k l)(hr:aZ k l=0)(he:Un w base bo es)(hx:Boxed w bx 124 (.pointer (some ⟨bp,0,none⟩)))
  (hm:cm.m.ok w) (hn:cm.nm.size<=big) (hl:es.length<=1000000) (hlo:base<=bo):
  Calls Tryz.prog 83 (#[cm.v]++ #[.pointer (some ⟨bo,0,none⟩),.pointer (some ⟨bx,0,none⟩)]) w fun e w'=>e=.returned (.bool true)/\kT w' base bp k (doL k l cm)/\Un w' base bo (es++[doE k l cm])/\Kp [126,30,34] w w'/\Below base w w':=by
 obtain⟨w0,hw0⟩:=Nm (w.alloc (.cells (cmA cm) 102))
 have hb0:Below w.heap.size w w0:=hw0▸ZB
 have hk0:Kp [] w w0:=hw0▸(Kp.refl _ _).alloc _
 obtain⟨p0,p1,p2,p3,p4,p5,p6,p7,p8⟩:=dJ (W:=w0) (b:=w.heap.size) (c:=cm) (by rw[hw0];exact heap_alloc_new w _)
 obtain⟨v,hbo,hv⟩:=he
 have HBO0:=Hp (box_kp hbo hk0 (by simp))
 have HV0:=Hp (show dN w0 base v es from own_kp hv hk0 (by simp))
 have HX0:=Hp (box_kp hx hk0 (by simp))
 have q0:=HBO0.cell
 have x0:=HX0.cell
 have HS:=Hp h.lt
 have hbw:base<=w.heap.size:=by have:=h.lt;omega
 have cD:=Hp (fun W(hb:Below w0.heap.size w0 W)=>kT.do_ (h.kp (hk0.trans (Kp.of_below hb)) (by simp) (by simp) (by simp) (by simp) (by simp)) cm hr (hm.below (hb0.trans (hb.mono hb0.size))) hn)
 obtain⟨E,hE⟩:=Nm (doE k l cm)
 obtain⟨L,hL⟩:=Nm (doL k l cm)
 rw[<-hE,<-hL]at cD ⊢
 have HK0:=Hp hk0
 have HZ0:=Hp hb0.size
 have HB0:=Hp (hb0.mono hbw)
 have HBW:=Hp hbw
 have HLO:=Hp hlo
 have HL:=Hp hl
 have hw0':=hw0.symm
 clear hw0 hb0 hk0 hbo hv hx h hr hm hn hE hL hl hlo hbw
 go_enter Tryz.func83,Tryz.ntmps83
 go_wp2_with fail
 go_region_law (first
  |(go_simp;go_at_call 80;(with_reducible refine(cD.out _ (by first|with_reducible exact(GZ4 _ _).drew|with_reducible exact GZ4 _ _)).mono ?_);rintro e w2 ⟨rfl,hr2,ho2,hk2⟩;have HBO2:=Hp (box_kp (show Boxed w0.drew bo 34 v from HBO0.out) hk2 (by decide));have HV2:=Hp (show dN w2 base v es from own_kp (show dN w0.drew base v es from HV0.out) hk2 (by decide));have z2:=HBO2.out.cell;have z2a:=fun o=>(HBO2.out.alloc o).cell;have HBS2:=Hp (show base<=w2.heap.size from GY1 (GY1 HBW.out HZ0.out) ho2.size);have HR2:=Hp hr2;have HO2:=Hp (show Only bp w0 w2 from⟨ho2.os,ho2.tape,ho2.output,ho2.size,ho2.block⟩);have HK2:=Hp (show Kp [126] w0 w2 from hk2);clear hr2 ho2 hk2)
  |(refine MZ w2 (by rfl) (.tmp 5) (.tmp 9) (by rfl) base v es E (by rfl) (by rfl) HV2.out HL.out HBS2.out ?_;intro v' w3 ho3 hk3 hb3;obtain⟨A',c',rfl⟩:=bG ho3;have HBO3:=Hp (box_kp HBO2.out hk3 (by decide));have z3:=HBO3.cell;have zf3:=heap_free HBO3.out 0;have HF:=Hp (run_end HK0.out HB0.out HS.out HZ0.out HLO.out HR2.out HO2.out HK2.out HBO2.out ho3 hk3 hb3);clear ho3 hk3 hb3))
 all_goals(
  go_wp2_with fail
  go_ret
  have hf:=HF.out
  rw[GZ8]at hf
  exact⟨rfl,hf⟩)
end
section
open Go
open Go.RowKit
open Gs (Tx)
theorem Tryz.iK :(Tryz.prog.info? 102).map (·.size)=some 9:=by kernel_rfl
theorem Rv {W:World}{b:Nat}{v0 v1 v2 v3 v4 v5 v6 v7 v8:Value}{t:TypeId}(h:W.heap[b]? =some (.cells #[v0,v1,v2,v3,v4,v5,v6,v7,v8] t (0,0))):
  (W.cell? ⟨b,0,none⟩=some v0/\W.cell? ⟨b,1,none⟩=some v1/\W.cell? ⟨b,2,none⟩=some v2/\W.cell? ⟨b,3,none⟩=some v3/\W.cell? ⟨b,4,none⟩=some v4/\W.cell? ⟨b,5,none⟩=some v5/\W.cell? ⟨b,6,none⟩=some v6/\W.cell? ⟨b,7,none⟩=some v7/\W.cell? ⟨b,8,none⟩=some v8)/\(W.frozen? ⟨b,0,none⟩=false/\W.frozen? ⟨b,1,none⟩=false/\W.frozen? ⟨b,2,none⟩=false/\W.frozen? ⟨b,3,none⟩=false/\W.frozen? ⟨b,4,none⟩=false/\W.frozen? ⟨b,5,none⟩=false/\W.frozen? ⟨b,6,none⟩=false/\W.frozen? ⟨b,7,none⟩=false/\W.frozen? ⟨b,8,none⟩=false):=
 ⟨⟨heap_cell h 0,heap_cell h 1,heap_cell h 2,heap_cell h 3,heap_cell h 4,heap_cell h 5,heap_cell h 6,heap_cell h 7,heap_cell h 8⟩,heap_free h 0,heap_free h 1,heap_free h 2,heap_free h 3,heap_free h 4,heap_free h 5,heap_free h 6,heap_free h 7,heap_free h 8⟩
theorem dS {W:World}{b:Nat}{cs:Array Value}{t:TypeId}(o:Nat)(v:Value)(cs':Array Value)(h:W.heap[b]? =some (.cells cs t (0,0)))(e:cs.setIfInBounds o v=cs'):(W.setCell ⟨b,o,none⟩ v).heap[b]? =some (.cells cs' t (0,0)):=e▸heap_setCell_same W b o _ _ v h
theorem Qq {W:World}{b:Nat}{c0 c1 c2 c3 c4 c5 c6 c7 c8:Value}{t:TypeId}(h:W.heap[b]? =some (.cells #[c0,c1,c2,c3,c4,c5,c6,c7,c8] t (0,0)))(x1 x2 x3 x4 x5 x6 x7 x8:Value):
  ∃W',W'=(((((((W.setCell ⟨b,1,none⟩ x1).setCell ⟨b,2,none⟩ x2).setCell ⟨b,3,none⟩ x3).setCell ⟨b,4,none⟩ x4).setCell ⟨b,5,none⟩ x5).setCell ⟨b,6,none⟩ x6).setCell ⟨b,7,none⟩ x7).setCell ⟨b,8,none⟩ x8/\
   W'.heap[b]? =some (.cells #[c0,x1,x2,x3,x4,x5,x6,x7,x8] t (0,0))/\Only b W W':=by
 have h1:=dS 1 x1 #[c0,x1,c2,c3,c4,c5,c6,c7,c8] h rfl
 have h2:=dS 2 x2 #[c0,x1,x2,c3,c4,c5,c6,c7,c8] h1 rfl
 have h3:=dS 3 x3 #[c0,x1,x2,x3,c4,c5,c6,c7,c8] h2 rfl
 have h4:=dS 4 x4 #[c0,x1,x2,x3,x4,c5,c6,c7,c8] h3 rfl
 have h5:=dS 5 x5 #[c0,x1,x2,x3,x4,x5,c6,c7,c8] h4 rfl
 have h6:=dS 6 x6 #[c0,x1,x2,x3,x4,x5,x6,c7,c8] h5 rfl
 have h7:=dS 7 x7 #[c0,x1,x2,x3,x4,x5,x6,x7,c8] h6 rfl
 have h8:=dS 8 x8 #[c0,x1,x2,x3,x4,x5,x6,x7,x8] h7 rfl
 exact⟨_,rfl,h8,(((((((Only.set 1 x1).trans (Only.set 2 x2)).trans (Only.set 3 x3)).trans (Only.set 4 x4)).trans (Only.set 5 x5)).trans (Only.set 6 x6)).trans (Only.set 7 x7)).trans (Only.set 8 x8)⟩
theorem rD (l:List UInt8):l.length=(sof l).size:=by show _=l.toArray.size;simp
theorem Tp (b:UInt8)(r:List UInt8):((sof (b::r)).toList==[])=false:=by
 rw[mW];simp[ByteArray.size]
theorem nQ (l:List UInt8)(w:World)(hl:l.length<=big):
  Calls Tryz.prog 62 #[.string (sof l)] w fun e w'=>(∃m:Mod,e=.returned (.tuple #[(⟨(aS l).2.kind,m,(aS l).2.nm⟩:Cm).v,.int .i64 (aS l).1])/\m.ok w'/\m.own w' w.heap.size/\gI m (aS l).2.m)/\Below w.heap.size w w':=by
 cases l with
 |nil=>
  go_enter Tryz.func62,Tryz.ntmps62
  go_wp2_with fail
  have hg:=heap_alloc_new w (.cells #[.int .i64 0,.string ⟨#[]⟩,.int .i64 0,.int .i64 0,.string ⟨#[]⟩,.slice none 0 0,.slice none 0 0,.slice none 0 0,.string ⟨#[]⟩] 102)
  refine bodyPost_ret (results_cell_tmp rfl _ _ w.heap.size 102 _ (0,0) _ rfl hg Tryz.underlying102 rfl Tryz.iK) rfl ?_
  exact⟨⟨zeroMod,rfl,zero_ok _,dW _ _,⟨rfl,rfl,rfl,rfl,rfl,rfl,rfl⟩⟩,ZB⟩
 |cons b r=>
  have e0:=Tp b r
  obtain⟨K,hK⟩:∃K:Int,K=(b.toNat:Int):=⟨_,rfl⟩
  have e1:∀h,((sof (b::r))[0]'h)=b:=fun _=>rfl
  have e2:wrap64 (b.toNat:Int)=K:=by rw[hK];have:=b.toNat_lt;unfold wrap64;omega
  have e3:(sof (b::r)).extract 1 (r.length+1)=sof r:=ba_eq (by simp[ByteArray.data_extract])
  have c1:=Hp (BB K)
  have HK:=Hp hK
  obtain⟨w0,hw0⟩:∃w0,w0=(w.alloc (.cells #[.int .i64 0,.string ⟨#[]⟩,.int .i64 0,.int .i64 0,.string ⟨#[]⟩,.slice none 0 0,.slice none 0 0,.slice none 0 0,.string ⟨#[]⟩] 102)).alloc (.cells #[.int .i64 K,.string ⟨#[]⟩,.int .i64 0,.int .i64 0,.string ⟨#[]⟩,.slice none 0 0,.slice none 0 0,.slice none 0 0,.string ⟨#[]⟩] 102):=⟨_,rfl⟩
  have hw0':=Hp hw0.symm
  clear hK hw0
  go_enter Tryz.func62,Tryz.ntmps62
  go_wp2_with fail
  rw[hw0'.out]
  refine(c1.out _).mono ?_;rintro e w1 ⟨rfl,hb1⟩
  have z0:w0.heap.size=w.heap.size+2:=by rw[<-hw0'.out];simp
  have HB0:=Hp (show Below w.heap.size w w0 from hw0'.out▸((ZB).alloc (by simp) _))
  have hr0:w0.heap[w.heap.size]? =some (.cells #[.int .i64 0,.string ⟨#[]⟩,.int .i64 0,.int .i64 0,.string ⟨#[]⟩,.slice none 0 0,.slice none 0 0,.slice none 0 0,.string ⟨#[]⟩] 102 (0,0)):=by rw[<-hw0'.out,heap_alloc_old _ _ (by simp)];exact heap_alloc_new w _
  have hq0:w0.heap[w.heap.size+1]? =some (.cells #[.int .i64 K,.string ⟨#[]⟩,.int .i64 0,.int .i64 0,.string ⟨#[]⟩,.slice none 0 0,.slice none 0 0,.slice none 0 0,.string ⟨#[]⟩] 102 (0,0)):=by rw[<-hw0'.out];have:=heap_alloc_new (w.alloc (.cells #[.int .i64 0,.string ⟨#[]⟩,.int .i64 0,.int .i64 0,.string ⟨#[]⟩,.slice none 0 0,.slice none 0 0,.slice none 0 0,.string ⟨#[]⟩] 102)) (.cells #[.int .i64 K,.string ⟨#[]⟩,.int .i64 0,.int .i64 0,.string ⟨#[]⟩,.slice none 0 0,.slice none 0 0,.slice none 0 0,.string ⟨#[]⟩] 102);simpa using this
  have HR1:=Hp ((hb1.block w.heap.size (by omega)).trans hr0)
  have HQ1:=Hp ((hb1.block (w.heap.size+1) (by omega)).trans hq0)
  have HB1:=Hp (HB0.trans (hb1.mono HB0.size))
  clear hb1 hr0 hq0 z0 HB0 hw0' c1
  clear w0
  cases t:nG K
  ·obtain⟨⟨q0,q1,q2,q3,q4,q5,q6,q7,q8⟩,f0,f1,f2,f3,f4,f5,f6,f7,f8⟩:=Rv HQ1.out
   have cm:=Hp (fun W=>Td K zeroMod (sof r) W (zero_ok W) (by rw[<-rD];simp only[GY8]at hl;omega))
   have ho2:Only (w.heap.size+1) w1 (w1.setCell ⟨w.heap.size+1,8,none⟩ (.string (sof r))):=Only.set 8 _
   have hq2:=heap_setCell_same w1 (w.heap.size+1) 8 _ _ (.string (sof r)) HQ1.out
   have HCD:=Hp (show aS (b::r)=if RL ⟨K,zeroMod,sof r⟩≠0 then(1,jP)else(0,⟨K,zeroMod,sof r⟩) by rw[HK.out]at t ⊢;unfold aS;simp only[t];rfl)
   obtain⟨E,hE⟩:=Nm (RL ⟨K,zeroMod,sof r⟩)
   rw[<-hE]at cm HCD
   clear hE
   go_wp2_with fail
   have lt1:w.heap.size+1<w1.heap.size:=(ZL HQ1.out)
   have HR2:=Hp ((ho2.block w.heap.size (by omega) (by omega)).trans HR1.out)
   have HB2:=Hp (HB1.trans ((ho2.below (by omega)).mono (by omega)))
   have HQ2:=Hp hq2
   generalize w1.setCell ⟨w.heap.size+1,8,none⟩ (.string (sof r))=w2 at*
   refine(cm.out w2).mono ?_;rintro e w3 ⟨rfl,hb3⟩
   have HR3:=Hp (aF hb3 HR2)
   have HB3:=Hp (HB2.trans (hb3.mono HB2.size))
   obtain⟨⟨q0,q1,q2,q3,q4,q5,q6,q7,q8⟩,_⟩:=Rv (show w3.heap[w.heap.size+1]? =some (.cells #[.int .i64 K,.string ⟨#[]⟩,.int .i64 0,.int .i64 0,.string ⟨#[]⟩,.slice none 0 0,.slice none 0 0,.slice none 0 0,.string (sof r)] 102 (0,0)) from aF hb3 HQ2.out)
   obtain⟨⟨r0,r1,r2,r3,r4,r5,r6,r7,r8⟩,f0,f1,f2,f3,f4,f5,f6,f7,f8⟩:=Rv HR3.out
   clear hb3 hq2 ho2 lt1
   by_cases s:E=0
   ·subst s
    go_wp2_with fail
    obtain⟨hg,ho⟩:=Uq HR3.out (.int .i64 K) (.string ⟨#[]⟩) (.int .i64 0) (.int .i64 0) (.string ⟨#[]⟩) (.slice none 0 0) (.slice none 0 0) (.slice none 0 0) (.string (sof r))
    refine bodyPost_ret (results_cell_tmp rfl _ _ w.heap.size 102 _ (0,0) _ rfl hg Tryz.underlying102 rfl Tryz.iK) rfl ?_
    rw[HCD.out]
    exact⟨⟨zeroMod,rfl,zero_ok _,dW _ _,⟨rfl,rfl,rfl,rfl,rfl,rfl,rfl⟩⟩,HB3.trans (ho.below (GY2 (ZL HR3.out)))⟩
   ·have s':(E != 0)=true:=by simp[s]
    have HCE:=Hp (show aS (b::r)=(1,jP) by rw[HCD.out,if_pos s])
    clear s HCD
    go_wp2_with fail
    obtain⟨hg,ho⟩:=Uq HR3.out (.int .i64 0) (.string ⟨#[]⟩) (.int .i64 0) (.int .i64 0) (.string ⟨#[]⟩) (.slice none 0 0) (.slice none 0 0) (.slice none 0 0) (.string ⟨#[]⟩)
    refine bodyPost_ret (results_cell_tmp rfl _ _ w.heap.size 102 _ (0,0) _ rfl hg Tryz.underlying102 rfl Tryz.iK) rfl ?_
    rw[HCE.out]
    exact⟨⟨zeroMod,rfl,zero_ok _,dW _ _,⟨rfl,rfl,rfl,rfl,rfl,rfl,rfl⟩⟩,HB3.trans (ho.below (GY2 (ZL HR3.out)))⟩
  ·have cd:=Hp (fun W=>Ig r W (by simp only[GY8]at hl;omega))
   have HCD:=Hp (show aS (b::r)=if dO r≠0 then(1,jP)else(0,⟨K,iD r,⟨#[]⟩⟩) by rw[HK.out]at t ⊢;unfold aS;simp only[t];rfl)
   have HOK:=Hp (fun h=>uM (l:=b::r) h)
   rw[HCD.out]at HOK
   obtain⟨E,hE⟩:=Nm (dO r)
   rw[<-hE]at cd HCD HOK
   obtain⟨D,hD⟩:=Nm (iD r)
   rw[<-hD]at cd HCD HOK
   clear hE hD
   go_wp2_with fail
   refine(cd.out _).mono ?_;rintro e w2 ⟨⟨m,rfl,hok,hown,hsame⟩,hb2⟩
   obtain⟨w3,hw3⟩:=Nm (w2.alloc (.cells #[.string m.name,.int .i64 m.major,.int .i64 m.minor,.string m.text,.slice m.eA m.ex.length m.eC,.slice m.iA m.im.length m.iC,.slice m.pA m.pa.length m.pC] 70))
   have hb3:Below w2.heap.size w2 w3:=hw3▸ZB
   obtain⟨m0,m1,m2,m3,m4,m5,m6⟩:=RF (show w3.heap[w2.heap.size]? =_ by rw[hw3];exact heap_alloc_new w2 _)
   have HR3:=Hp (aF hb3 (aF hb2 HR1))
   have HQ3:=Hp (aF hb3 (aF hb2 HQ1))
   have HB3:=Hp (HB1.trans ((hb2.mono HB1.size).trans (hb3.mono (GY1 HB1.size hb2.size))))
   have HOW3:=Hp ((hown.below hb3).le HB1.size)
   have HOK2:=Hp hok
   have HSA:=Hp hsame
   have hne:w.heap.size+1<w2.heap.size:=GY0 (ZL HQ1.out) hb2.size
   obtain⟨⟨r0,r1,r2,r3,r4,r5,r6,r7,r8⟩,f0,f1,f2,f3,f4,f5,f6,f7,f8⟩:=Rv HR3.out
   obtain⟨⟨q0,q1,q2,q3,q4,q5,q6,q7,q8⟩,g0,g1,g2,g3,g4,g5,g6,g7,g8⟩:=Rv HQ3.out
   have hw3':=hw3.symm
   clear hw3 hb2 hb3 hok hown hsame cd
   by_cases s:E=0
   ·subst s
    have HCE:=Hp (show aS (b::r)=(0,⟨K,D,⟨#[]⟩⟩) by rw[HCD.out,if_neg (by decide)])
    have HO:=Hp (show RL ⟨K,m,⟨#[]⟩⟩=0 by
     have h:=HOK.out
     rw[if_neg (by decide)]at h
     rw[<-h rfl]
     exact Sr (show Cm.bare _=Cm.bare _ by unfold Cm.bare;simp only[iL HSA.out]))
    clear HCD HOK
    go_upto_region 11 with fail
    obtain⟨w4,e4,h4,ho4⟩:=Qq HQ3.out (.string m.name) (.int .i64 m.major) (.int .i64 m.minor) (.string m.text) (.slice m.eA m.ex.length m.eC) (.slice m.iA m.im.length m.iC) (.slice m.pA m.pa.length m.pC) (.string ⟨#[]⟩)
    rw[<-e4]
    have hkp:=ho4.kp HQ3.out (ts:=[102]) (by simp)
    have HOW4:=Hp (HOW3.kp hkp (by decide) (by decide) (by decide))
    have HR4:=Hp ((ho4.block w.heap.size (ZL HR3.out) (by omega)).trans HR3.out)
    have HB4:=Hp (HB3.trans ((ho4.below (GY2 (ZL HQ3.out))).mono (by omega)))
    have HOK4:=Hp (HOW4.ok ⟨rfl,rfl,rfl,rfl,rfl,rfl,rfl⟩ HOK2.out)
    have cm:=Hp (Td K m ⟨#[]⟩ w4 HOK4.out (Nat.zero_le _))
    rw[HO.out]at cm
    have HQ4:=Hp h4
    obtain⟨⟨q0,q1,q2,q3,q4,q5,q6,q7,q8⟩,_⟩:=Rv h4
    clear e4 h4 ho4 hkp m0 m1 m2 m3 m4 m5 m6 hw3' r0 r1 r2 r3 r4 r5 r6 r7 r8 f0 f1 f2 f3 f4 f5 f6 f7 f8 g0 g1 g2 g3 g4 g5 g6 g7 g8
    go_wp2_with fail
    refine(cm.out).mono ?_;rintro e w5 ⟨rfl,hb5⟩
    have HR5:=Hp (aF hb5 HR4)
    have HB5:=Hp (HB4.trans (hb5.mono HB4.size))
    have HOW5:=Hp (HOW4.below hb5)
    obtain⟨⟨q0,q1,q2,q3,q4,q5,q6,q7,q8⟩,_⟩:=Rv (aF hb5 HQ4.out)
    obtain⟨⟨r0,r1,r2,r3,r4,r5,r6,r7,r8⟩,f0,f1,f2,f3,f4,f5,f6,f7,f8⟩:=Rv HR5.out
    clear hb5 cm
    go_wp2_with fail
    obtain⟨hg,ho⟩:=Uq HR5.out (.int .i64 K) (.string m.name) (.int .i64 m.major) (.int .i64 m.minor) (.string m.text) (.slice m.eA m.ex.length m.eC) (.slice m.iA m.im.length m.iC) (.slice m.pA m.pa.length m.pC) (.string ⟨#[]⟩)
    refine bodyPost_ret (results_cell_tmp rfl _ _ w.heap.size 102 _ (0,0) _ rfl hg Tryz.underlying102 rfl Tryz.iK) rfl ?_
    rw[HCE.out]
    have hown:=HOW5.kp (ho.kp HR5.out (ts:=[102]) (by simp)) (by decide) (by decide) (by decide)
    exact⟨⟨m,rfl,hown.ok ⟨rfl,rfl,rfl,rfl,rfl,rfl,rfl⟩ HOK2.out,hown,HSA.out⟩,HB5.trans (ho.below (GY2 (ZL HR5.out)))⟩
   ·have s':(E != 0)=true:=by simp[s]
    have HCE:=Hp (show aS (b::r)=(1,jP) by rw[HCD.out,if_pos s])
    clear s HCD HOK
    go_wp2_with fail
    obtain⟨hg,ho⟩:=Uq HR3.out (.int .i64 0) (.string ⟨#[]⟩) (.int .i64 0) (.int .i64 0) (.string ⟨#[]⟩) (.slice none 0 0) (.slice none 0 0) (.slice none 0 0) (.string ⟨#[]⟩)
    refine bodyPost_ret (results_cell_tmp rfl _ _ w.heap.size 102 _ (0,0) _ rfl hg Tryz.underlying102 rfl Tryz.iK) rfl ?_
    rw[HCE.out]
    exact⟨⟨zeroMod,rfl,zero_ok _,dW _ _,⟨rfl,rfl,rfl,rfl,rfl,rfl,rfl⟩⟩,HB3.trans (ho.below (GY2 (ZL HR3.out)))⟩
end
section
open Go
open Go.RowKit Go.Lib
open Gs (Tx)
abbrev flA (f:Fl):Array Value:=#[.slice f.a f.bl.length f.c]
def FlB (W:World)(base ba:Nat)(F:List ByteArray):Prop:=∃f:Fl,W.heap[ba]? =some (.cells (flA f) 29 (0,0))/\Rt W base f F
theorem Rt.down {w:World}{b b':Nat}{f:Fl}{l:List ByteArray}(h:Rt w b f l)(hb:b'<=b):Rt w b' f l:=⟨h.own.more hb,h.cap,h.is⟩
theorem Rt.keep {ts:List TypeId}{w w':World}{b:Nat}{f:Fl}{l:List ByteArray}(h:Rt w b f l)(hk:Kp ts w w')(ht:9 ∉ ts):Rt w' b f l:=⟨own_kp h.own hk ht,h.cap,h.is⟩
theorem FlB.kp {ts:List TypeId}{W W':World}{base ba:Nat}{F:List ByteArray}(h:FlB W base ba F)(hk:Kp ts W W')(h1:29 ∉ ts)(h2:9 ∉ ts):FlB W' base ba F:=by
 obtain⟨f,hh,hr⟩:=h
 exact⟨f,hk _ _ _ _ hh h1,hr.keep hk h2⟩
def lM (w1:World)(E:Int)(F0:List ByteArray)(p e:Value)(wx:World):Prop:=
 ∃(f':Fl)(B:Nat),p=.pointer (some ⟨B,0,none⟩)/\e=.int .i64 E/\wx.heap[B]? =some (.cells (flA f') 29 (0,0))/\w1.heap.size<=B/\Rt wx w1.heap.size f' F0/\Below w1.heap.size w1 wx
theorem lM.new {w1 w6:World}{E:Int}{F0:List ByteArray}{f':Fl}(hb:Below w1.heap.size w1 w6)(hr:Rt w6 w1.heap.size f' F0):
  lM w1 E F0 (.pointer (some ⟨w6.heap.size,0,none⟩)) (.int .i64 E) (w6.alloc (.cells #[.slice f'.a f'.bl.length f'.c] 29)):=by
 have ha:Below w6.heap.size w6 (w6.alloc (.cells #[.slice f'.a f'.bl.length f'.c] 29)):=ZB
 exact⟨f',w6.heap.size,rfl,rfl,heap_alloc_new _ _,hb.size,⟨hr.own.below ha (GZ3 _),hr.cap,hr.is⟩,hb.trans (ha.mono hb.size)⟩
theorem lM.old {w1 w6:World}{E:Int}{F0:List ByteArray}{f':Fl}{B:Nat}{x:Value}(hz:w6.heap[B]? =some (.cells #[x] 29 (0,0)))(hB:w1.heap.size<=B)(hb:Below w1.heap.size w1 w6)(hr:Rt w6 w1.heap.size f' F0):
  lM w1 E F0 (.pointer (some ⟨B,0,none⟩)) (.int .i64 E) (w6.setCell ⟨B,0,none⟩ (.slice f'.a f'.bl.length f'.c)):=
 ⟨f',B,rfl,rfl,heap_setCell_same w6 B 0 _ _ _ hz,hB,hr.keep (Kp.set hz (ts:=[29]) (by simp) 0 _) (by decide),hb.setCell (p:=⟨B,0,none⟩) hB _⟩
theorem Oi {w1 W w6:World}{f':Fl}{F0:List ByteArray}(hb:Below w1.heap.size w1 W)(hb6:Below W.heap.size W w6)(h:Rt w6 W.heap.size f' F0):Below w1.heap.size w1 w6/\Rt w6 w1.heap.size f' F0:=⟨hb.trans (hb6.mono hb.size),h.down hb.size⟩
theorem mR {w1 W w6:World}(hb:Below w1.heap.size w1 W)(hb6:Below W.heap.size W w6):Below w1.heap.size w1 w6:=hb.trans (hb6.mono hb.size)
def Stepped (base b2 bp bo bx ba be:Nat)(k:Krn)(E:Int)(L:List Plc)(es:List Int)(F:List ByteArray)(B:Int)(F':List ByteArray)(w:World)(e:Ending)(w':World):Prop:=
 Below base w w'/\Boxed w' bx 124 (.pointer (some ⟨bp,0,none⟩))/\
  ((e=.returned (.bool true)/\(E≠0\/B=0)/\kT w' base bp k L/\Un w' b2 bo (es++[E])/\FlB w' base ba (if E≠0 then F else F')/\Boxed w' be 30 (.int .i64 0))\/
   (e=.returned (.bool false)/\E=0/\B≠0/\Un w' b2 bo es/\FlB w' base ba F/\Boxed w' be 30 (.int .i64 B)))
theorem BO {k:Krn}{l:List Plc}{c:Cm}(h:doE k l c=0):RL c=0:=by
 unfold doE at h
 by_cases e:RL c=0
 ·exact e
 ·rw[if_pos e]at h;exact absurd h e
theorem Fh {w3 w4:World}{base b2 bp bo bx ba be:Nat}{k:Krn}{L:List Plc}{es:List Int}{F:List ByteArray}{E:Int}{v:Value}{A':Option Addr}{n c':Nat}(hr:kT w3 base bp k L)(hbo:Boxed w3 bo 34 v)(hx:Boxed w3 bx 124 (.pointer (some ⟨bp,0,none⟩)))(hf:FlB w3 base ba F)(hz:Boxed w3 be 30 (.int .i64 0))(h2:be<b2)(hlo:base<=bo)(h3:base<=b2)
  (ho:dN w4 b2 (.slice A' n c') (es++[E])) (hk:Kp [30] w3 w4) (hb:Below b2 w3 w4):
  Below base w3 (w4.setCell ⟨bo,0,none⟩ (.slice A' n c'))/\Boxed (w4.setCell ⟨bo,0,none⟩ (.slice A' n c')) bx 124 (.pointer (some ⟨bp,0,none⟩))/\kT (w4.setCell ⟨bo,0,none⟩ (.slice A' n c')) base bp k L/\Un (w4.setCell ⟨bo,0,none⟩ (.slice A' n c')) b2 bo (es++[E])/\FlB (w4.setCell ⟨bo,0,none⟩ (.slice A' n c')) base ba F/\Boxed (w4.setCell ⟨bo,0,none⟩ (.slice A' n c')) be 30 (.int .i64 0):=by
 have h4:=box_kp hbo hk (by decide)
 have hks:Kp [34] w4 (w4.setCell ⟨bo,0,none⟩ (.slice A' n c')):=Kp.set h4 (by simp) 0 _
 have hkk:Kp [30,34] w3 (w4.setCell ⟨bo,0,none⟩ (.slice A' n c')):=(hk.mono (by simp)).trans (hks.mono (by simp))
 exact⟨(hb.mono h3).setCell (p:=⟨bo,0,none⟩) hlo _,box_kp hx hkk (by decide),hr.kp hkk (by decide) (by decide) (by decide) (by decide) (by decide),⟨_,heap_setCell_same w4 bo 0 _ _ _ h4,own_kp ho hks (by decide)⟩,hf.kp hkk (by decide) (by decide),box_kp ((hb.block be h2).trans hz) hks (by decide)⟩
theorem L9 (base b2 bp bo bx ba be:Nat)(k:Krn)(l:List Plc)(es:List Int)(F:List ByteArray)(cm:Cm)(w:World)(h:kT w base bp k l)(hr:aZ k l=0)(he:Un w b2 bo es)(hx:Boxed w bx 124 (.pointer (some ⟨bp,0,none⟩)))
  (hf:FlB w base ba F) (hfl:bP F=0) (hz:Boxed w be 30 (.int .i64 0)) (hm:∀W,Below base w W->cm.m.ok W) (hn:cm.nm.size<=big) (hl:es.length<=1000000) (hlo:base<=bo/\base<=ba/\base<=be) (h2:be<b2) (h3:base<=b2) (h4:b2<=w.heap.size):
  Calls Tryz.prog 79 (#[cm.v]++ #[.pointer (some ⟨bx,0,none⟩),.pointer (some ⟨ba,0,none⟩),.pointer (some ⟨be,0,none⟩),.pointer (some ⟨bo,0,none⟩)]) w (Stepped base b2 bp bo bx ba be k (doE k l cm) (doL k l cm) es F (dF F (aG cm).length) (bT F (aW F (aG cm))) w):=by
 obtain⟨w0,hw0⟩:=Nm (w.alloc (.cells (cmA cm) 102))
 have hb0:Below w.heap.size w w0:=hw0▸ZB
 have hk0:Kp [] w w0:=hw0▸(Kp.refl _ _).alloc _
 have hC0:w0.heap[w.heap.size]? =some (.cells (cmA cm) 102 (0,0)):=by rw[hw0];exact heap_alloc_new w _
 obtain⟨p0,p1,p2,p3,p4,p5,p6,p7,p8⟩:=dJ hC0
 have HC0:=Hp hC0
 obtain⟨v,hbo,hv⟩:=he
 have HBO0:=Hp (box_kp hbo hk0 (by simp))
 have HV0:=Hp (show dN w0 b2 v es from own_kp hv hk0 (by simp))
 have HX0:=Hp (box_kp hx hk0 (by simp))
 have HF0:=Hp (hf.kp hk0 (by simp) (by simp))
 have HZ0:=Hp (box_kp hz hk0 (by simp))
 have x0:=HX0.cell
 have hbw:base<=w.heap.size:=GY1 h3 h4
 have c1:=Hp (kT.do_ (h.kp hk0 (by simp) (by simp) (by simp) (by simp) (by simp)) cm hr (hm w0 (hb0.mono hbw)) hn)
 have HM:=Hp hm
 have HS:=Hp h.lt
 have HBW0:=Hp hb0
 have HLO:=Hp hlo
 have H2:=Hp h2
 have H3:=Hp h3
 have H4:=Hp h4
 have HL:=Hp hl
 have HFL:=Hp hfl
 have HBW:=Hp hbw
 obtain⟨E,hE⟩:=Nm (doE k l cm)
 obtain⟨L,hL⟩:=Nm (doL k l cm)
 have HE:=Hp hE
 obtain⟨B,hB⟩:=Nm (dF F (aG cm).length)
 obtain⟨F',hF'⟩:∃F',F'=bT F (aW F (aG cm)):=⟨_,rfl⟩
 have HB:=Hp hB
 have HF':=Hp hF'
 rw[<-hB,<-hF']
 rw[<-hE,<-hL]at c1 ⊢
 have hw0':=hw0.symm
 clear hw0 hb0 hk0 hC0 hbo hv hx h hr hm hn hE hL hl hlo hbw hf hfl hz h2 h3 h4 hB hF'
 go_enter Tryz.func79,Tryz.ntmps79
 go_wp2_with fail
 refine(c1.out).mono ?_;rintro e w1 ⟨rfl,hr1,ho1,hk1⟩
 have HR1:=Hp hr1
 have HBO1:=Hp (box_kp HBO0.out hk1 (by decide))
 have HV1:=Hp (show dN w1 b2 v es from own_kp HV0.out hk1 (by decide))
 have HX1:=Hp (box_kp HX0.out hk1 (by decide))
 have HF1:=Hp (HF0.kp hk1 (by decide) (by decide))
 have HZ1:=Hp (box_kp HZ0.out hk1 (by decide))
 have HB1:=Hp (show Below base w w1 from(HBW0.mono HBW.out).trans ((ho1.below (by have:=HS.out;have:=HBW0.size;omega)).mono HS.out.1))
 have HC1:=Hp (hk1 _ _ _ _ HC0.out (by decide))
 have HSW:=Hp (show base<=w1.heap.size from GY1 HBW.out HB1.size)
 have HS1:=Hp (show b2<=w1.heap.size from GY1 H4.out HB1.size)
 clear hr1 ho1 hk1 c1 p0 p1 p2 p3 p4 p5 p6 p7 p8 x0
 by_cases t:E=0
 ·subst t
  have hce:=BO HE.symm
  have hlen:=(kZ hce).2
  obtain⟨f,hh,hres⟩:=HF1.out
  have hfok:f.ok w1:=hres.ok (.inr HFL.out)
  have hbs:bytesOf (sof (aG cm))=aG cm:=iZ _
  have cB:=Hp (fun W(hb:Below w1.heap.size w1 W)=>show Calls Tryz.prog 81 #[.agg #[.int .i64 cm.kind,.string cm.m.name,.int .i64 cm.m.major,.int .i64 cm.m.minor,.string cm.m.text,.slice cm.m.eA cm.m.ex.length cm.m.eC,.slice cm.m.iA cm.m.im.length cm.m.iC,.slice cm.m.pA cm.m.pa.length cm.m.pC,.string cm.nm]] W _ from BC cm W (HM.out W (HB1.trans (hb.mono HSW.out))) hce)
  have cA:=Hp (fun W(hb:Below w1.heap.size w1 W)=>uG f (sof (aG cm)) W (hfok.below hb) (by rw[<-rD];unfold big;omega))
  rw[hres.is,<-rD,hbs,<-HB.out]at cA
  obtain⟨FA,hFA⟩:=Nm (xU F (aG cm))
  have HFA:=Hp (show FA=Bu B F' by rw[hFA,HB.out,HF'.out];rfl)
  rw[<-hFA]at cA
  obtain⟨S,hS⟩:=Nm (sof (aG cm))
  rw[<-hS]at cA cB
  have y1:=heap_cell hh 0
  simp only[GZ2,GZ0]at y1
  obtain⟨p0,p1,p2,p3,p4,p5,p6,p7,p8⟩:=dJ HC1.out
  have l1:ba<w1.heap.size:=(ZL hh)
  have l2:w.heap.size<w1.heap.size:=(ZL HC1.out)
  have HH:=Hp hh
  clear hce hlen hh hres hfok hbs hFA hS
  go_upto_region 3 with fail
  have HCH:=Hp (show fI w1 (fun W'=>Below w1.heap.size w1 W'/\W'.cell? ⟨ba,0,none⟩=some (.slice f.a f.bl.length f.c)/\W'.cell? ⟨w.heap.size,0,none⟩=some (.int .i64 cm.kind)/\W'.cell? ⟨w.heap.size,1,none⟩=some (.string cm.m.name)/\W'.cell? ⟨w.heap.size,2,none⟩=some (.int .i64 cm.m.major)/\W'.cell? ⟨w.heap.size,3,none⟩=some (.int .i64 cm.m.minor)/\W'.cell? ⟨w.heap.size,4,none⟩=some (.string cm.m.text)/\W'.cell? ⟨w.heap.size,5,none⟩=some (.slice cm.m.eA cm.m.ex.length cm.m.eC)/\W'.cell? ⟨w.heap.size,6,none⟩=some (.slice cm.m.iA cm.m.im.length cm.m.iC)/\W'.cell? ⟨w.heap.size,7,none⟩=some (.slice cm.m.pA cm.m.pa.length cm.m.pC)/\W'.cell? ⟨w.heap.size,8,none⟩=some (.string cm.nm)) from dE (by repeat' first|(with_reducible exact bC.cell (by first|omega|(simp;omega)|(simp only[aA];omega)))|refine bC.and ?_ ?_))
  have HC0:=Hp (HCH.now ⟨GZ4 _ _,by assumption,by assumption,by assumption,by assumption,by assumption,by assumption,by assumption,by assumption,by assumption,by assumption⟩)
  have HCD:=Hp HCH.D
  have HCS:=Hp HCH.S
  have HCA:=Hp HCH.A
  have HCX:=Hp HCH.X
  have HCL:=Hp HCH.L
  go_cut [8,9,10] from 16 to 23 (fun p _ e wx=>lM w1 B FA p e wx)
  case first=>
   have HZN:=Hp (show∀W':World,Below (w1.alloc (.cells #[.slice none 0 0] 29)).drew.heap.size (w1.alloc (.cells #[.slice none 0 0] 29)).drew W'->W'.heap[w1.heap.size]? =some (.cells #[.slice none 0 0] 29 (0,0)) from
    fun W' hb=>(hb.block w1.heap.size (by show w1.heap.size<(w1.alloc _).heap.size;simp)).trans (heap_alloc_new w1 _))
   have HZM:=Hp (show∀W2 W':World,Below (W2.alloc (.cells #[.slice none 0 0] 29)).heap.size (W2.alloc (.cells #[.slice none 0 0] 29)) W'->W'.heap[W2.heap.size]? =some (.cells #[.slice none 0 0] 29 (0,0)) from
    fun W2 W' hb=>(hb.block W2.heap.size (by simp)).trans (heap_alloc_new W2 _))
   go_region_held3 (fun W'=>Below w1.heap.size w1 W'/\W'.cell? ⟨ba,0,none⟩=some (.slice f.a f.bl.length f.c)/\W'.cell? ⟨w.heap.size,0,none⟩=some (.int .i64 cm.kind)/\W'.cell? ⟨w.heap.size,1,none⟩=some (.string cm.m.name)/\W'.cell? ⟨w.heap.size,2,none⟩=some (.int .i64 cm.m.major)/\W'.cell? ⟨w.heap.size,3,none⟩=some (.int .i64 cm.m.minor)/\W'.cell? ⟨w.heap.size,4,none⟩=some (.string cm.m.text)/\W'.cell? ⟨w.heap.size,5,none⟩=some (.slice cm.m.eA cm.m.ex.length cm.m.eC)/\W'.cell? ⟨w.heap.size,6,none⟩=some (.slice cm.m.iA cm.m.im.length cm.m.iC)/\W'.cell? ⟨w.heap.size,7,none⟩=some (.slice cm.m.pA cm.m.pa.length cm.m.pC)/\W'.cell? ⟨w.heap.size,8,none⟩=some (.string cm.nm)) (first|with_reducible exact HC0.out|with_reducible exact HCD.out _ HC0.out|with_reducible assumption|with_reducible exact HCS.out _ _ HC0.out HBW3.out|with_reducible exact HCS.out _ _ HC0.out HBW2.out|with_reducible exact HCA.out _ _ (HCD.out _ HC0.out)|with_reducible exact HCA.out _ _ HC0.out|with_reducible exact HCD.out _ (HCA.out _ _ HC0.out)|with_reducible exact HCA.out _ _ (HCS.out _ _ HC0.out HBW3.out)|with_reducible exact HCA.out _ _ (HCS.out _ _ HC0.out HBW2.out)|with_reducible exact HCX.out _ _ _ _ (GZ3 _) (HCS.out _ _ HC0.out HBW3.out)|with_reducible exact HCX.out _ _ _ _ HBW2.out.size (HCS.out _ _ HC0.out HBW3.out)|with_reducible exact HCX.out _ _ _ _ HBW3.out.size (HCA.out _ _ (HCS.out _ _ HC0.out HBW3.out))) (first
    |(go_at_call 81;(with_reducible refine(cB.out _ (HCL.out _ (by assumption))).mono ?_);rintro e w2 ⟨rfl,hb2⟩;have HBW2:=Hp (mR (HCL.out _ (by assumption)) hb2);(try(have hz2:=HZN.out w2 hb2)))
    |(go_at_call 27;(with_reducible refine(cA.out _ (HCL.out _ (by assumption))).mono ?_);rintro e w3 ⟨hb3,f',A3,c3,D3,rfl,hr3,_,_⟩;obtain⟨hbw3,hrw3⟩:=Oi (HCL.out _ (by assumption)) hb3 hr3;have HBW3:=Hp hbw3;have HR3:=Hp hrw3;(first|(have hz3:=(hb3.block _ (ZL hz2)).trans hz2;have HZL:=Hp (GZ3 w1.heap.size);have z3:=heap_cell hz3 0;have zf3:=heap_free hz3 0;simp only[GZ2,GZ0]at z3)|(have hz3:=HZM.out w2 w3 hb3;have HZL:=Hp HBW2.out.size;have z3:=heap_cell hz3 0;have zf3:=heap_free hz3 0;simp only[GZ2,GZ0]at z3)|skip)))
   all_goals(
    go_wp2_with fail
    go_meet
    first
     |exact lM.new HBW3.out HR3.out
     |exact lM.old hz3 HZL.out HBW3.out HR3.out)
  case rest=>
   obtain⟨f',Bk,rfl,rfl,hB5,hlo5,hr5,hb5⟩:=hcut
   obtain⟨w5,rfl⟩:=Nm wc
   have hkb:Kp [] w1 w5:=Kp.of_below hb5
   have HR5:=Hp (HR1.kp hkb (by simp) (by simp) (by simp) (by simp) (by simp))
   have HBO5:=Hp (box_kp HBO1.out hkb (by simp))
   have HV5:=Hp (show dN w5 b2 v es from own_kp HV1.out hkb (by simp))
   have HX5:=Hp (box_kp HX1.out hkb (by simp))
   have HF5:=Hp (HF1.kp hkb (by simp) (by simp))
   have HZ5:=Hp (box_kp HZ1.out hkb (by simp))
   have HB5:=Hp (HB1.trans (hb5.mono HSW))
   have hh5:=hkb _ _ _ _ HH.out (by simp)
   have u5:=heap_cell hB5 0
   simp only[GZ2,GZ0]at u5
   have HS5:=Hp (GY1 HS1 hb5.size)
   have HRE:=Hp (hr5.down HSW)
   clear HC0 HCD HCS HCA HCL HCX cA cB hkb hb5 hr5 hB5 hlo5 p0 p1 p2 p3 p4 p5 p6 p7 p8 y1 l1 l2
   by_cases s:B=0
   ·have hFA2:=HFA.out
    rw[SK s]at hFA2
    subst hFA2
    have hks:Kp [29] w5 (w5.setCell ⟨ba,0,none⟩ (.slice f'.a f'.bl.length f'.c)):=Kp.set hh5 (by simp) 0 _
    have hfn:FlB (w5.setCell ⟨ba,0,none⟩ (.slice f'.a f'.bl.length f'.c)) base ba FA:=⟨f',heap_setCell_same w5 ba 0 _ _ _ hh5,HRE.keep hks (by decide)⟩
    have hbs:Below base w5 (w5.setCell ⟨ba,0,none⟩ (.slice f'.a f'.bl.length f'.c)):=(GZ4 _ _).setCell (p:=⟨ba,0,none⟩) HLO.out.2.1 _
    have y5:=heap_cell hh5 0
    have yf5:=heap_free hh5 0
    simp only[GZ2,GZ0]at y5
    subst s
    go_upto_region 8 with fail
    obtain⟨w6,hw6⟩:=Nm (w5.setCell ⟨ba,0,none⟩ (.slice f'.a f'.bl.length f'.c))
    rw[<-hw6]at hks hfn hbs ⊢
    have HR6:=Hp (HR5.kp hks (by decide) (by decide) (by decide) (by decide) (by decide))
    have HBO6:=Hp (box_kp HBO5.out hks (by decide))
    have HV6:=Hp (show dN w6 b2 v es from own_kp HV5.out hks (by decide))
    have HX6:=Hp (box_kp HX5.out hks (by decide))
    have HZ6:=Hp (box_kp HZ5.out hks (by decide))
    have HF6:=Hp hfn
    have HB6:=Hp (HB5.trans hbs)
    have HS6:=Hp (show b2<=w6.heap.size from GY1 HS5.out hbs.size)
    have o1:=HBO6.cell
    have of1:=heap_free HBO6.out 0
    clear hw6 hks hfn hbs y5 yf5 hh5 u5
    go_wp2_with (at_builtin;refine uL w6 rfl (.tmp 28) (.tmp 30) rfl b2 v es 0 rfl rfl HV6.out HL.out HS6.out ?_;intro v' w4 ho4 hk4 hb4;obtain⟨A',c',hv4⟩:=bG ho4;subst hv4;have HB4:=Hp (box_kp HBO6.out hk4 (by decide));have o4:=HB4.cell;have of4:=heap_free HB4.out 0;have HP:=Hp (Fh HR6.out HBO6.out HX6.out HF6.out HZ6.out H2.out HLO.out.1 H3.out ho4 hk4 hb4);clear ho4 hk4 hb4)
    go_ret
    obtain⟨q1,q2,q3,q4,q5,q6⟩:=HP.out
    rw[GZ8]at q1 q2 q3 q4 q5 q6
    exact⟨HB6.trans q1,q2,.inl ⟨rfl,.inr rfl,q3,q4,by rw[if_neg (by simp)];exact q5,q6⟩⟩
   ·have s':(B != 0)=true:=by simp[s]
    have S:=Hp s
    have hks:Kp [30] w5 (w5.setCell ⟨be,0,none⟩ (.int .i64 B)):=Kp.set HZ5.out (by simp) 0 _
    have e5:=HZ5.cell
    have ef5:=heap_free HZ5.out 0
    have HEND:=Hp (show Stepped base b2 bp bo bx ba be k 0 L es F B F' w (.returned (.bool false)) (w5.setCell ⟨be,0,none⟩ (.int .i64 B)) from
     ⟨HB5.setCell (p:=⟨be,0,none⟩) HLO.out.2.2 _,box_kp HX5.out hks (by decide),.inr ⟨rfl,rfl,s,⟨v,box_kp HBO5.out hks (by decide),ownsRow_setCell_below (a:=⟨be,0,none⟩) HV5.out H2.out _⟩,HF5.kp hks (by decide) (by decide),heap_setCell_same w5 be 0 _ _ _ HZ5.out⟩⟩)
    clear s hks hh5 u5
    go_wp2_with fail
    go_ret
    exact HEND.out
 ·have t':(E==0)=false:=by simp[t]
  have T:=Hp t
  have o1:=HBO1.cell
  have of1:=heap_free HBO1.out 0
  clear t
  go_wp2_with (at_builtin;refine uL w1 rfl (.tmp 28) (.tmp 30) rfl b2 v es E rfl rfl HV1.out HL.out HS1.out ?_;intro v' w4 ho4 hk4 hb4;obtain⟨A',c',hv4⟩:=bG ho4;subst hv4;have HB4:=Hp (box_kp HBO1.out hk4 (by decide));have o4:=HB4.cell;have of4:=heap_free HB4.out 0;have HP:=Hp (Fh HR1.out HBO1.out HX1.out HF1.out HZ1.out H2.out HLO.out.1 H3.out ho4 hk4 hb4);clear ho4 hk4 hb4)
  go_ret
  obtain⟨q1,q2,q3,q4,q5,q6⟩:=HP.out
  rw[GZ8]at q1 q2 q3 q4 q5 q6
  exact⟨HB1.trans q1,q2,.inl ⟨rfl,.inl T.out,q3,q4,by rw[if_pos T.out];exact q5,q6⟩⟩
end
end Go.Proofs.YtjiedaialianmaaGreat
