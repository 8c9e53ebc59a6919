import Derived.Test.YtjiedaialianmaaGreatA01
import Derived.Test.YtjiedaialianmaaGreatA02
set_option maxHeartbeats 1000000
namespace Go.Proofs.YtjiedaialianmaaGreat
section
open Go
open Go.RowKit Go.Lib
def bC (z:Nat)(T:World->Prop):Prop:=∀W W2:World,(∀p:Addr,p.block<z->W2.cell? p=W.cell? p)->T W->T W2
theorem bC.cell {z:Nat}{a:Addr}{v:Option Value}(h:a.block<z):bC z (fun W=>W.cell? a=v):=fun _ _ k e=>(k a h).trans e
theorem bC.and {z:Nat}{T U:World->Prop}(h:bC z T)(k:bC z U):bC z (fun W=>T W/\U W):=fun W W2 e x=>⟨h W W2 e x.1,k W W2 e x.2⟩
theorem bC.any (z:Nat):bC z (fun _=>True):=fun _ _ _ x=>x
structure fI (b:World)(T:World->Prop):Prop where
 D:∀W':World,T W'->T W'.drew
 S:∀W' W2:World,T W'->Below W'.heap.size W' W2->T W2
 A:∀(W':World)(o:Obj),T W'->T (W'.alloc o)
 X:∀(W':World)(bX oX:Nat)(vX:Value),b.heap.size<=bX->T W'->T (W'.setCell ⟨bX,oX,none⟩ vX)
 L:∀W':World,T W'->Below b.heap.size b W'
theorem fI.now {b:World}{S:World->Prop}(_:fI b S)(h:S b):S b:=h
theorem dE {b:World}{T:World->Prop}(h:bC b.heap.size T):fI b (fun W=>Below b.heap.size b W/\T W) where
 D W x:=⟨x.1.drew,h W W.drew (fun _ _=>rfl) x.2⟩
 S W W2 x hb:=⟨x.1.trans (hb.mono x.1.size),h W W2 (fun _ hp=>hb.cell (GY0 hp x.1.size)) x.2⟩
 A W o x:=have hb:Below W.heap.size W (W.alloc o):=(GZ4 _ _).alloc (GZ3 _) o
  ⟨x.1.trans (hb.mono x.1.size),h W (W.alloc o) (fun _ hp=>hb.cell (GY0 hp x.1.size)) x.2⟩
 X W bX oX vX hX x:=have hb:Below b.heap.size W (W.setCell ⟨bX,oX,none⟩ vX):=(GZ4 _ _).setCell (p:=⟨bX,oX,none⟩) hX vX
  ⟨x.1.trans hb,h W (W.setCell ⟨bX,oX,none⟩ vX) (fun _ hp=>hb.cell hp) x.2⟩
 L _ x:=x.1
end
section
open Go
structure Run where
 first:Int
 many:Int
def aR (x:Plc):Int:=x.first+aH x.m
def Rb (a b:Int):List Run:=if a<b then[⟨a,b -a⟩]else[]
def dC :Int->List Plc->List Run
 |a,[]=>Rb a 16
 |a,x::l=>Rb a x.first++dC (aR x) l
def RI (l:List Plc):List Run:=dC 0 l
def iI :List Plc->Int
 |x::y::l=>if y.first<aR x then 4 else iI (y::l)
 |_=>0
def jV (l:List Plc)(j:Nat):Int:=iI (l.drop (j -1))
section
variable {l:List Plc} {j:Nat}
theorem yR (h:¬j<l.length):jV l j=0:=by
 unfold jV
 by_cases h1:j -1<l.length
 ·rw[GY4 h1,List.drop_eq_nil_of_le (by omega)];rfl
 ·rw[List.drop_eq_nil_of_le (by omega)];rfl
theorem IG (h:j<l.length)(h1:1<=j):l.drop (j -1)=l[j -1]::l[j]::l.drop (j+1):=by
 rw[GY4 (show j -1<l.length by omega),show j -1+1=j by omega,GY4 h]
theorem yS (h:j<l.length)(h1:1<=j)(hb:l[j].first<aR l[j -1]):jV l j=4:=by
 unfold jV
 rw[IG h h1]
 unfold iI
 rw[if_pos hb]
theorem vS (h:j<l.length)(h1:1<=j)(hb:¬l[j].first<aR l[j -1]):jV l (j+1)=jV l j:=by
 have e:jV l j=iI (l[j]::l.drop (j+1)):=by
  unfold jV
  rw[IG h h1,iI,if_neg hb]
 rw[e]
 unfold jV
 rw[show j+1 -1=j by omega,GY4 h]
theorem Uu :jV l 1=iI l:=rfl
end
def RY (l:List Plc):Int:=if bY kE l≠0 then bY kE l else iI l
theorem Gy {l:List Plc}(h:RY l=0):bY kE l=0/\iI l=0:=by
 unfold RY at h
 by_cases h1:bY kE l=0
 ·rw[if_neg (by omega)]at h;exact⟨h1,h⟩
 ·rw[if_pos h1]at h;exact absurd h h1
def bW :Int->List Plc->Prop
 |a,[]=>a<=16
 |a,x::l=>a<=x.first/\1<=aH x.m/\aH x.m<=4/\bW (aR x) l
theorem bW.le :∀{l:List Plc}{a:Int},bW a l->a<=16
 | [],_,h=>h
 |x::l,a,⟨h1,h2,_,h4⟩=>by have:=h4.le;unfold aR at this;omega
theorem gK {m:Mod}(h:aL m=0):1<=aH m/\aH m<=4:=by
 obtain⟨_,_,h1,h2,_⟩:=aY h
 unfold aH
 omega
theorem Hd :∀{l:List Plc}{a:Int},a<=16->(∀x∈l,aL x.m=0/\kE x=true)->iI l=0->(∀x∈l.head?,a<=x.first)->bW a l
 | [],a,ha,_,_,_=>ha
 |x::l,a,ha,h,h2,h3=>by
  obtain⟨hx1,hx2⟩:=h x (by simp)
  simp only[kE,Bool.and_eq_true,decide_eq_true_eq]at hx2
  obtain⟨hm1,hm2⟩:=gK hx1
  refine⟨h3 x (by simp),hm1,hm2,?_⟩
  cases l with
  |nil=>unfold bW aR;omega
  |cons y l=>
   unfold iI at h2
   split at h2
   ·cases h2
   ·refine Hd (by unfold aR;omega) (fun z hz=>h z (List.mem_cons_of_mem _ hz)) h2 (fun z hz=>?_)
    simp only[List.head?_cons,Option.mem_def,Option.some.injEq]at hz
    subst hz;omega
theorem cZ {l:List Plc}(h:RY l=0):l.length<=8/\(∀x∈l,aL x.m=0/\kE x=true)/\bW 0 l:=by
 obtain⟨h1,h2⟩:=Gy h
 obtain⟨h3,h4⟩:=TB h1
 refine⟨h3,h4,Hd (by omega) h4 h2 (fun x hx=>?_)⟩
 have hm:x∈l:=by
  cases l with
  |nil=>simp at hx
  |cons y l=>simp only[List.head?_cons,Option.mem_def,Option.some.injEq]at hx;subst hx;simp
 have:=(h4 x hm).2
 simp only[kE,Bool.and_eq_true,decide_eq_true_eq]at this
 omega
theorem bW.adj :∀{l:List Plc}{a:Int},bW a l->iI l=0
 | [],_,_=>rfl
 | [_],_,_=>rfl
 |x::y::l,a,⟨_,_,_,h⟩=>by
  unfold iI
  rw[if_neg (by have:=h.1;omega)]
  exact bW.adj h
theorem TV {q:Plc->Bool}:∀{l:List Plc},(∀x∈l,aL x.m=0/\q x=true)->fU q l=0
 | [],_=>rfl
 |x::l,h=>by
  obtain⟨h1,h2⟩:=h x (by simp)
  unfold fU
  rw[if_neg (by omega),if_neg (by simp[h2])]
  exact TV fun y hy=>h y (List.mem_cons_of_mem _ hy)
theorem OJ {l:List Plc}(h1:l.length<=8)(h2:∀x∈l,aL x.m=0/\kE x=true)(h3:bW 0 l):RY l=0:=by
 have e:bY kE l=0:=by
  unfold bY
  rw[if_neg (by omega),TV h2]
 unfold RY
 rw[if_neg (by omega)]
 exact h3.adj
theorem bW.lower {l:List Plc}{a b:Int}(h:bW a l)(hb:b<=a):bW b l:=by
 cases l with
 |nil=>exact Int.le_trans hb h
 |cons x l=>exact⟨by have:=h.1;omega,h.2⟩
theorem bW.erase :∀{l:List Plc}{a:Int}(j:Nat),bW a l->bW a (l.eraseIdx j)
 | [],_,_,h=>by simpa using h
 |x::l,a,0,⟨h1,h2,_,h4⟩=>by
  simp only[List.eraseIdx_cons_zero]
  exact h4.lower (by unfold aR;omega)
 |x::l,a,j+1,⟨h1,h2,h3,h4⟩=>by
  simp only[List.eraseIdx_cons_succ]
  exact⟨h1,h2,h3,h4.erase j⟩
theorem vV {l:List Plc}(h:RY l=0)(j:Nat):RY (l.eraseIdx j)=0:=by
 obtain⟨h1,h2,h3⟩:=cZ h
 refine OJ (by have:=List.length_eraseIdx_le l j;omega) (fun x hx=>h2 x (List.mem_of_mem_eraseIdx hx)) (h3.erase j)
def FE :Int->List Run->Prop
 |a,[]=>a<=17
 |a,r::l=>a<=r.first/\1<=r.many/\FE (r.first+r.many+1) l
theorem FE.lower {l:List Run}{a b:Int}(h:FE a l)(hb:b<=a):FE b l:=by
 cases l with
 |nil=>exact Int.le_trans hb h
 |cons x l=>exact⟨by have:=h.1;omega,h.2⟩
theorem FE.each :∀{l:List Run}{a:Int},FE a l->0<=a->∀j(h:j<l.length),1<=l[j].many/\a<=l[j].first/\l[j].first+l[j].many<=16/\(∀i,(hi:i+1=j)->l[i].first+l[i].many<l[j].first)
 |r::l,a,⟨h1,h2,h3⟩,h0,0,_=>by
  refine⟨h2,h1,?_,fun i hi=>by omega⟩
  simp only[List.getElem_cons_zero]
  cases l with
  |nil=>unfold FE at h3;omega
  |cons y l=>
   have:=FE.each h3 (by omega) 0 (by simp)
   simp only[List.getElem_cons_zero]at this
   omega
 |r::l,a,⟨h1,h2,h3⟩,h0,j+1,h=>by
  have:=FE.each h3 (by omega) j (by simpa using h)
  simp only[List.getElem_cons_succ]
  refine⟨this.1,by omega,this.2.2.1,fun i hi=>?_⟩
  cases i with
  |zero=>obtain rfl:j=0:=by omega
         simp only[List.getElem_cons_zero];omega
  |succ i=>simp only[List.getElem_cons_succ];exact this.2.2.2 i (by omega)
def fM (many:Int)(l:List Run):Int:=match l.find? fun r=>decide (many<=r.many)with
 |none=> -1
 |some r=>r.first
end
section
open Go
open Gs (Tx)
abbrev tx (s:ByteArray):Tx:=s.data.toList
theorem FC {a b:ByteArray}(h:tx a=tx b):a=b:=by
 cases a;cases b;congr 1;exact Array.toList_inj.1 h
theorem Qr (l:Tx):tx ⟨l.toArray⟩=l:=by simp[tx]
theorem Qt (s:ByteArray):(⟨(tx s).toArray⟩:ByteArray)=s:=by cases s;simp[tx]
def txs (l:List Plc):List Tx:=l.map fun x=>tx x.m.name
def asks (m:Mod)(b:Tx):Bool:=m.im.any fun i=>decide (tx i.mod=b)
def Us (a:Tx)(x:Plc):Bool:=decide (tx x.m.name=a)
theorem Iq (s:ByteArray):Us (tx s)=named s:=by
 funext x;unfold Us named
 by_cases h:x.m.name=s
 ·simp[h]
 ·have:tx x.m.name≠tx s:=fun e=>h (FC e)
  simp[h,this]
def nU (l:List Plc)(a b:Tx):Bool:=match l.find? (Us a)with
 |some x=>asks x.m b
 |none=>false
def kV (l:List Plc)(i k:Nat):Bool:=match l[i]? with
 |some x=>asks x.m ((txs l).getD k [])
 |none=>false
def nmN (l:List Plc)(i:Nat):Tx:=(txs l).getD i []
theorem eZ (l:List Plc):(txs l).length=l.length:=by simp[txs]
theorem xB {l:List Plc}{i:Nat}(h:i<l.length):(txs l)[i]'(by rw[eZ];exact h)=tx l[i].m.name:=by simp[txs]
theorem Sq {l:List Plc}{i:Nat}(h:i<l.length):nmN l i=tx l[i].m.name:=by
 unfold nmN;rw[List.getD_eq_getElem?_getD,GY5 (by rw[eZ];exact h),Option.getD_some,xB h]
theorem Kr (l:List Plc):Gs.names (nmN l) l.length=txs l:=by
 unfold Gs.names
 apply List.ext_getElem
 ·simp[txs]
 ·intro i h1 h2
  rw[List.getElem_map,List.getElem_range,Sq (by rwa [eZ]at h2),xB (by rwa [eZ]at h2)]
theorem yB {l:List Plc}(hn:(txs l).Nodup):∀i k,i<l.length->k<l.length->nmN l i=nmN l k->i=k:=by
 intro i k hi hk e
 rw[Sq hi,Sq hk,<-xB hi,<-xB hk]at e
 have h1:i<(txs l).length:=by rw[eZ];exact hi
 have h2:k<(txs l).length:=by rw[eZ];exact hk
 rcases Nat.lt_trichotomy i k with h|h|h
 ·exact absurd e (List.pairwise_iff_getElem.1 hn i k h1 h2 h)
 ·exact h
 ·exact absurd e.symm (List.pairwise_iff_getElem.1 hn k i h2 h1 h)
theorem Ic {l:List Plc}(hn:(txs l).Nodup){i:Nat}(hi:i<l.length):l.find? (Us (nmN l i))=some l[i]:=by
 rw[List.find?_eq_some_iff_getElem]
 refine⟨by simp[Us,Sq hi],i,hi,rfl,fun j hj=>?_⟩
 have:tx (l[j]'(by omega)).m.name≠nmN l i:=fun e=>by
  have:=yB hn j i (by omega) hi (by rw[Sq (show j<l.length by omega)];exact e)
  omega
 simp[Us,this]
theorem Jm {l:List Plc}(hn:(txs l).Nodup):∀i k,i<l.length->k<l.length->nU l (nmN l i) (nmN l k)=kV l i k:=by
 intro i k hi _
 unfold nU kV
 rw[Ic hn hi,GY5 hi];rfl
def dD (l:List Plc):Bool:=decide ((Lib.compact (Gs.Sd (txs l))).length<l.length)
theorem SQ (l:List Plc):dD l=true↔¬(txs l).Nodup:=by
 unfold dD
 rw[decide_eq_true_eq]
 have h:=Gs.Ih (Gs.wT (txs l))
 rw[(Gs.SN (txs l)).nodup_iff,(Gs.SN (txs l)).length_eq,eZ]at h
 exact h
theorem xE {l:List Plc}(h:dD l=false):(txs l).Nodup:=
 Classical.byContradiction fun hn=>by rw[(SQ l).2 hn]at h;cases h
def PX (_:Plc):Bool:=true
def Dh (l:List Plc):Int:=if bY PX l≠0 then bY PX l else if dD l=true then 6 else 0
theorem OV {l:List Plc}(h:Dh l=0):l.length<=8/\(∀x∈l,aL x.m=0)/\(txs l).Nodup:=by
 unfold Dh at h
 split at h
 ·contradiction
 ·rename_i h1
  split at h
  ·cases h
  ·rename_i h2
   obtain⟨a,b⟩:=TB (by omega:bY PX l=0)
   exact⟨a,fun x hx=>(b x hx).1,xE (by simpa using h2)⟩
def rT (l:List Plc):Option (List Tx):=Gs.order (nU l) l.length (Gs.Sd (txs l)) []
def yP (l:List Plc):Gr.Tab:=Gr.Tab.all l.length (Gr.Tab.mk (kV l) l.length)
def eH (l:List Plc):Bool:=(List.range l.length).any fun i=>(yP l).at i i
def QO (l:List Plc):List Tx:=Gs.vO (nmN l) (yP l).at l.length l.length (List.replicate l.length false) []
theorem JJ {l:List Plc}(h:Dh l=0):rT l=if eH l=true then none else some (QO l):=by
 obtain⟨_,_,hn⟩:=OV h
 have N:=Gs.Qc (n:=l.length) (Jm hn) (yB hn)
 have hi:Gs.Inv (nmN l) (Gr.Way (kV l) l.length) l.length (List.replicate l.length false) (Gs.Sd (txs l)):=by
  rw[<-Kr];exact Gs.Inv.begun
 have hl:(Gs.Sd (txs l)).length=l.length:=by rw[(Gs.SN _).length_eq,eZ]
 unfold rT
 by_cases hr:eH l=true
 ·rw[if_pos hr]
  obtain⟨i,hi',hw⟩:=List.any_eq_true.1 hr
  have hi':=List.mem_range.1 hi'
  exact Gs.yT N hi' ((N.tab i i hi' hi').1 hw) _ _ _ _ hi hl (by
   rw[List.getD_eq_getElem?_getD,List.getElem?_replicate];split<;>rfl)
 ·rw[if_neg hr]
  exact Gs.Dq N (fun i hi' hw=>hr (List.any_eq_true.2 ⟨i,List.mem_range.2 hi',(N.tab i i hi' hi').2 hw⟩)) _ _ _ _ hi hl
end
section
set_option maxRecDepth 100000
open Go.RowKit Go.Shelf
attribute [local go_sem] Oper.semAt_some
theorem NW (n k:Int)(w:World):
  Calls Tryz.prog 264 #[.int .i64 k,.int .i64 n] w fun e w'=>e=.returned (.func (.func 287) #[] #[.pointer (some ⟨w.heap.size,0,none⟩),.pointer (some ⟨w.heap.size+1,0,none⟩)])/\(w.alloc (.cells #[.int .i64 k] 3)).alloc (.cells #[.int .i64 n] 3)=w':=by
 go_enter Tryz.func264,Tryz.ntmps264
 go_wp2_with fail
 go_ret
 exact⟨rfl,rfl⟩
theorem Nw (m l Bb Bn:Nat)(n:Int)(k:Nat)(hk:k<=4)(J:List UInt8->World->Prop)
  (hset:∀pre W v,J pre W->J pre (W.setCell ⟨Bn,0,none⟩ v)) (hne:Bb≠Bn)
  (hY:∀pre x W,J pre W->pre.length<k->YieldAt Fence.wide (m -1) Tryz.prog l #[tN x] W fun e W'=>
   e=.returned (.bool true)/\J (pre++[x]) W'/\W'.heap[Bb]? =W.heap[Bb]?/\W'.heap[Bn]? =W.heap[Bn]?)
  (W:World) (hb:Boxed W Bb 3 (.int .i64 k)) (hn:Boxed W Bn 3 (.int .i64 n)) (h0:J [] W):
  CallsIn Fence.wide m Tryz.prog 287 #[.func (.yield l) #[] #[],.pointer (some ⟨Bb,0,none⟩),.pointer (some ⟨Bn,0,none⟩)] W fun e W'=>(∃v,e=.returned v)/\J (digits n k) W':=by
 refine callsIn_of_wp Tryz.func287 rfl trivial ?_ rfl
 simp only[Tryz.ntmps287,List.size_toArray,GY8,List.length_nil,Nat.reduceAdd,Nat.reduceSub,Array.replicate_succ,Array.replicate_zero,List.push_toArray,List.append_toArray,List.nil_append,List.cons_append]
 have hbc:=hb.cell
 have hnc:=hn.cell
 gi_wp2
 gi_loopw [5] (fun i wr=>∃j:Nat,j<=k/\i=.int .i64 j/\Boxed wr Bb 3 (.int .i64 k)/\Boxed wr Bn 3 (.int .i64 (n / dV j))/\J (digits n j) wr) (fun i _=>k -(intOf i).toNat)
 case atStart=>exact⟨0,by omega,rfl,hb,by simpa[dV]using hn,h0⟩
 case round=>
  obtain⟨j,hj,rfl,hbr,hnr,hJ⟩:=hrel
  clear hb hn h0 hbc hnc
  by_cases hlt:j<k
  ·have hnc:=hnr.cell
   have hnf:=hnr.frozen
   obtain⟨x,hx⟩:∃x:UInt8,x=UInt8.ofNat (n / dV j % 256).toNat:=⟨_,rfl⟩
   have hxv:tN x=.int .u8 (n / dV j % 256):=by
    rw[hx,tN,ofNat_mod]
   have HS:=Hp (DU n j)
   have HD:=Hp (Uv n j)
   rw[<-hx]at HD
   have HX:=Hp hx
   obtain⟨fn,tmps,assign,body,hy,hR⟩:=hY (digits n j) x wr hJ (by rw[digits_length];exact hlt)
   rw[hxv]at hy
   clear hx hxv
   gi_wp2
   refine⟨fun h=>by simp[Fence.wide]at h,hR.mono ?_⟩
   rintro e W3 ⟨rfl,hJ3,hb3,hn3⟩
   have hbr3:Boxed W3 Bb 3 (.int .i64 k):=hb3.trans hbr
   have hnr3:Boxed W3 Bn 3 (.int .i64 (n / dV j)):=hn3.trans hnr
   clear hnc hnf
   have hnc:=hnr3.cell
   have hnf:=hnr3.frozen
   gi_wp2
   go_roundw
   case rel=>
    refine⟨j+1,by omega,by go_num,?_,?_,?_⟩
    ·exact(Below.heap_setCell W3 ⟨Bn,0,none⟩ _ Bb hne).trans hbr3
    ·have:=hnr3.set (.int .i64 (n / dV (j+1)))
     rw[<-HS.out]at this ⊢
     exact this
    ·rw[HD.out];exact hset _ _ _ hJ3
   case measure=>simp[intOf]<;>omega
  ·obtain rfl:j=k:=by omega
   gi_wp2
   go_end0
   exact⟨⟨_,rfl⟩,hJ⟩
theorem xL {α:Type}{P:Program}{n:Nat}{g:Operand}{ps:Array Tmp}{assign body:Code}{Q:Exit->Act->World->Prop}{a:Act}{w:World}
  (h1:1<=n) {gf:Nat} {lb:Array Value} (hg:a.eval g=.func (.func gf) #[] lb) (eg:∀args w,(callFunc gf args).run P w=.ok (.enter gf args) w)
  (encs:α->Array Value) (N:Nat) (xs:List α) (Bb Bn:Nat) (hBb:Bb<w.heap.size) (hBn:Bn<w.heap.size) (hps:∀x,(encs x).size=ps.size)
  (hiter:∀(l:Nat)(J:List α->World->Prop)(W:World),Below w.heap.size w W->(∀pre W v,J pre W->J pre (W.setCell ⟨Bn,0,none⟩ v))->
   (∀pre x W,J pre W->pre.length<N->YieldAt Fence.wide (n -1 -1) P l (encs x) W fun e W'=>e=.returned (.bool true)/\J (pre++[x]) W'/\W'.heap[Bb]? =W.heap[Bb]?/\W'.heap[Bn]? =W.heap[Bn]?)->
   J [] W->CallsIn Fence.wide (n -1) P gf (#[.func (.yield l) #[] #[]]++lb) W fun e W'=>(∃v,e=.returned v)/\J xs W')
  (I:List α->World->Prop) (hset:∀pre W v,I pre W->I pre (W.setCell ⟨Bn,0,none⟩ v)) (hput:∀pre W l o,I pre W->w.heap.size<=l->(∃o',W.heap[l]? =some o'/\o'.isCells=false)->I pre (W.putObj l o))
  (hal:∀o o',I [] ((w.alloc o).alloc o')) (a₁:α->Act)
  (hassign:∀(l:Nat)(x:α)(W:World)(K:Act->World->Prop),K (a₁ x) W->
   assign.wpIn (Fence.wide.inRound l) (n -1 -1) P (Exit.then K (fun _ _ _=>False)) {tmps:=(ps.zip (encs x)).foldl (fun t(p,v)=>t.setIfInBounds p v) a.tmps,defers:=[]} W)
  (hbody:∀(l:Nat)(pre:List α)(x:α)(W:World),I pre W->pre.length<N->body.wpIn (Fence.wide.inRound l) (n -1 -1) P
   (fun e _ W'=>e=.normal/\I (pre++[x]) W'/\KeepsOthers W W'/\W'.heap[Bb]? =W.heap[Bb]?/\W'.heap[Bn]? =W.heap[Bn]?) (a₁ x) W)
  (hdone:∀(D:Nat)(W:World),w.heap.size<=D->I xs W->W.heap[D]? =some (.deferred (some []))->Q .normal {a with defers:={target:=.collected D,args:=#[]}::a.defers} W):
  (Code.rangeFunc g ps assign body).wpIn Fence.wide n P Q a w:=by
 refine wpIn_rangeFunc ?_
 intro fn hfn
 obtain⟨rec,hrec⟩:∃rec:LoopState->Loop,rec=fun st=>{state:=st,pending:=none,fn,tmps:=a.tmps,params:=ps,assign,body,defers:=w.heap.size}:=⟨_,rfl⟩
 obtain⟨W1,hW1⟩:∃W1,(w.alloc (.deferred (some []))).alloc (.loop (rec .ready))=W1:=⟨_,rfl⟩
 have hL1:W1.heap[w.heap.size+1]? =some (.loop (rec .ready)):=by
  rw[<-hW1];have:=World.alloc_heap_new (w.alloc (.deferred (some []))) (.loop (rec .ready));rwa [World.size_alloc]at this
 have hK1:W1.heap[w.heap.size]? =some (.deferred (some [])):=by
  rw[<-hW1];exact(Below.heap_alloc _ _ _ (by simp)).trans (World.alloc_heap_new w _)
 have hb1:Below w.heap.size w W1:=by rw[<-hW1];exact((GZ4 _ w).alloc (GZ3 _) _).alloc (by simp) _
 refine⟨w.heap.size+1,[{target:=.collected w.heap.size,args:=#[]}],W1,{target:=.fn (.func gf) lb,args:=#[.func (.yield (w.heap.size+1)) #[] #[]]},W1,gf,
  #[.func (.yield (w.heap.size+1)) #[] #[]]++lb,W1,?_,?_,fun _ _=>trivial,?_,fun _=>h1,?_⟩
 ·rw[<-hW1,hrec];exact run_enterLoop_outer _ _ _ _ _
 ·simp only[resolve,hg]
  simp[go_sem]
 ·simp[invoke,go_sem,eg]
 ·have hsetO:∀(W:World)(k:Nat)(o:Obj)(v:Value),W.heap[k]? =some o->o.isCells=false->(W.setCell ⟨Bn,0,none⟩ v).heap[k]? =some o:=
   fun W k o v hk ho=>(KeepsOthers.setCell W ⟨Bn,0,none⟩ v).same k o hk ho
  refine(hiter (w.heap.size+1) (fun pre W=>I pre W/\W.heap[w.heap.size+1]? =some (.loop (rec .ready))/\W.heap[w.heap.size]? =some (.deferred (some []))) W1 hb1
   (fun pre W v h=>⟨hset pre W v h.1,hsetO _ _ _ _ h.2.1 rfl,hsetO _ _ _ _ h.2.2 rfl⟩) ?_ ⟨by rw[<-hW1];exact hal _ _,hL1,hK1⟩).mono ?_
  ·rintro pre x W ⟨hi,hl,hk⟩ hlen
   have hlt:w.heap.size+1<W.heap.size:=(ZL hl)
   have hy:=run_yield (P:=P) (args:=encs x) hl (by rw[hrec];exact hps x)
   rw[hrec]at hy
   refine⟨fn,_,assign,body,hy,roundIn_of_wpIn hfn (hassign _ x W _ ⟨_,run_beginRound hl (by rw[hrec]),?_⟩)⟩
   have hl2:(W.putObj (w.heap.size+1) (.loop {rec .ready with state:=.busy})).heap[w.heap.size+1]? =some (.loop {rec .ready with state:=.busy}):=World.putObj_heap_same hlt
   have hk2:(W.putObj (w.heap.size+1) (.loop {rec .ready with state:=.busy})).heap[w.heap.size]? =some (.deferred (some [])):=(World.putObj_heap_other (by omega)).trans hk
   refine wpIn_mono (hbody _ pre x _ (hput _ _ _ _ hi (by omega) ⟨_,hl,rfl⟩) hlen) ?_
   rintro e a3 W3 ⟨rfl,hi3,hk3,hb3,hn3⟩
   have hl3:=hk3.same _ _ hl2 rfl
   have hk4:=hk3.same _ _ hk2 rfl
   have hlt3:w.heap.size+1<W3.heap.size:=(ZL hl3)
   refine⟨_,_,run_endRound (P:=P) none hl3,rfl,⟨hput _ _ _ _ hi3 (by omega) ⟨_,hl3,rfl⟩,?_,(World.putObj_heap_other (by omega)).trans hk4⟩,?_,?_⟩
   ·rw[World.putObj_heap_same hlt3];rw[hrec];rfl
   ·rw[World.putObj_heap_other (by omega),hb3,World.putObj_heap_other (by omega)]
   ·rw[World.putObj_heap_other (by omega),hn3,World.putObj_heap_other (by omega)]
  ·rintro e W2 ⟨⟨v,rfl⟩,hi,hl,hk⟩
   exact⟨none,_,by have:=run_endLoop (P:=P) hl (by rw[hrec];simp);rw[hrec]at this;exact this,hdone _ _ (GZ3 _) (hput _ _ _ _ hi (by omega) ⟨_,hl,rfl⟩) ((World.putObj_heap_other (by omega)).trans hk)⟩
theorem Tryz.QT :(Tryz.prog.info? 5).map (fun i=>(i.zero,i.size,i.bytes))=some (some (.int .u8 0),1,1):=by kernel_rfl
theorem Dt (n:Int)(k:Nat)(w:World)(hk:k<=4):
  Calls Tryz.prog 240 #[.int .i64 n,.int .i64 k] w fun e w'=>e=.returned (.string ⟨(digits n k).toArray⟩)/\Below w.heap.size w w':=by
 refine(callsIn_wide (n:=3)).1 ?_
 obtain⟨i0,hi,hz0,hz1,hz2⟩:=info_parts Tryz.QT
 refine callsIn_of_wp_marks Tryz.func240 rfl trivial ?_ rfl
 simp only[Tryz.ntmps240,List.size_toArray,GY8,List.length_nil,Nat.reduceAdd,Nat.reduceSub,Array.replicate_succ,Array.replicate_zero,List.push_toArray,List.append_toArray,List.nil_append,List.cons_append]
 gi_wp2
 refine⟨trivial,(callsIn_wide.2 (NW _ _ _)).mono ?_⟩
 rintro e w' ⟨rfl,rfl⟩
 gi_wp2
 have bO:=((Boxed.new w 135 (.slice none 0 0)).alloc (.cells #[.int .i64 k] 3)).alloc (.cells #[.int .i64 n] 3)
 have bB:=(Boxed.new (w.alloc (.cells #[.slice none 0 0] 135)) 3 (.int .i64 k)).alloc (.cells #[.int .i64 n] 3)
 have bN:=Boxed.new ((w.alloc (.cells #[.slice none 0 0] 135)).alloc (.cells #[.int .i64 k] 3)) 3 (.int .i64 n)
 simp only[World.size_alloc]at bB bN
 have hB0:Below w.heap.size w (((w.alloc (.cells #[.slice none 0 0] 135)).alloc (.cells #[.int .i64 k] 3)).alloc (.cells #[.int .i64 n] 3)):=(((GZ4 _ w).alloc (GZ3 _) _).alloc (by simp) _).alloc (by simp;omega) _
 refine xL (α:=UInt8) (by omega) (gf:=287) (lb:=#[.pointer (some ⟨w.heap.size+1,0,none⟩),.pointer (some ⟨w.heap.size+1+1,0,none⟩)]) rfl (enters_of Tryz.func287 (by kernel_rfl) rfl)
  (fun x=>#[tN x]) k (digits n k) (w.heap.size+1) (w.heap.size+1+1) (by simp) (by simp) (fun _=>rfl)
  (fun l J W hW hJ hY h0=>Nw _ l _ _ n k hk J hJ (by omega) hY W ((hW.block _ (by simp)).trans bB) ((hW.block _ (by simp)).trans bN) h0)
  (fun pre W=>(∃v,Boxed W w.heap.size 135 v/\W.ownsRow w.heap.size 5 1 v pre.length (pre.map tN))/\(∃u,Boxed W (w.heap.size+1) 3 u)/\(∃u,Boxed W (w.heap.size+1+1) 3 u)/\Below w.heap.size w W) ?hset ?hput ?hal
  (fun x=>{tmps:=#[.int .i64 n,.int .i64 k,undef,undef,.string ⟨#[]⟩,.pointer (some ⟨w.heap.size,0,none⟩),tN x,.int .i64 k,.int .i64 n,.func (.func 287) #[] #[.pointer (some ⟨w.heap.size+1,0,none⟩),.pointer (some ⟨w.heap.size+1+1,0,none⟩)],tN x,undef,undef,undef,undef,undef,undef],defers:=[]}) ?hassign ?hbody ?hdone
 case hset=>
  rintro pre W v ⟨⟨u,hu,hr⟩,⟨ub,hbb⟩,⟨un,hbn⟩,hb⟩
  exact⟨⟨u,hu.kept (grownBy_setCell' W _ v) (by simp;omega),hr.kept (grownBy_setCell' W _ v) (.inr (hbn.not_row (by decide) hr).symm)⟩,⟨ub,hbb.kept (grownBy_setCell' W _ v) (by simp)⟩,⟨v,hbn.set v⟩,hb.setCell (by simp;omega) _⟩
 case hput=>
  rintro pre W l o ⟨⟨u,hu,hr⟩,⟨ub,hbb⟩,⟨un,hbn⟩,hb⟩ hl ⟨o',ho',hc'⟩
  have ne:∀{b t v},Boxed W b t v->some b≠some l:=by
   intro b t v hbx e
   cases e
   rw[show W.heap[l]? =_ from hbx]at ho';cases ho';cases hc'
  exact⟨⟨u,hu.kept (grownBy_putObj' W l o) (ne hu),ownsRow_putObj hr _ ho' hc'⟩,⟨ub,hbb.kept (grownBy_putObj' W l o) (ne hbb)⟩,⟨un,hbn.kept (grownBy_putObj' W l o) (ne hbn)⟩,
   hb.trans ⟨rfl,rfl,rfl,by simp,fun k hk=>World.putObj_heap_other (by simp at hl;omega)⟩⟩
 case hal=>
  intro o o'
  exact⟨⟨_,(bO.alloc o).alloc o',World.ownsRow_nil _ _ _ _⟩,⟨_,(bB.alloc o).alloc o'⟩,⟨_,(bN.alloc o).alloc o'⟩,(hB0.alloc (by simp;omega) o).alloc (by simp;omega) o'⟩
 case hassign=>
  intro l x W K hK
  gi_wp2
  exact hK
 case hbody=>
  rintro l pre x W ⟨⟨v,hv,hrow⟩,⟨ub,hbb⟩,⟨un,hbn⟩,hB⟩ hlt
  have hc:=hv.cell
  gi_wp2_with (gi_at_builtin;refine wpListIn_append_own _ rfl _ _ 135 rfl w.heap.size 5 i0 (.int .u8 0) 1 1 Tryz.underlying135 hi hz0 hz1 hz2 rfl (by decide) _ _ _ rfl (hrow.alloc _) ⟨W.heap.size,0,none⟩ 1 1 [tN x] rfl rfl (cell_one_new _ _ _) (by simp[Value.oneCell']) (by simp only[maxLen];omega) (by omega) (by have:=hB.size;simp;omega) ?_;intro v' w1 hown' hgrow _;obtain⟨g',cap',rfl⟩:=ownsRow_succ hown';obtain⟨hv1,hv2,hr2,hk2,hb2⟩:=hv.appended (by decide) hrow hB.size (GZ3 _) hown' hgrow;have hc1:=hv1.cell;have hf1:=hv1.frozen)
  have kb:=((hbb.alloc _).kept hgrow (hbb.not_row (by decide) hrow)).kept (grownBy_setCell' w1 w.heap.size (.slice (some ⟨g',0,none⟩) (pre.length+1) cap')) (by simp)
  have kn:=((hbn.alloc _).kept hgrow (hbn.not_row (by decide) hrow)).kept (grownBy_setCell' w1 w.heap.size (.slice (some ⟨g',0,none⟩) (pre.length+1) cap')) (by simp;omega)
  exact⟨⟨⟨_,hv2,by simpa using hr2⟩,⟨_,kb⟩,⟨_,kn⟩,hB.trans hb2⟩,kb.trans hbb.symm,kn.trans hbn.symm⟩
 case hdone=>
  rintro D W hD ⟨⟨v,hv,hrow⟩,_,_,hB⟩ hK
  have hc:=hv.cell
  have hcv:=BN Tryz.underlying135 Tryz.underlying5 Tryz.underlying9 hrow
  gi_wp2
  refine⟨by simp,.inl ⟨_,_,rfl,run_takeDeferred hK,?_⟩⟩
  exact⟨_,results_tmp rfl _ _ _,rfl,hB.trans (belowK_b (w:=w) (GZ3 _) W D _ _ (by simp at hD;omega) hK rfl rfl)⟩
end
section
open Go.RowKit
def putStr (s:ByteArray)(a k:Nat)(n:Int):ByteArray:=⟨(s.data.toList.take a++digits n k++s.data.toList.drop (a+k)).toArray⟩
theorem QI (s:ByteArray)(a k:Nat)(n:Int)(w:World)(hs:s.size<=140737488351232)(hok:eQ s.size a k=0):
  Calls Tryz.prog 255 #[.string s,.int .i64 a,.int .i64 k,.int .i64 n] w fun e w'=>e=.returned (.tuple #[.string (putStr s a k n),.int .i64 0])/\Below w.heap.size w w':=by
 obtain⟨h1,h2,h3,h4,h5⟩:=mG hok
 go_enter Tryz.func255,Tryz.ntmps255
 go_wp2_with (first|(go_at_call 241;refine(xN _ _ _ _ hs).mono ?_;rintro e w' ⟨rfl,rfl⟩))
 have q1:IntKind.i64.wrap ((a:Int)+k)=(a:Int)+k:=IntWalk.i64_in _ (by omega)
 have q2:(0:Int)<=(a:Int)+k:=by omega
 have q3:((a:Int)+k).toNat=a+k:=by omega
 have q4:(a:Int)+k<=s.size:=by omega
 have hz1:(s.extract 0 a).size<=s.size:=by rw[ByteArray.size_extract];omega
 have hz2:(s.extract (a+k) s.size).size<=s.size:=by rw[ByteArray.size_extract];omega
 have hz3:(ByteArray.mk (digits n k).toArray).size=k:=by simp[ByteArray.size,digits_length]
 have a1:∀W,(Op.stringOp .add (s.extract 0 a) ⟨(digits n k).toArray⟩).run Tryz.prog W=.ok (.string (s.extract 0 a++⟨(digits n k).toArray⟩)) W:=fun W=>run_string_add_sum _ _ _ (by omega)
 have a2:∀W,(Op.stringOp .add (s.extract 0 a++⟨(digits n k).toArray⟩) (s.extract (a+k) s.size)).run Tryz.prog W=.ok (.string (s.extract 0 a++⟨(digits n k).toArray⟩++s.extract (a+k) s.size)) W:=fun W=>run_string_add_sum _ _ _ (by rw[ByteArray.size_append];omega)
 clear hz1 hz2 hz3
 go_region_held3 (fun w'=>Below w.heap.size w w') (first|exact GZ4 _ _|exact Below.drew (GZ4 _ _)|exact kS (by assumption) (by assumption)|exact Below.drew (by assumption)|assumption)
  (first|(go_at_call 240;refine(Dt _ _ _ (by omega)).mono ?_;rintro e w1 ⟨rfl,hb1⟩))
 clear a1 a2 q1 q2 q3
 go_wp2_with fail
 go_ret2
 refine⟨M8 (ba_eq ?_) rfl,by assumption⟩
 rw[dY,dY,Lib.extract_to_end,Lib.extract_data]
 simp[putStr]
theorem Fy (s:ByteArray)(a k:Nat)(n:Int)(h:a+k<=s.size):(putStr s a k n).size=s.size:=by
 have e:(putStr s a k n).size=(s.data.toList.take a++digits n k++s.data.toList.drop (a+k)).length:=by unfold putStr;rfl
 have hl:s.data.toList.length=s.size:=rfl
 rw[e,GZ8,GZ8,digits_length,GY6,List.length_drop];omega
end
section
open Go.RowKit
def bS (s:ByteArray)(kind at_ add sym base:Int):ByteArray:=
 if RO s.size kind at_ add sym base=0 then putStr s at_.toNat (aK kind).toNat (bD kind sym add (base+at_))else⟨#[]⟩
theorem Oq (s:ByteArray)(a k n:Int)(w:World)(hs:s.size<=140737488351232)(hok:eQ s.size a k=0):
  Calls Tryz.prog 255 #[.string s,.int .i64 a,.int .i64 k,.int .i64 n] w fun e w'=>e=.returned (.tuple #[.string (putStr s a.toNat k.toNat n),.int .i64 0])/\Below w.heap.size w w':=by
 obtain⟨h1,h2,h3,h4,h5⟩:=mG hok
 have e1:((a.toNat:Nat):Int)=a:=by omega
 have e2:((k.toNat:Nat):Int)=k:=by omega
 have:=QI s a.toNat k.toNat n w hs (by rw[e1,e2];exact hok)
 rwa [e1,e2]at this
theorem xO (k:Int)(h:aK k≠0):2<=aK k/\aK k<=4:=by rcases Rf k with⟨_,h⟩|⟨_,h⟩|⟨_,h⟩|⟨_,h⟩|⟨_,h⟩|⟨_,h⟩<;>omega
theorem LZ (s:ByteArray)(kind at_ y add sym base:Int)(w:World)(hs:s.size<=140737488351232):
  Calls Tryz.prog 223 #[.string s,.agg #[.int .i64 kind,.int .i64 at_,.int .i64 y,.int .i64 add],.int .i64 sym,.int .i64 base] w fun e w'=>
   e=.returned (.tuple #[.string (bS s kind at_ add sym base),.int .i64 (RO s.size kind at_ add sym base)])/\Below w.heap.size w w':=by
 by_cases h0:aK kind=0
 ·have h1:RO s.size kind at_ add sym base=7:=by unfold RO;rw[if_pos h0]
  have h2:bS s kind at_ add sym base=⟨#[]⟩:=by unfold bS;rw[h1,if_neg (by omega)]
  rw[h1,h2]
  clear h1 h2
  go_enter Tryz.func223,Tryz.ntmps223
  go_wp2_with (first|(go_at_call 235;(with_reducible refine(gP _ _).mono ?_);rintro e w1 ⟨rfl,hb1⟩;obtain⟨hc1,hf1⟩:=aJ hb1;have hz1:w.heap.size<w1.heap.size:=by have:=hb1.size;(try simp at this);omega))
  all_goals(go_ret2;exact⟨by simp,((ZB).trans (hb1.mono (by simp)))⟩)
 ·obtain⟨g1,g2⟩:=xO kind h0
  have h0':(aK kind==0)=false:=by simp[h0]
  by_cases hr:add<0\/65535<add\/at_<0\/(s.size:Int) -aK kind<at_\/base<0\/65279<base
  ·have h1:RO s.size kind at_ add sym base=3:=by unfold RO;rw[if_neg h0,if_pos hr]
   have h2:bS s kind at_ add sym base=⟨#[]⟩:=by unfold bS;rw[h1,if_neg (by omega)]
   rw[h1,h2]
   clear h1 h2
   go_enter Tryz.func223,Tryz.ntmps223
   go_wp2_with (first|(go_at_call 235;(with_reducible refine(gP _ _).mono ?_);rintro e w1 ⟨rfl,hb1⟩;obtain⟨hc1,hf1⟩:=aJ hb1;have hz1:w.heap.size<w1.heap.size:=by have:=hb1.size;(try simp at this);omega))
   all_goals(go_ret2;exact⟨by simp,((ZB).trans (hb1.mono (by simp)))⟩)
  ·have hr':0<=add/\add<=65535/\0<=at_/\at_<=(s.size:Int) -aK kind/\0<=base/\base<=65279:=by omega
   obtain⟨r1,r2,r3,r4,r5,r6⟩:=hr'
   have h1:RO s.size kind at_ add sym base=RN kind sym add (base+at_):=by unfold RO;rw[if_neg h0,if_neg hr]
   by_cases hv:RN kind sym add (base+at_)=0
   ·have h2:bS s kind at_ add sym base=putStr s at_.toNat (aK kind).toNat (bD kind sym add (base+at_)):=by unfold bS;rw[h1,if_pos hv]
    rw[h1,h2,hv]
    have hcw:eQ s.size at_ (aK kind)=0:=pU (by omega) (by omega) (by omega) (by omega)
    have cv:=Hp (fun W=>(Cr kind sym add (base+at_) W).mono (fun _ _ h=>(⟨h.1.trans (Tu rfl hv),h.2⟩:_=Ending.returned (.tuple #[.int .i64 (bD kind sym add (base+at_)),.int .i64 0])/\_)))
    have cp:=Hp (fun W=>Oq s at_ (aK kind) (bD kind sym add (base+at_)) W hs hcw)
    clear h1 h2 hr hv hcw
    go_enter Tryz.func223,Tryz.ntmps223
    go_wp2_with (first|(go_at_call 235;(with_reducible refine(gP _ _).mono ?_);rintro e w1 ⟨rfl,hb1⟩;obtain⟨hc1,hf1⟩:=aJ hb1;have hz1:w.heap.size<w1.heap.size:=by have:=hb1.size;(try simp at this);omega)|(go_at_call 254;(with_reducible refine(cv.out _).mono ?_);rintro e w2 ⟨rfl,hb2⟩;obtain⟨hc2,hf2⟩:=aJ hb2;have hz2:w.heap.size<w2.heap.size:=by have:=hb2.size;(try simp at this);omega)|(go_at_call 255;(with_reducible refine(cp.out _).mono ?_);rintro e w3 ⟨rfl,hb3⟩;obtain⟨hc3,hf3⟩:=aJ hb3;have hz3:w.heap.size<w3.heap.size:=by have:=hb3.size;(try simp at this);omega))
    all_goals(go_ret2;exact⟨by simp,((ZB).trans ((kS hb1 (kS hb2 hb3)).mono (by simp)))⟩)
   ·have h2:bS s kind at_ add sym base=⟨#[]⟩:=by unfold bS;rw[h1,if_neg hv]
    rw[h1,h2]
    have hv':(RN kind sym add (base+at_) != 0)=true:=by simp[hv]
    have cv:=Hp (fun W=>Cr kind sym add (base+at_) W)
    clear h1 h2 hr hv
    go_enter Tryz.func223,Tryz.ntmps223
    go_wp2_with (first|(go_at_call 235;(with_reducible refine(gP _ _).mono ?_);rintro e w1 ⟨rfl,hb1⟩;obtain⟨hc1,hf1⟩:=aJ hb1;have hz1:w.heap.size<w1.heap.size:=by have:=hb1.size;(try simp at this);omega)|(go_at_call 254;(with_reducible refine(cv.out _).mono ?_);rintro e w2 ⟨rfl,hb2⟩;obtain⟨hc2,hf2⟩:=aJ hb2;have hz2:w.heap.size<w2.heap.size:=by have:=hb2.size;(try simp at this);omega))
    all_goals(go_ret2;exact⟨by simp,((ZB).trans ((kS hb1 hb2).mono (by simp)))⟩)
end
section
open Go.RowKit
def strCells (s:ByteArray):List Value:=[.string s]
structure jK (w:World)(A:Option Addr)(l:List ByteArray):Prop where
 row:Row strCells 1 w A l
 len:l.length<=big
 each:∀s∈l,s.size<=big
theorem jK.below {w w':World}{A:Option Addr}{l:List ByteArray}(h:jK w A l)(hb:Below w.heap.size w w'):jK w' A l:=⟨h.row.below hb,h.len,h.each⟩
theorem nT {w w':World}{A:Option Addr}{l:List ByteArray}(h:Row strCells 1 w A l)(hb:Below w.heap.size w w')(i:Nat)(hi:i<l.length):
  ∃ad,A=some ad/\ad.block<w.heap.size/\w'.cell? (ad.add i)=some (.string l[i]):=by
 obtain⟨ad,rfl,hab,hc⟩:=Row.at_ (enc:=strCells) (k:=1) (fun _=>rfl) h i hi
 have e0:=hc 0 _ rfl
 rw[add_zero_,Nat.mul_one]at e0
 exact⟨ad,rfl,hab,(hb.cell (by rw[aA];exact hab)).trans e0⟩
theorem Ui {w w0:World}{a0:Value}{t:TypeId}(h:w0=w.alloc (.cells #[a0] t)):w0.cell? ⟨w.heap.size,0,none⟩=some a0/\w0.heap.size=w.heap.size+1/\Below w.heap.size w w0:=by
 subst h
 refine⟨by rw[World.cell?_alloc_new];rfl,by simp,ZB⟩
def dA (w:World)(base:Nat)(v:Value)(l:List ByteArray):Prop:=w.ownsRow base 9 1 v l.length (l.map Value.string)
theorem rZ (l:List ByteArray):l.map Value.string=l.flatMap strCells:=by
 induction l with
 |nil=>rfl
 |cons x l ih=>simp[List.flatMap_cons,<-ih,strCells]
theorem dA.form {w:World}{base:Nat}{v:Value}{l:List ByteArray}(h:dA w base v l):∃(A:Option Addr)(c:Nat),v=.slice A l.length c/\Row strCells 1 w A l/\l.length<=c:=by
 have hh:=h
 rcases h.2 with⟨rfl,e⟩|⟨g,cap,cur,rfl,e2,e3,e4,_⟩
 ·rw[e]
  refine⟨none,0,rfl,?_,GZ3 _⟩
  have:=Reads.of_own (show w.ownsRow base 9 1 (.slice none 0 0) 0 (l.map Value.string) from by
   have h1:=hh.1
   exact⟨by rw[h1,e],.inl ⟨rfl,rfl⟩⟩)
  rw[rZ]at this
  unfold Row;rw[e];exact this
 ·refine⟨some ⟨g,0,none⟩,cap,rfl,?_,e4⟩
  have:=Reads.of_own hh
  rwa [rZ]at this
theorem dA.nil (w:World)(base:Nat):dA w base (.slice none 0 0) []:=World.ownsRow_nil _ _ _ _
theorem dA.below {w w':World}{base B:Nat}{v:Value}{l:List ByteArray}(h:dA w base v l)(hb:Below B w w')(hB:w.heap.size<=B):dA w' base v l:=by
 refine⟨h.1,?_⟩
 rcases h.2 with h0|⟨g,cap,cur,e1,e2,e3,e4⟩
 ·exact .inl h0
 ·refine .inr ⟨g,cap,cur,e1,e2,?_,e4⟩
  have:g<w.heap.size:=by
   rcases Nat.lt_or_ge g w.heap.size with hlt|hge
   ·exact hlt
   ·rw[Array.getElem?_eq_none hge]at e3;cases e3
  rw[hb.block g (by omega)];exact e3
theorem dA.at_ {w:World}{base:Nat}{A:Option Addr}{n c:Nat}{l:List ByteArray}(h:dA w base (.slice A n c) l)(hn:n=l.length)(i:Nat)(hi:i<n):
  ∃g,A=some ⟨g,0,none⟩/\base<=g/\g<w.heap.size/\w.cell? ⟨g,i,none⟩=some (.string (l.getD i ⟨#[]⟩))/\w.frozen? ⟨g,i,none⟩=false/\∀s,dA (w.setCell ⟨g,i,none⟩ (.string s)) base (.slice A n c) (l.set i s):=by
 subst hn
 obtain⟨h1,h2⟩:=h
 rcases h2 with⟨_,h0⟩|⟨g,cap,cur,hv,hg,hb,hnc,hcm,hsz,htk⟩
 ·omega
 injection hv with ha hk hc
 subst ha
 have hcs:cur.toList[i]? =some (.string (l.getD i ⟨#[]⟩)):=by
  have:(cur.toList.take (l.length*1))[i]? =some (.string (l.getD i ⟨#[]⟩)):=by
   rw[htk,List.getElem?_map,List.getD_eq_getElem?_getD,GY5 hi];rfl
  rwa [List.getElem?_take_of_lt (by omega)]at this
 have hcell:w.cell? ⟨g,i,none⟩=some (.string (l.getD i ⟨#[]⟩)):=by
  simp only[World.cell?,hb]
  simpa using hcs
 refine⟨g,rfl,hg,(ZL hb),hcell,frozen_of_row _ _ _ _ _ hb,fun s=>?_⟩
 refine⟨by simp,.inr ⟨g,cap,cur.setIfInBounds i (.string s),?_,hg,heap_setCell_same w g _ cur _ _ hb,?_,hcm,by simpa using hsz,?_⟩⟩
 ·rw[<-hc];simp
 ·simpa using hnc
 ·rw[Array.toList_setIfInBounds,List.take_set,List.length_set,htk,<-List.map_set]
theorem Tryz.zQ :(Tryz.prog.info? 9).map (fun i=>(i.zero,i.size,i.bytes))=some (some (.string ⟨#[]⟩),1,16):=by kernel_rfl
theorem JX (W:World){ops:Array Oper}{rest:List Oper}{o:Oper}{a:Act}{Q:Exit->Act->World->Prop}(hgd:o.guard=none)(s x:Operand)
  (ho:o.op=.call {callee:=.builtin .append,args:=#[s,x],argTypes:=#[27,27]}) (base:Nat) (v:Value) (ns:List ByteArray) (n:ByteArray) (hs:a.eval s=v)
  (hx:a.eval x=.slice (some ⟨W.heap.size,0,none⟩) 1 1) (hown:dA W base v ns) (hl:ns.length<=1000000) (hbase:base<=W.heap.size)
  (h:∀v' w',dA w' base v' (ns++[n])->Below base W w'->wpList Tryz.prog ops Q rest (a.put o.dst v') w'):wpList Tryz.prog ops Q (o::rest) a (W.alloc (.cells #[.string n] 9)):=by
 obtain⟨i0,hi,hz0,hz1,hz2⟩:=info_parts Tryz.zQ
 refine wpList_append_own_at (W.alloc (.cells #[.string n] 9)) hgd s x 27 ho base 9 i0 (.string ⟨#[]⟩) 1 16 Tryz.underlying27 hi hz0 hz1 hz2 rfl (by decide) v ns.length (ns.map Value.string) hs (hown.alloc _) ⟨W.heap.size,0,none⟩ 1 1 [.string n] hx rfl
  (cell_one_new _ _ _) (by simp[Value.oneCell']) (by simp only[maxLen];omega) (by omega) (by simp;omega) ?_
 intro v' w1 hown' hgrow _ _
 refine h v' w1 ?_ (((GZ4 base W).alloc hbase _).grown hgrow (by simp;omega) (fun g hg=>by
  rcases hown.2 with⟨rfl,_⟩|⟨g',cap,cur,rfl,e2,_⟩
  ·simp[Value.ownBlock]at hg
  ·simp[Value.ownBlock]at hg;omega))
 unfold dA
 simpa using hown'
end
section
open Go.RowKit
theorem iW {w:World}{base size n:Nat}{e:TypeId}{v:Value}{xs:List Value}(h:w.ownsRow base e size v n xs):∀g,v.ownBlock=some g->base<=g:=by
 intro g hg
 rcases h.2 with⟨rfl,_⟩|⟨g',cap,cur,rfl,e2,_⟩
 ·simp[Value.ownBlock]at hg
 ·simp[Value.ownBlock]at hg;omega
theorem bG {w:World}{base size n:Nat}{e:TypeId}{v:Value}{xs:List Value}(h:w.ownsRow base e size v n xs):∃(A:Option Addr)(c:Nat),v=.slice A n c:=by
 rcases h.2 with⟨rfl,rfl⟩|⟨g',cap,cur,rfl,_⟩
 ·exact⟨_,_,rfl⟩
 ·exact⟨_,_,rfl⟩
section
variable {P:Program} (w:World)
theorem wX (base:Nat)(t ty e:TypeId)(i:TypeInfo)(size:Nat)(ht:P.underlying t=some (.slice e))(hi:P.info? e=some i)
  (v:Value) (n:Nat) (xs:List Value) (hown:w.ownsRow base e size v n xs) (c:Nat):(Builtin.append_ #[t,t] ty #[v,.slice none 0 c]).run P w=.ok v w:=by
 rcases hown.2 with⟨rfl,rfl⟩|⟨g,cap,cur,rfl,_,_,hnc,_⟩
 ·simp[Builtin.append_,run_underlying ht,sizeOf,typeInfo,hi,Builtin.lenOf,Builtin.firstCells]
 ·simp[Builtin.append_,run_underlying ht,sizeOf,typeInfo,hi,Builtin.lenOf,Builtin.firstCells,hnc,storeCells]
theorem Af (base:Nat)(t ty e:TypeId)(i:TypeInfo)(z:Value)(size bytes:Nat)(ht:P.underlying t=some (.slice e))(hi:P.info? e=some i)(hz:i.zero=some z)
  (hsize:i.size=size) (hby:i.bytes=bytes) (hzs:z.cells.size=size) (hsz:0<size)
  (v:Value) (n:Nat) (xs:List Value) (hown:w.ownsRow base e size v n xs)
  (B:Nat) (A:Option Addr) (m c:Nat) (news:List Value) (hr:Reads w B size A m news) (h1:∀u∈news,u.oneCell'=true)
  (h63:n+m<=maxLen) (hbytes:(n+m)*bytes<=140737488355328) (hbase:base<=w.heap.size):
  ∃v' w',(Builtin.append_ #[t,t] ty #[v,.slice A m c]).run P w=.ok v' w'/\w'.ownsRow base e size v' (n+m) (xs++news)/\w.grownBy w' v.ownBlock/\
   (v'.ownBlock=v.ownBlock\/v'.ownBlock=some w.heap.size):=by
 rcases A with _|ad
 ·have hm:m=0:=by
   rcases Nat.eq_zero_or_pos m with h0|h0
   ·exact h0
   ·obtain⟨ad,h,_⟩:=hr.2 h0
    cases h
  subst hm
  have hn:news=[]:=GY9 (by simpa using hr.1)
  subst hn
  exact⟨v,w,wX w base t ty e i size ht hi v n xs hown c,by simpa using hown,World.grownBy.refl w _,.inl rfl⟩
 ·have hcells:∀j u,news[j]? =some u->w.cell? (ad.add j)=some u:=by
   intro j u hu
   rcases Nat.eq_zero_or_pos m with h0|h0
   ·subst h0
    have hn:news=[]:=GY9 (by simpa using hr.1)
    subst hn
    simp at hu
   ·obtain⟨ad',h,_,hc⟩:=hr.2 h0
    injection h with h
    subst h
    exact hc j u hu
  obtain⟨v',w',hrun,h2,h3,_,h5⟩:=run_append_own_at (P:=P) w base t ty e i z size bytes ht hi hz hsize hby hzs hsz v n xs hown ad m c news hr.1 hcells h1 h63 hbytes hbase
  exact⟨v',w',hrun,h2,h3,h5⟩
theorem jQ {o:Oper}{a:Act}{K:Act->World->Prop}{Q:Exit->Act->World->Prop}(s x:Operand)(t:TypeId)
  (ho:o.op=.call {callee:=.builtin .append,args:=#[s,x],argTypes:=#[t,t]})
  (base:Nat) (e:TypeId) (i:TypeInfo) (z:Value) (size bytes:Nat) (ht:P.underlying t=some (.slice e)) (hi:P.info? e=some i) (hz:i.zero=some z)
  (hsize:i.size=size) (hby:i.bytes=bytes) (hzs:z.cells.size=size) (hsz:0<size)
  (v:Value) (n:Nat) (xs:List Value) (hs:a.eval s=v) (hown:w.ownsRow base e size v n xs)
  (B:Nat) (A:Option Addr) (m c:Nat) (news:List Value) (hx:a.eval x=.slice A m c) (hr:Reads w B size A m news) (h1:∀u∈news,u.oneCell'=true)
  (h63:n+m<=maxLen) (hbytes:(n+m)*bytes<=140737488355328) (hbase:base<=w.heap.size)
  (h:∀v' w',w'.ownsRow base e size v' (n+m) (xs++news)->w.grownBy w' v.ownBlock->(v'.ownBlock=v.ownBlock\/v'.ownBlock=some w.heap.size)->K (a.put o.dst v') w'):o.wp P a w K Q:=by
 obtain⟨v',w',hrun,h2,h3,h4⟩:=Af (P:=P) w base t o.type e i z size bytes ht hi hz hsize hby hzs hsz v n xs hown B A m c news hr h1 h63 hbytes hbase
 unfold Oper.wp execOp
 simp only[ho,resolve,invoke,builtin,Sem.run_bind,Sem.run_pure,Result.andThen_ok,List.map_toArray,List.map_cons,List.map_nil,hs,hx,hrun]
 exact h v' w' h2 h3 h4
theorem jX {ops:Array Oper}{o:Oper}{a:Act}{K:Act->World->Prop}{Q:Exit->Act->World->Prop}{E:Prop}(hgd:o.guard=none)(s x:Operand)(t:TypeId)
  (ho:o.op=.call {callee:=.builtin .append,args:=#[s,x],argTypes:=#[t,t]})
  (base:Nat) (e:TypeId) (i:TypeInfo) (z:Value) (size bytes:Nat) (ht:P.underlying t=some (.slice e)) (hi:P.info? e=some i) (hz:i.zero=some z)
  (hsize:i.size=size) (hby:i.bytes=bytes) (hzs:z.cells.size=size) (hsz:0<size)
  (v:Value) (n:Nat) (xs:List Value) (hs:a.eval s=v) (hown:w.ownsRow base e size v n xs)
  (B:Nat) (A:Option Addr) (m c:Nat) (news:List Value) (hx:a.eval x=.slice A m c) (hr:Reads w B size A m news) (h1:∀u∈news,u.oneCell'=true)
  (h63:n+m<=maxLen) (hbytes:(n+m)*bytes<=140737488355328) (hbase:base<=w.heap.size)
  (h:∀v' w',w'.ownsRow base e size v' (n+m) (xs++news)->w.grownBy w' v.ownBlock->(v'.ownBlock=v.ownBlock\/v'.ownBlock=some w.heap.size)->K (a.put o.dst v') w'):
  if Region.wanted o (yielded ops a.tmps)=true then Oper.wp P o a w K Q else E:=by
 have hw:Region.wanted o (yielded ops a.tmps)=true:=by simp[Region.wanted,hgd]
 rw[if_pos hw]
 exact jQ w s x t ho base e i z size bytes ht hi hz hsize hby hzs hsz v n xs hs hown B A m c news hx hr h1 h63 hbytes hbase h
theorem eO {ops:Array Oper}{rest:List Oper}{o:Oper}{a:Act}{Q:Exit->Act->World->Prop}(hgd:o.guard=none)(s x:Operand)(t:TypeId)
  (ho:o.op=.call {callee:=.builtin .append,args:=#[s,x],argTypes:=#[t,t]})
  (base:Nat) (e:TypeId) (i:TypeInfo) (z:Value) (size bytes:Nat) (ht:P.underlying t=some (.slice e)) (hi:P.info? e=some i) (hz:i.zero=some z)
  (hsize:i.size=size) (hby:i.bytes=bytes) (hzs:z.cells.size=size) (hsz:0<size)
  (v:Value) (n:Nat) (xs:List Value) (hs:a.eval s=v) (hown:w.ownsRow base e size v n xs)
  (B:Nat) (A:Option Addr) (m c:Nat) (news:List Value) (hx:a.eval x=.slice A m c) (hr:Reads w B size A m news) (h1:∀u∈news,u.oneCell'=true)
  (h63:n+m<=maxLen) (hbytes:(n+m)*bytes<=140737488355328) (hbase:base<=w.heap.size)
  (h:∀v' w',w'.ownsRow base e size v' (n+m) (xs++news)->w.grownBy w' v.ownBlock->(v'.ownBlock=v.ownBlock\/v'.ownBlock=some w.heap.size)->wpList P ops Q rest (a.put o.dst v') w'):wpList P ops Q (o::rest) a w:=
 wpList_plain hgd fun _ hK=>jQ w s x t ho base e i z size bytes ht hi hz hsize hby hzs hsz v n xs hs hown B A m c news hx hr h1 h63 hbytes hbase fun v' w' h2 h3 h4=>hK _ _ (h v' w' h2 h3 h4)
end
end
end Go.Proofs.YtjiedaialianmaaGreat
