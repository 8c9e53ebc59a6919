import Derived.Test.YtjiedaialianmaaGreatA11
import Derived.Test.YtjiedaialianmaaGreatA15
import Derived.Lib.AppendZerosOnto
import Derived.Shelf.Spec.SlicesInsert
set_option maxRecDepth 100000
set_option maxHeartbeats 8000000
namespace Go.Proofs.YtjiedaialianmaaGreat
section
open Go.RowKit
theorem Ry {α:Type}{enc:α->List Value}{k:Nat}(g:∀x,(enc x).length=k){w:World}{b:Nat}{d:Array Value}{t:TypeId}{l:List α}(h:w.heap[b]? =some (.cells d t (0,0)))(i:d.toList=l.flatMap enc):Row enc k w (some ⟨b,0,none⟩) l:=by
 have a:b<w.heap.size:=by
  rcases Nat.lt_or_ge b w.heap.size with a|c
  ·exact a
  ·rw[Array.getElem?_eq_none c]at h;cases h
 refine⟨by rw[flat_length g],fun _=>⟨_,rfl,a,fun j u f=>?_⟩⟩
 have e:(⟨b,0,none⟩:Addr).add j=⟨b,j,none⟩:=by unfold Addr.add;split<;>simp_all
 rw[e,cell_of_row _ _ _ _ _ _ h,<-f,<-i]
 simp
def RU (A:Option Addr)(c:Nat):Krn:=⟨0,0,[⟨⟨#[107]⟩,2⟩],A,c⟩
def lW (f d b:Option Addr)(e c a:Nat):Mod:=⟨⟨#[108,105,98]⟩,1,2,⟨#[97,98,99,100,101,102,103,104]⟩,[⟨⟨#[102]⟩,4⟩],[],[],f,e,d,c,b,a⟩
def TH (f d b:Option Addr)(e c a:Nat):Mod:=⟨⟨#[97,112,112]⟩,0,0,⟨#[46,46,46,46,46,46,46,46]⟩,[],[⟨⟨#[108,105,98]⟩,⟨#[102]⟩,1,1⟩,⟨RG,⟨#[107]⟩,0,0⟩],[⟨1,0,0,1⟩,⟨5,4,1,0⟩],f,e,d,c,b,a⟩
theorem Tryz.IZ :(Tryz.prog.info? 24).map (·.size)=some 3:=by kernel_rfl
theorem Tryz.AX :(Tryz.prog.info? 70).map (·.size)=some 7:=by kernel_rfl
theorem Sn (w:World):Calls Tryz.prog 69 #[] w fun e a=>(∃A c,e=.returned (RU A c).v/\(RU A c).ok a)/\Below w.heap.size w a:=by
 go_enter Tryz.func69,Tryz.ntmps69
 go_wp2_with fail
 try simp only[Exit.inBlock,Exit.then]
 have f:=heap_alloc2_old w (.cells #[.int .i64 0,.int .i64 0,.slice (some ⟨w.heap.size+1,0,none⟩) 1 1] 24) (.cells #[.string ⟨#[107]⟩,.int .i64 2] 159)
 have d:=heap_alloc2_new w (.cells #[.int .i64 0,.int .i64 0,.slice (some ⟨w.heap.size+1,0,none⟩) 1 1] 24) (.cells #[.string ⟨#[107]⟩,.int .i64 2] 159)
 refine bodyPost_ret (results_cell_row rfl _ _ w.heap.size 24 _ (0,0) _ rfl f Tryz.underlying24 rfl Tryz.IZ) rfl ?_
 refine⟨⟨some ⟨w.heap.size+1,0,none⟩,1,rfl,⟨Ry (enc:=Exp.cells) (k:=2) (fun _=>rfl) d rfl,by unfold big RU;simp,?_⟩⟩,(ZB).alloc (by simp) _⟩
 intro x b
 simp only[RU,List.mem_singleton]at b
 subst b
 unfold big;decide
theorem KF (w:World):Calls Tryz.prog 112 #[] w fun e b=>(∃j g d i f c,e=.returned (lW j g d i f c).v/\(lW j g d i f c).ok b)/\Below w.heap.size w b:=by
 go_enter Tryz.func112,Tryz.ntmps112
 go_wp2_with fail
 try simp only[Exit.inBlock,Exit.then]
 have m:=fun a=>heap_alloc2_old w (.cells a 70) (.cells #[.string ⟨#[102]⟩,.int .i64 4] 159)
 have l:=fun a=>heap_alloc2_new w (.cells a 70) (.cells #[.string ⟨#[102]⟩,.int .i64 4] 159)
 refine bodyPost_ret (results_cell_row rfl _ _ w.heap.size 70 _ (0,0) _ rfl (m _) Tryz.underlying70 rfl Tryz.AX) rfl ?_
 refine⟨⟨some ⟨w.heap.size+1,0,none⟩,none,none,1,0,0,rfl,⟨⟨Ry (enc:=Exp.cells) (k:=2) (fun _=>rfl) (l _) rfl,by unfold big lW;simp,?_⟩,⟨Row.nil,by unfold big lW;simp,by simp[lW]⟩,⟨Row.nil,by unfold big lW;simp⟩,by show(⟨#[108,105,98]⟩:ByteArray).size<=big;decide,by show(⟨#[97,98,99,100,101,102,103,104]⟩:ByteArray).size<=big;decide⟩⟩,(ZB).alloc (by simp) _⟩
 intro x h
 simp only[lW,List.mem_singleton]at h
 subst h
 unfold big;decide
theorem VF (w:World)(A B C:Obj):(((w.alloc A).alloc B).alloc C).heap[w.heap.size+1]? =some B:=by
 rw[Below.heap_alloc _ _ _ (by simp)];exact heap_alloc2_new w A B
theorem zC (w:World)(A B C:Obj):(((w.alloc A).alloc B).alloc C).heap[w.heap.size]? =some A:=by
 rw[Below.heap_alloc _ _ _ (by simp;omega)];exact heap_alloc2_old w A B
theorem zD (w:World)(A B C:Obj):(((w.alloc A).alloc B).alloc C).heap[w.heap.size+1+1]? =some C:=by
 have:=heap_alloc_new ((w.alloc A).alloc B) C
 simpa using this
theorem Jr (w:World):Calls Tryz.prog 114 #[] w fun e d=>(∃m i g l h f,e=.returned (TH m i g l h f).v/\(TH m i g l h f).ok d)/\Below w.heap.size w d:=by
 go_enter Tryz.func114,Tryz.ntmps114
 go_wp2_with fail
 try simp only[Exit.inBlock,Exit.then]
 have p:=fun a b c=>zC w (.cells a 70) (.cells b 173) (.cells c 180)
 have o:=fun a b c=>VF w (.cells a 70) (.cells b 173) (.cells c 180)
 have n:=fun a b c=>zD w (.cells a 70) (.cells b 173) (.cells c 180)
 refine bodyPost_ret (results_cell_row rfl _ _ w.heap.size 70 _ (0,0) _ rfl (p _ _ _) Tryz.underlying70 rfl Tryz.AX) rfl ?_
 refine⟨⟨none,some ⟨w.heap.size+1,0,none⟩,some ⟨w.heap.size+1+1,0,none⟩,0,2,2,rfl,⟨⟨Row.nil,by unfold big TH;simp,by simp[TH]⟩,⟨Ry (enc:=Imp.cells) (k:=4) (fun _=>rfl) (o _ _ _) rfl,by unfold big TH;simp,?_⟩,⟨Ry (enc:=Pat.cells) (k:=4) (fun _=>rfl) (n _ _ _) rfl,by unfold big TH;simp⟩,by show(⟨#[97,112,112]⟩:ByteArray).size<=big;decide,by show(⟨#[46,46,46,46,46,46,46,46]⟩:ByteArray).size<=big;decide⟩⟩,((ZB).alloc (by simp) _).alloc (by simp;omega) _⟩
 intro x j
 simp only[TH,List.mem_cons,List.not_mem_nil,or_false]at j
 rcases j with rfl|rfl<;>(unfold big;decide)
end
section
open Go.RowKit
abbrev kN :Value:=.agg #[.string ⟨#[]⟩,.int .i64 0,.int .i64 0,.string ⟨#[]⟩,.slice none 0 0,.slice none 0 0,.slice none 0 0,.int .i64 0]
theorem Tryz.vH :(Tryz.prog.info? 83).map (fun i=>(i.zero,i.size,i.bytes))=some (some kN,8,128):=by kernel_rfl
def aP (w:World)(a:Nat)(v:Value)(l:List Plc):Prop:=w.ownsRow a 83 8 v l.length (l.flatMap Plc.cells)
theorem pG (l:List Plc):∀u∈l.flatMap Plc.cells,u.oneCell'=true:=by
 intro u b
 obtain⟨x,_,a⟩:=List.mem_flatMap.1 b
 simp only[Plc.cells,Mod.cells,List.mem_append,List.mem_cons,List.not_mem_nil,or_false]at a
 rcases a with(rfl|rfl|rfl|rfl|rfl|rfl|rfl)|rfl<;>rfl
theorem aP.row {w:World}{a:Nat}{v:Value}{l:List Plc}(h:aP w a v l):∃(A:Option Addr)(c:Nat),v=.slice A l.length c/\Row Plc.cells 8 w A l:=by
 obtain⟨A,c,rfl⟩:=bG h
 exact⟨A,c,rfl,Reads.of_own h⟩
theorem Kc (W:World){k:Array Oper}{o:Oper}{a:Act}{K:Act->World->Prop}{Q:Exit->Act->World->Prop}{E:Prop}(p:o.guard=none)(s x:Operand)
  (z:o.op=.call {callee:=.builtin .append,args:=#[s,x],argTypes:=#[37,37]}) (b:Nat) (v:Value) (i:List Plc) (w:a.eval s=v) (e:aP W b v i)
  (A:Option Addr) (c:Nat) (f:List Plc) (u:a.eval x=.slice A f.length c) (y:Row Plc.cells 8 W A f) (q:i.length+f.length<=1000000) (d:b<=W.heap.size)
  (h:∀j g,aP g b j (i++f)->Below b W g->W.grownBy g v.ownBlock->K (a.put o.dst j) g):if Region.wanted o (yielded k a.tmps)=true then Oper.wp Tryz.prog o a W K Q else E:=by
 obtain⟨t,B,n,m,l⟩:=info_parts Tryz.vH
 refine jX W p s x 37 z b 83 t kN 8 128 Tryz.underlying37 B n m l rfl (by decide) v i.length (i.flatMap Plc.cells) w e W.heap.size A f.length c (f.flatMap Plc.cells) u y
  (pG f) (by simp only[maxLen];omega) (by omega) d ?_
 intro j g C r _
 refine h j g ?_ ((GZ4 b W).grown r d (iW e)) r
 unfold aP
 simpa using C
theorem Ou (W:World){o:Oper}{a:Act}{K:Act->World->Prop}{Q:Exit->Act->World->Prop}(s x:Operand)
  (w:o.op=.call {callee:=.builtin .append,args:=#[s,x],argTypes:=#[37,37]}) (b:Nat) (v:Value) (i:List Plc) (t:a.eval s=v) (e:aP W b v i)
  (A:Option Addr) (c:Nat) (f:List Plc) (r:a.eval x=.slice A f.length c) (u:Row Plc.cells 8 W A f) (n:i.length+f.length<=1000000) (d:b<=W.heap.size)
  (h:∀j g,aP g b j (i++f)->Below b W g->W.grownBy g v.ownBlock->K (a.put o.dst j) g):Oper.wp Tryz.prog o a W K Q:=by
 obtain⟨q,y,m,l,k⟩:=info_parts Tryz.vH
 refine jQ W s x 37 w b 83 q kN 8 128 Tryz.underlying37 y m l k rfl (by decide) v i.length (i.flatMap Plc.cells) t e W.heap.size A f.length c (f.flatMap Plc.cells) r u
  (pG f) (by simp only[maxLen];omega) (by omega) d ?_
 intro j g z p _
 refine h j g ?_ ((GZ4 b W).grown p d (iW e)) p
 unfold aP
 simpa using z
theorem aP.alloc {w:World}{a:Nat}{v:Value}{l:List Plc}(h:aP w a v l)(o:Obj):aP (w.alloc o) a v l:=World.ownsRow.alloc h o
theorem aP.drew {w:World}{a:Nat}{v:Value}{l:List Plc}(h:aP w a v l):aP w.drew a v l:=h
end
section
open Go.RowKit Go.Lib
theorem gN (W:World){g:Array Oper}{d:List Oper}{o:Oper}{a:Act}{Q:Exit->Act->World->Prop}(n:o.guard=none)(s x:Operand)
  (t:o.op=.call {callee:=.builtin .append,args:=#[s,x],argTypes:=#[37,37]}) (b:Nat) (v:Value) (m:List Plc) (q:a.eval s=v) (j:aP W b v m)
  (A:Option Addr) (c:Nat) (i:List Plc) (p:a.eval x=.slice A i.length c) (r:Row Plc.cells 8 W A i) (k:m.length+i.length<=1000000) (e:b<=W.heap.size)
  (h:∀l f,aP f b l (m++i)->Below b W f->W.grownBy f v.ownBlock->wpList Tryz.prog g Q d (a.put o.dst l) f):wpList Tryz.prog g Q (o::d) a W:=
 wpList_plain n fun _ u=>Ou W s x t b v m q j A c i p r k e fun l f z y w=>u _ _ (h l f z y w)
theorem KD (W:World)(x:Plc):Row Plc.cells 8 (W.alloc (.cells #[.string x.m.name,.int .i64 x.m.major,.int .i64 x.m.minor,.string x.m.text,.slice x.m.eA x.m.ex.length x.m.eC,.slice x.m.iA x.m.im.length x.m.iC,.slice x.m.pA x.m.pa.length x.m.pC,.int .i64 x.first] 83)) (some ⟨W.heap.size,0,none⟩) [x]:=
 Ry (enc:=Plc.cells) (k:=8) (fun _=>rfl) (heap_alloc_new W _) rfl
def fH (l:List Plc)(m:Mod)(first:Int):List Plc:=l.takeWhile (fun x=>decide (x.first<=first))++⟨m,first⟩::l.dropWhile (fun x=>decide (x.first<=first))
def jO (l:List Plc)(m:Mod)(first:Int)(j:Nat):Bool×List Plc:=
 if(l.take j).all (fun x=>decide (x.first<=first))then(false,l.take j)else(true,fH (l.take j) m first)
theorem JS {α:Type}{p:α->Bool}:∀{l:List α},l.all p=true->l.takeWhile p=l/\l.dropWhile p=[]
 | [],_=>⟨rfl,rfl⟩
 |x::l,h=>by
  rw[List.all_cons,Bool.and_eq_true]at h
  obtain⟨d,c⟩:=h
  obtain⟨b,a⟩:=JS c
  rw[List.takeWhile_cons,List.dropWhile_cons,d]
  exact⟨by simp[b],by simp[a]⟩
theorem Jy {α:Type}{p:α->Bool}:∀{l:List α}(y:α),l.all p=false->(l++[y]).takeWhile p=l.takeWhile p/\(l++[y]).dropWhile p=l.dropWhile p++[y]
 | [],_,h=>by simp at h
 |x::l,y,h=>by
  rw[List.cons_append,List.takeWhile_cons,List.dropWhile_cons,List.takeWhile_cons,List.dropWhile_cons]
  cases c:p x
  ·exact⟨rfl,rfl⟩
  ·rw[List.all_cons,c,Bool.true_and]at h
   obtain⟨b,a⟩:=Jy y h
   exact⟨by simp[b],by simp[a]⟩
theorem Nt {α:Type}{p:α->Bool}:∀{l:List α}(y:α),l.all p=true->p y=false->(l++[y]).takeWhile p=l/\(l++[y]).dropWhile p=[y]
 | [],y,_,hy=>by simp[hy]
 |x::l,y,h,hy=>by
  rw[List.all_cons,Bool.and_eq_true]at h
  obtain⟨b,a⟩:=Nt y h.2 hy
  rw[List.cons_append,List.takeWhile_cons,List.dropWhile_cons,h.1]
  exact⟨by simp[b],by simp[a]⟩
theorem Hq {l:List Plc}{m:Mod}{first:Int}{j:Nat}(h:j<l.length):
  jO l m first (j+1)=if(jO l m first j).1=false/\first<l[j].first then(true,(jO l m first j).2++[⟨m,first⟩]++[l[j]])else((jO l m first j).1,(jO l m first j).2++[l[j]]):=by
 unfold jO
 rw[List.take_succ_eq_append_getElem h,List.all_append]
 cases d:(l.take j).all (fun x=>decide (x.first<=first))
 ·obtain⟨b,a⟩:=Jy (p:=fun x:Plc=>decide (x.first<=first)) l[j] d
  simp only[Bool.false_and,Bool.false_eq_true,if_false]
  rw[if_neg (by simp)]
  unfold fH
  rw[b,a];simp
 ·simp only[Bool.true_and,if_true]
  by_cases c:l[j].first<=first
  ·rw[if_pos (by simp[c]),if_neg (by simp;omega)]
  ·rw[if_neg (by simp[c]),if_pos ⟨by trivial,by omega⟩]
   obtain⟨b,a⟩:=Nt (p:=fun x:Plc=>decide (x.first<=first)) l[j] d (by simp;omega)
   unfold fH
   rw[b,a];simp
theorem J9 (l:List Plc)(m:Mod)(first:Int):fH l m first=if(jO l m first l.length).1=false then(jO l m first l.length).2++[⟨m,first⟩]else(jO l m first l.length).2:=by
 unfold jO
 rw[List.take_length]
 cases c:l.all (fun x=>decide (x.first<=first))
 ·simp
 ·obtain⟨b,a⟩:=JS (p:=fun x:Plc=>decide (x.first<=first)) c
  simp only[if_true]
  unfold fH
  rw[b,a]
theorem Ib (l:List Plc)(m:Mod)(first:Int)(j:Nat):(jO l m first j).2.length<=l.length+1:=by
 unfold jO
 split
 ·rw[GY6];omega
 ·unfold fH
  have b:(l.take j).takeWhile (fun x=>decide (x.first<=first))++(l.take j).dropWhile (fun x=>decide (x.first<=first))=l.take j:=List.takeWhile_append_dropWhile
  have a:=congrArg List.length b
  rw[GZ8,GY6]at a
  simp only[GZ8,GY8]
  omega
theorem pV {w wr:World}{a:Nat}{v:Value}{b:List Plc}(d:aP wr a v b)(e:Below a w wr)(c:a<=wr.heap.size)(x:Plc)(f:b.length<=1000):
  Hid (∀o,aP (wr.alloc o) a v b)/\Hid (∀o,Below a w (wr.alloc o))/\Hid (∀o,a<=(wr.alloc o).heap.size)/\Hid (b.length+([x]:List Plc).length<=1000000)/\
  Hid (Row Plc.cells 8 (wr.alloc (.cells #[.string x.m.name,.int .i64 x.m.major,.int .i64 x.m.minor,.string x.m.text,.slice x.m.eA x.m.ex.length x.m.eC,.slice x.m.iA x.m.im.length x.m.iC,.slice x.m.pA x.m.pa.length x.m.pC,.int .i64 x.first] 83)) (some ⟨wr.heap.size,0,none⟩) [x]):=
 ⟨Hp fun o=>World.ownsRow.alloc d o,Hp fun o=>e.alloc c o,Hp fun o=>GY1 c ((GZ4 wr.heap.size wr).alloc (GZ3 _) o).size,Hp (by simp only[List.length_singleton];omega),Hp (KD wr x)⟩
theorem FV (A:Option Addr)(c:Nat)(l:List Plc)(m:Mod)(first:Int)(w:World)(h:aU w A l)(h8:l.length<=100):
  Calls Tryz.prog 108 #[.slice A l.length c,m.v,.int .i64 first] w fun e w'=>(∃A' c',e=.returned (.slice A' (fH l m first).length c')/\aP w' w.heap.size (.slice A' (fH l m first).length c') (fH l m first))/\Below w.heap.size w w':=by
 obtain⟨w0,E⟩:=Nm (w.alloc (.cells #[.string m.name,.int .i64 m.major,.int .i64 m.minor,.string m.text,.slice m.eA m.ex.length m.eC,.slice m.iA m.im.length m.iC,.slice m.pA m.pa.length m.pC] 70))
 obtain⟨f0,f1,f2,f3,f4,f5,f6,hz,O⟩:=wE E
 have H0:=Hp O
 have HZ:=Hp hz
 have HP:=Hp h
 have H:=Hp (And.intro f0 (And.intro f1 (And.intro f2 (And.intro f3 (And.intro f4 (And.intro f5 f6))))))
 have a5:=E.symm
 clear E O hz h f0 f1 f2 f3 f4 f5 f6
 go_enter Tryz.func108,Tryz.ntmps108
 go_wp2_with fail
 go_loopw [7,8,9] (fun v pt i wr=>∃j:Nat,j<=l.length/\i=.int .i64 j/\pt=.bool (jO l m first j).1/\aP wr (w.heap.size+1) v (jO l m first j).2/\Below (w.heap.size+1) w0 wr) (fun _ _ i _=>l.length -(intOf i).toNat)
 case atStart=>exact⟨0,by omega,rfl,rfl,World.ownsRow_nil _ _ _ _,GZ4 _ _⟩
 case round=>
  obtain⟨j,hj,rfl,rfl,o,k⟩:=hrel
  have HB:=Hp k
  have r:Below w.heap.size w wr:=H0.trans (k.mono (by omega))
  have F:w.heap.size+1<=wr.heap.size:=by have:=k.size;have:=HZ.out;omega
  have a:=Ib l m first j
  have n0:=(k.cell (p:=⟨w.heap.size,0,none⟩) (by simp)).trans H.out.1
  have n1:=(k.cell (p:=⟨w.heap.size,1,none⟩) (by simp)).trans H.out.2.1
  have n2:=(k.cell (p:=⟨w.heap.size,2,none⟩) (by simp)).trans H.out.2.2.1
  have n3:=(k.cell (p:=⟨w.heap.size,3,none⟩) (by simp)).trans H.out.2.2.2.1
  have n4:=(k.cell (p:=⟨w.heap.size,4,none⟩) (by simp)).trans H.out.2.2.2.2.1
  have n5:=(k.cell (p:=⟨w.heap.size,5,none⟩) (by simp)).trans H.out.2.2.2.2.2.1
  have n6:=(k.cell (p:=⟨w.heap.size,6,none⟩) (by simp)).trans H.out.2.2.2.2.2.2
  by_cases C:j<l.length
  ·have a6:(j:Int)<l.length:=by omega
   have f:=Hq (m:=m) (first:=first) C
   obtain⟨ad,rfl,a7,p0,p1,p2,p3,p4,p5,p6,p7⟩:=RS HP.row r j C
   obtain⟨y,J⟩:=Nm (l[j]'C)
   simp only[<-J]at p0 p1 p2 p3 p4 p5 p6 p7 f
   obtain⟨T,D⟩:=Nm (jO l m first j)
   rw[<-D]at f o a ⊢
   obtain⟨bp,L⟩:=T
   simp only at f o a ⊢
   have KJ:=Hp (fun W(a2:Below w.heap.size w W)=>J▸RS HP.out.row a2 j C)
   by_cases M:bp=false/\first<y.first
   ·obtain⟨rfl,a1⟩:=M
    rw[if_pos ⟨rfl,a1⟩]at f
    have B:=Hp f
    obtain⟨u,z,s,x,t⟩:=pV o k F ⟨m,first⟩ (by omega)
    have G:=a
    clear o k r f D J
    have U:=Hp (show(L++[(⟨m,first⟩:Plc)]).length<=1000 by rw[GZ8,List.length_singleton];omega)
    have P:=Hp (show w.heap.size+1<=w0.heap.size by have:=HZ.out;omega)
    clear a G
    go_wp2_with (first
     |(at_builtin;refine gN (wr.alloc (.cells #[.string m.name,.int .i64 m.major,.int .i64 m.minor,.string m.text,.slice m.eA m.ex.length m.eC,.slice m.iA m.im.length m.iC,.slice m.pA m.pa.length m.pC,.int .i64 first] 83)) rfl _ _ rfl (w.heap.size+1) u7 L rfl (u.out _) (some ⟨wr.heap.size,0,none⟩) 1 [⟨m,first⟩] rfl t.out x.out (s.out _) ?_;intro Y I b d _;have g:=Hp ((z.out _).trans d);have a0:=GY1 P.out g.size;obtain⟨S,X,Q,V,R⟩:=pV b g.out a0 y U.out;obtain⟨_,ea,_,q0,q1,q2,q3,q4,q5,q6,q7⟩:=KJ.out I (H0.trans (g.mono (Nat.le_succ _)));obtain rfl:=GY3 ea;clear b d)
     |(at_builtin;refine gN (I.alloc (.cells #[.string y.m.name,.int .i64 y.m.major,.int .i64 y.m.minor,.string y.m.text,.slice y.m.eA y.m.ex.length y.m.eC,.slice y.m.iA y.m.im.length y.m.iC,.slice y.m.pA y.m.pa.length y.m.pC,.int .i64 y.first] 83)) rfl _ _ rfl (w.heap.size+1) Y (L++[⟨m,first⟩]) rfl (S.out _) (some ⟨I.heap.size,0,none⟩) 1 [y] rfl R.out V.out (Q.out _) ?_;intro v2 w4 K N _;have a3:=Hp K;have a4:=Hp ((X.out _).trans N);clear K N))
    go_roundw
    case rel=>exact⟨j+1,by omega,by go_num,by rw[B.out],by rw[B.out];exact a3.out,a4.out⟩
    case measure=>(simp[intOf];try omega)
   ·rw[if_neg M]at f
    have B:=Hp f
    obtain⟨u,z,s,x,t⟩:=pV o k F y (by omega)
    cases bp
    ·have hf:¬first<y.first:=fun q=>M ⟨rfl,q⟩
     clear o k r f D J M a
     go_wp2_with (at_builtin;refine gN (wr.alloc (.cells #[.string y.m.name,.int .i64 y.m.major,.int .i64 y.m.minor,.string y.m.text,.slice y.m.eA y.m.ex.length y.m.eC,.slice y.m.iA y.m.im.length y.m.iC,.slice y.m.pA y.m.pa.length y.m.pC,.int .i64 y.first] 83)) rfl _ _ rfl (w.heap.size+1) u7 L rfl (u.out _) (some ⟨wr.heap.size,0,none⟩) 1 [y] rfl t.out x.out (s.out _) ?_;intro Y I b d _;have n:=Hp b;have g:=Hp ((z.out _).trans d);clear b d)
     go_roundw
     case rel=>exact⟨j+1,by omega,by go_num,by rw[B.out],by rw[B.out];exact n.out,g.out⟩
     case measure=>(simp[intOf];try omega)
    ·clear o k r f D J M a
     go_wp2_with (at_builtin;refine gN (wr.alloc (.cells #[.string y.m.name,.int .i64 y.m.major,.int .i64 y.m.minor,.string y.m.text,.slice y.m.eA y.m.ex.length y.m.eC,.slice y.m.iA y.m.im.length y.m.iC,.slice y.m.pA y.m.pa.length y.m.pC,.int .i64 y.first] 83)) rfl _ _ rfl (w.heap.size+1) u7 L rfl (u.out _) (some ⟨wr.heap.size,0,none⟩) 1 [y] rfl t.out x.out (s.out _) ?_;intro Y I b d _;have n:=Hp b;have g:=Hp ((z.out _).trans d);clear b d)
     go_roundw
     case rel=>exact⟨j+1,by omega,by go_num,by rw[B.out],by rw[B.out];exact n.out,g.out⟩
     case measure=>(simp[intOf];try omega)
  ·obtain rfl:j=l.length:=by omega
   have f:=J9 l m first
   obtain⟨T,D⟩:=Nm (jO l m first l.length)
   rw[<-D]at f o a ⊢
   obtain⟨bp,L⟩:=T
   simp only at f o a ⊢
   cases bp
   ·rw[if_pos (by trivial)]at f
    have B:=Hp f
    obtain⟨u,z,s,x,t⟩:=pV o k F ⟨m,first⟩ (by omega)
    clear o k r f D a
    go_wp2_with (at_builtin;refine gN (wr.alloc (.cells #[.string m.name,.int .i64 m.major,.int .i64 m.minor,.string m.text,.slice m.eA m.ex.length m.eC,.slice m.iA m.im.length m.iC,.slice m.pA m.pa.length m.pC,.int .i64 first] 83)) rfl _ _ rfl (w.heap.size+1) u7 L rfl (u.out _) (some ⟨wr.heap.size,0,none⟩) 1 [⟨m,first⟩] rfl t.out x.out (s.out _) ?_;intro Y I b d _;obtain⟨A3,Z,rfl⟩:=bG b;have n:=Hp b;have g:=Hp ((z.out _).trans d);clear b d)
    go_ret
    rw[B.out]
    exact⟨⟨A3,Z,by show Ending.returned (Value.slice A3 (L.length+1) Z)=_;rw[GZ8,List.length_singleton],RH n.out (Nat.le_succ _)⟩,H0.trans (g.mono (Nat.le_succ _))⟩
   ·rw[if_neg (by simp)]at f
    have B:=Hp f
    obtain⟨A3,Z,rfl⟩:=bG o
    have n:=Hp o
    clear o k r f D a
    go_wp2_with fail
    go_ret
    rw[B.out]
    exact⟨⟨A3,Z,rfl,RH n.out (Nat.le_succ _)⟩,H0.trans (HB.mono (Nat.le_succ _))⟩
end
section
open Go.RowKit Go.Lib
def over {α:Type}(L:List α)(o:Nat)(a:List α):List α:=L.take o++a++L.drop (o+a.length)
theorem nL {α:Type}{L:List α}{o:Nat}{a:List α}(h:o+a.length<=L.length):(over L o a).length=L.length:=by
 simp[over];omega
theorem Db {α:Type}{L:List α}{o:Nat}{a:List α}(h:o+a.length<=L.length){k:Nat}(b:k<=o):(over L o a).take k=L.take k:=by
 unfold over
 rw[List.append_assoc,List.take_append_of_le_length (by rw[GY6];omega),List.take_take,Nat.min_eq_left b]
theorem xA {α:Type}{L:List α}{o:Nat}{a:List α}(h:o+a.length<=L.length):(over L o a).take (o+a.length)=L.take o++a:=by
 unfold over
 rw[List.take_append_of_le_length (by rw[GZ8,GY6];omega),List.take_of_length_le (by rw[GZ8,GY6];omega)]
theorem Ke {α:Type}{L:List α}{o:Nat}{a:List α}(h:o+a.length<=L.length):(over L o a).drop o=a++L.drop (o+a.length):=by
 have e:(L.take o).length=o:=by rw[GY6];omega
 unfold over
 rw[List.append_assoc,List.drop_append_of_le_length (by omega),List.drop_eq_nil_of_le (by omega),List.nil_append]
theorem NH {α:Type}{L F Y:List α}{p:Nat}(c:p<=F.length)(d:L.take F.length=F)(e:F.length+Y.length<=L.length):
  (over (over L (p+Y.length) (F.drop p)) p Y).take (F.length+Y.length)=F.take p++Y++F.drop p:=by
 have f:(F.drop p).length=F.length -p:=by rw[List.length_drop]
 have g:(over L (p+Y.length) (F.drop p)).length=L.length:=nL (by omega)
 have b:(over L (p+Y.length) (F.drop p)).take p=F.take p:=by
  rw[Db (by omega) (by omega)]
  have:=congrArg (List.take p) d
  rwa [List.take_take,Nat.min_eq_left c]at this
 have a:(over L (p+Y.length) (F.drop p)).drop (p+Y.length)=F.drop p++L.drop (p+Y.length+(F.drop p).length):=Ke (by omega)
 show(List.take p (over L (p+Y.length) (F.drop p))++Y++List.drop (p+Y.length) (over L (p+Y.length) (F.drop p))).take _=_
 rw[b,a,<-List.append_assoc,List.take_append_of_le_length (by simp;omega),List.take_of_length_le (by simp;omega)]
theorem PR {α:Type}{R F Y:List α}{p:Nat}(b:p<=F.length)(a:R.take p=F.take p)(c:F.length+Y.length<=R.length):
  (over (over R p Y) (p+Y.length) (F.drop p)).take (F.length+Y.length)=F.take p++Y++F.drop p:=by
 have d:(F.drop p).length=F.length -p:=by rw[List.length_drop]
 have f:(over R p Y).length=R.length:=nL (by omega)
 have e:F.length+Y.length=p+Y.length+(F.drop p).length:=by omega
 rw[e,xA (by omega),xA (by omega),a]
theorem NI {α:Type}{L F Z:List α}{p q:Nat}(c:p+q<=F.length)(a:L.take F.length=F)(d:F.length<=L.length)(b:Z.length=q):
  (over (over L p (F.drop (p+q))) (F.length -q) Z).take (F.length -q)=F.take p++F.drop (p+q):=by
 have f:(F.drop (p+q)).length=F.length -(p+q):=by rw[List.length_drop]
 have g:(over L p (F.drop (p+q))).length=L.length:=nL (by omega)
 rw[Db (by omega) (GZ3 _)]
 have e:F.length -q=p+(F.drop (p+q)).length:=by omega
 rw[e,xA (by omega)]
 congr 1
 have:=congrArg (List.take p) a
 rwa [List.take_take,Nat.min_eq_left (by omega)]at this
abbrev spl (a:Array Value)(o:Nat)(b:List Value):Array Value:=(over a.toList o b).toArray
theorem oK {a:Array Value}{o:Nat}{b:List Value}(h:o+b.length<=a.size):(spl a o b).size=a.size:=by
 show(over a.toList o b).toArray.size=_
 rw[List.size_toArray,nL (by simpa using h),Array.length_toList]
theorem Only.row {w:World}{g:Nat}(b:Array Value):Only g w (w.setRow g b):=
 ⟨rfl,rfl,rfl,by simp[World.setRow],fun k _ a=>by simp[World.setRow,Array.getElem?_modify,Ne.symm a]⟩
theorem TU {P:Program}(w:World)(y A z b:TypeId)(g o e q:Nat)(a:Addr)(d h k n:Nat)(c:Array Value)(t:TypeId)(f:List Value)
  (B:P.underlying y=some (.slice b)) (u:(P.info? b).map (·.size)=some k)
  (E:w.heap[g]? =some (.cells c t (0,0))) (C:n=Nat.min d e) (m:f.length=n*k)
  (l:∀j v,f[j]? =some v->w.cell? (a.add j)=some v) (p:o+f.length<=c.size) (F:∀v∈f,v.oneCell'=true):
  (Builtin.copy_ #[y,A] z #[.slice (some ⟨g,o,none⟩) e q,.slice (some a) d h]).run P w=.ok (goInt n) (w.setRow g (spl c o f)):=by
 have x:=run_loadCells_list (P:=P) w a f l
 have r:=run_storeCells_at P g o t f 0 c w E (by simpa using p) F
 rw[m]at x
 cases s:P.info? b with
 |none=>simp[s]at u
 |some i=>
  have D:i.size=k:=by simpa[s]using u
  simp[Builtin.copy_,run_underlying B,Builtin.lenOf,Builtin.firstCells,sizeOf,typeInfo,s,D,<-C,x,r,spl,over]
theorem Fx {P:Program}(w:World)(t e i:TypeId)(z:Value)(l:P.underlying t=some (.slice e))(k:∀w,(zeroValue e).run P w=.ok z w)(g o n c:Nat)(r:0<n)(a:Array Value)(h:TypeId)(b:List Value)
  (j:(Builtin.zeroCells z.cells n).toList=b) (p:w.heap[g]? =some (.cells a h (0,0))) (d:o+b.length<=a.size) (q:∀v∈b,v.oneCell'=true):
  (Builtin.clear_ #[t] i #[.slice (some ⟨g,o,none⟩) n c]).run P w=.ok (.tuple #[]) (w.setRow g (spl a o b)):=by
 have f:=run_storeCells_at P g o h b 0 a w p (by simpa using d) q
 obtain⟨m,rfl⟩:∃m,n=m+1:=⟨n -1,by omega⟩
 simp[Builtin.clear_,run_underlying l,k,j,f,spl,over]
theorem TQ {P:Program}{b:Array Oper}{o:Oper}{a:Act}{w:World}{K:Act->World->Prop}{Q:Exit->Act->World->Prop}{E:Prop}
  (l:o.guard=none) (d x:Operand) (h g:TypeId) (c:o.op=Op.call {callee:=Callee.builtin Builtin.append,args:=#[d,x],argTypes:=#[h,g]})
  (v u:Value) (m:a.eval d=v) (i:a.eval x=u) {f:Value} {e:World} (k:(Builtin.append_ #[h,g] o.type #[v,u]).run P w=.ok f e) (n:K (a.put o.dst f) e):
  if Region.wanted o (yielded b a.tmps)=true then Oper.wp P o a w K Q else E:=by
 have j:Region.wanted o (yielded b a.tmps)=true:=by simp[Region.wanted,l]
 rw[if_pos j]
 unfold Oper.wp
 simp[execOp,c,resolve,invoke,builtin,m,i,k,Result.andThen]
 exact n
theorem lN (x:Plc):x.cells.length=8:=rfl
theorem vJ :∀(l:List Plc)(i:Nat),(l.flatMap Plc.cells).take (i*8)=(l.take i).flatMap Plc.cells
 | [],i=>by simp
 |x::l,0=>by simp
 |x::l,i+1=>by
  rw[List.flatMap_cons,List.take_succ_cons,List.flatMap_cons,List.take_append,lN,List.take_of_length_le (by rw[lN];omega),show(i+1)*8 -8=i*8 by omega,vJ l i]
theorem Ua :∀(l:List Plc)(i:Nat),(l.flatMap Plc.cells).drop (i*8)=(l.drop i).flatMap Plc.cells
 | [],i=>by simp
 |x::l,0=>by simp
 |x::l,i+1=>by
  rw[List.flatMap_cons,List.drop_succ_cons,List.drop_append,lN,List.drop_eq_nil_of_le (by rw[lN];omega),List.nil_append,show(i+1)*8 -8=i*8 by omega,Ua l i]
theorem mK (l:List Plc):(l.flatMap Plc.cells).length=l.length*8:=flat_length (enc:=Plc.cells) (k:=8) (fun _=>rfl) l
theorem Cw {w:World}{b g n c:Nat}{l:List Plc}(h:aP w b (.slice (some ⟨g,0,none⟩) n c) l)(e:n=l.length):∃a:Array Value,b<=g/\w.heap[g]? =some (.cells a 83 (0,0))/\l.length<=c/\c<=maxLen/\a.size=c*8/\a.toList.take (l.length*8)=l.flatMap Plc.cells:=by
 subst e
 rcases h.2 with⟨f,_⟩|⟨r,q,a,d,p,o,m,k,j,i⟩
 ·cases f
 ·injection d with d _ e8;injection d with d;injection d with d;subst d e8
  exact⟨a,p,o,m,k,j,i⟩
theorem oZ {w:World}{b g c n:Nat}{l:List Plc}{a:Array Value}(e:b<=g)(h:w.heap[g]? =some (.cells a 83 (0,0)))(d:n=l.length)(k:l.length<=c)(j:c<=maxLen)(i:a.size=c*8)(f:a.toList.take (l.length*8)=l.flatMap Plc.cells):aP w b (.slice (some ⟨g,0,none⟩) n c) l:=by
 subst d
 exact⟨mK l,.inr ⟨g,c,a,rfl,e,h,k,j,i,f⟩⟩
theorem mH {w:World}{g:Nat}{a:Array Value}{t:TypeId}{F:List Value}{k:Nat}(c:w.heap[g]? =some (.cells a t (0,0)))(hF:a.toList.take k=F):∀j v,F[j]? =some v->w.cell? ⟨g,j,none⟩=some v:=fun j v b=>by
 rw[<-hF,List.getElem?_take]at b
 split at b
 ·simp[World.cell?,c];simpa using b
 ·cases b
end
section
open Go.RowKit
def Run.cells (r:Run):List Value:=[.int .i64 r.first,.int .i64 r.many]
abbrev Run.v (r:Run):Value:=.agg #[.int .i64 r.first,.int .i64 r.many]
abbrev KZ :Value:=.agg #[.int .i64 0,.int .i64 0]
theorem Tryz.Ox :(Tryz.prog.info? 99).map (fun i=>(i.zero,i.size,i.bytes))=some (some KZ,2,16):=by kernel_rfl
def gQ (w:World)(a:Nat)(v:Value)(l:List Run):Prop:=w.ownsRow a 99 2 v l.length (l.flatMap Run.cells)
abbrev xD (w:World)(A:Option Addr)(l:List Run):Prop:=Row Run.cells 2 w A l
theorem vL {w:World}{a size n:Nat}{e:TypeId}{v:Value}{b:List Value}(h:w.ownsRow a e size v n b):∃(A:Option Addr)(c:Nat),v=.slice A n c:=by
 rcases h.2 with⟨rfl,rfl⟩|⟨g,f,d,rfl,_⟩
 ·exact⟨_,_,rfl⟩
 ·exact⟨_,_,rfl⟩
theorem PV {w k:World}{a size n B:Nat}{e:TypeId}{v:Value}{j:List Value}(h:w.ownsRow a e size v n j)(l:Below B w k)(r:w.heap.size<=B):k.ownsRow a e size v n j:=by
 refine⟨h.1,?_⟩
 rcases h.2 with m|⟨g,i,f,q,p,d,o⟩
 ·exact .inl m
 ·refine .inr ⟨g,i,f,q,p,?_,o⟩
  have:g<w.heap.size:=by
   rcases Nat.lt_or_ge g w.heap.size with b|c
   ·exact b
   ·rw[Array.getElem?_eq_none c]at d;cases d
  rw[l.block g (by omega)];exact d
theorem gQ.row {w:World}{a:Nat}{v:Value}{l:List Run}(h:gQ w a v l):∃(A:Option Addr)(c:Nat),v=.slice A l.length c/\xD w A l:=by
 obtain⟨A,c,rfl⟩:=vL h
 exact⟨A,c,rfl,Reads.of_own h⟩
theorem gQ.nil (w:World)(a:Nat):gQ w a (.slice none 0 0) []:=World.ownsRow_nil _ _ _ _
theorem uF (W:World){g:Array Oper}{d:List Oper}{o:Oper}{a:Act}{Q:Exit->Act->World->Prop}(t:o.guard=none)(s x:Operand)
  (C:o.op=.call {callee:=.builtin .append,args:=#[s,x],argTypes:=#[93,93]}) (b:Nat) (v:Value) (l:List Run) (r:Run) (B:a.eval s=v)
  (A:a.eval x=.slice (some ⟨W.heap.size,0,none⟩) 1 1) (i:gQ W b v l) (E:l.length<=1000000) (w:b<=W.heap.size)
  (h:∀k m,gQ m b k (l++[r])->(W.alloc (.cells #[.int .i64 r.first,.int .i64 r.many] 99)).grownBy m v.ownBlock->wpList Tryz.prog g Q d (a.put o.dst k) m):wpList Tryz.prog g Q (o::d) a (W.alloc (.cells #[.int .i64 r.first,.int .i64 r.many] 99)):=by
 obtain⟨z,D,q,p,n⟩:=info_parts Tryz.Ox
 refine wpList_append_own_at (W.alloc (.cells #[.int .i64 r.first,.int .i64 r.many] 99)) t s x 93 C b 99 z KZ 2 16 Tryz.underlying93 D q p n rfl (by decide) v l.length (l.flatMap Run.cells) B (i.alloc _) ⟨W.heap.size,0,none⟩ 1 1 r.cells A rfl
  ?_ (by intro u c;simp only[Run.cells,List.mem_cons,List.not_mem_nil,or_false]at c;rcases c with rfl|rfl<;>rfl) (by simp only[maxLen];omega) (by omega) (by simp;omega) ?_
 ·intro j u c
  match j,c with
  |0,c=>simp only[Run.cells,GZ0,Option.some.injEq]at c;subst c;rw[add_zero_,World.cell?_alloc_new];rfl
  |1,c=>simp only[Run.cells,GZ1,GZ0,Option.some.injEq]at c;subst c;rw[add_pos_ _ _ (by omega)];simp only[Nat.zero_add];rw[World.cell?_alloc_new];rfl
  |j+2,c=>simp[Run.cells]at c
 intro k y e f _ _
 refine h k y ?_ f
 unfold gQ
 simpa using e
structure Te (w w':World)(b:Nat)(row:Option Nat):Prop where
 os:w'.os=w.os
 tape:w'.tape=w.tape
 output:w'.output=w.output
 size:w.heap.size<=w'.heap.size
 block:∀k,k<w.heap.size->k≠b->some k≠row->w'.heap[k]? =w.heap[k]?
theorem KQ (b:Nat)(at_ e:Int)(v:Value)(l:List Run)(w:World)(m:Boxed w b 93 v)(n:Boxed w (b+1) 3 (.int .i64 at_))(j:gQ w (b+2) v l)(O:l.length<=100)(S:0<=at_)(R:at_<=16)(Q:0<=e)(P:e<=16):
  Calls Tryz.prog 202 #[.int .i64 e,.pointer (some ⟨b+1,0,none⟩),.pointer (some ⟨b,0,none⟩)] w fun G p=>(∃u,G=.returned u)/\
   ∃o,Boxed p b 93 o/\gQ p (b+2) o (l++Rb at_ e)/\Te w p b v.ownBlock:=by
 have U:=n.cell
 have T:=n.frozen
 have N:=m.cell
 have M:=m.frozen
 have E:=n.lt
 have B:=Hp m
 have z:=Hp j
 obtain⟨A,c,rfl⟩:=vL j
 have d:=j.lt
 have J:IntKind.i64.wrap (e -at_)=e -at_:=IntWalk.i64_in _ (by omega)
 by_cases q:at_<e
 ·have x:=Hp (show Rb at_ e=[⟨at_,e -at_⟩] by unfold Rb;rw[if_pos q])
  have I:=Hp d
  clear m n j d
  go_enter Tryz.func202,Tryz.ntmps202
  go_wp2_with (at_builtin;refine uF w rfl _ _ rfl (b+2) (.slice A l.length c) l ⟨at_,e -at_⟩ rfl rfl z.out (by omega) (by omega) ?_;intro o C f a;obtain⟨g,H,rfl⟩:=ownsRow_succ (show C.ownsRow (b+2) _ 2 o (l.length+1) _ by have h:=f;unfold gQ at h;simpa using h);have r:some b≠(Value.slice A l.length c).ownBlock:=(fun h=>by have:=(I.out b h.symm).1;omega);have i:=(B.alloc (.cells #[.int .i64 at_,.int .i64 (e -at_)] 99)).kept a r;have L:=i.cell;have K:=i.frozen;have y:=i.lt)
  go_end0
  refine⟨⟨_,rfl⟩,_,i.set _,?_,?_⟩
  ·rw[x.out]
   exact ownsRow_setCell_below f (by simp) _
  ·refine⟨a.os,a.tape,a.output,?_,fun k F t s=>?_⟩
   ·have:=a.size;simp at this ⊢;omega
   ·rw[Below.heap_setCell _ _ _ _ t,a.block k (by simp;omega) s,Below.heap_alloc _ _ _ F]
 ·have x:=Hp (show Rb at_ e=[] by unfold Rb;rw[if_neg q])
  have D:decide (at_<e)=false:=by simp;omega
  clear m n j d q
  go_enter Tryz.func202,Tryz.ntmps202
  go_wp2_with fail
  go_end0
  refine⟨⟨_,rfl⟩,_,B.out,?_,⟨rfl,rfl,rfl,GZ3 _,fun k _ _ _=>rfl⟩⟩
  rw[x.out,List.append_nil];exact z.out
theorem iY :∀(l:List Plc)(a:Int),(dC a l).length<=l.length+1
 | [],a=>by unfold dC Rb;split<;>simp
 |x::l,a=>by
  have c:=iY l (aR x)
  have b:(Rb a x.first).length<=1:=by unfold Rb;split<;>simp
  rw[dC,GZ8,GY8]
  omega
theorem LF {l:List Plc}{j:Nat}(h:j<l.length)(a:Int):dC a (l.drop j)=Rb a l[j].first++dC (aR l[j]) (l.drop (j+1)):=by
 rw[GY4 h];rfl
theorem MR {l:List Plc}{j:Nat}(h:¬j<l.length)(a:Int):dC a (l.drop j)=Rb a 16:=by
 rw[List.drop_eq_nil_of_le (by omega)];rfl
theorem Te.below {w w':World}{b B:Nat}{row:Option Nat}(h:Te w w' b row)(d:B<=b)(f:B<=w.heap.size)(a:∀g,row=some g->B<=g):Below B w w':=
 ⟨h.os,h.tape,h.output,h.size,fun k c=>h.block k (by omega) (by omega) (fun e=>by have:=a k e.symm;omega)⟩
theorem Te.cell {w a:World}{b:Nat}{row:Option Nat}(h:Te w a b row){p:Addr}(e:p.block<w.heap.size)(d:p.block≠b)(c:some p.block≠row):a.cell? p=w.cell? p:=World.cell?_of_block (h.block _ e d c)
theorem Te.at_ {w a:World}{b:Nat}{row:Option Nat}(h:Te w a b row)(c o:Nat)(f:c<w.heap.size)(e:c≠b)(d:some c≠row):a.cell? ⟨c,o,none⟩=w.cell? ⟨c,o,none⟩:=h.cell f e d
theorem Te.box {w c:World}{b a:Nat}{t:TypeId}{v:Value}{row:Option Nat}(h:Te w c b row)(d:Boxed w a t v)(f:a≠b)(e:some a≠row):Boxed c a t v:=(h.block _ d.lt f e).trans d
theorem dX {w a:World}{b B:Nat}{t:TypeId}{v:Value}(c:Boxed w b t v)(h:Below B w a)(d:b<B):Boxed a b t v:=(h.block _ d).trans c
theorem Hm (A:Option Addr)(c:Nat)(l:List Plc)(w:World)(h:aU w A l)(hr:RY l=0):
  Calls Tryz.prog 138 #[.slice A l.length c] w fun e w'=>(∃(A':Option Addr)(c':Nat),e=.returned (.slice A' (RI l).length c')/\xD w' A' (RI l))/\Below w.heap.size w w':=by
 obtain⟨h8,s,a1⟩:=cZ hr
 have P:=Hp (show∀x∈l,x.m.text.size<=256/\0<=x.first/\x.first<=16/\0<=aR x/\aR x<=16 from fun x hx=>by
  obtain⟨B,h2⟩:=s x hx
  have h3:=gK B
  simp only[kE,Bool.and_eq_true,decide_eq_true_eq]at h2
  unfold aR
  exact⟨(aY B).2.2.1,by omega⟩)
 have HP:=Hp h
 have HS:=Hp (show(RI l).length<=9 by have:=iY l 0;unfold RI;omega)
 obtain⟨R,hR⟩:=Nm (RI l)
 rw[<-hR]at HS ⊢
 have HR:=Hp hR
 clear h hr s a1 hR
 obtain⟨z,n⟩:∃z,z=(w.alloc (.cells #[.slice none 0 0] 93)).alloc (.cells #[.int .i64 0] 3):=⟨_,rfl⟩
 have Z:z.heap.size=w.heap.size+1+1:=by subst n;simp
 have I:Boxed z w.heap.size 93 (.slice none 0 0):=by subst n;exact(Boxed.new _ _ _).alloc _
 have L:Boxed z (w.heap.size+1) 3 (.int .i64 0):=by
  subst n
  have:=Boxed.new (w.alloc (.cells #[.slice none 0 0] 93)) 3 (.int .i64 0)
  simpa using this
 have J:Below w.heap.size w z:=by subst n;exact(ZB).alloc (by simp) _
 subst n
 have a2:=Hp I
 have a9:=Hp L
 have a7:=Hp J
 clear I L J Z
 go_enter Tryz.func138,Tryz.ntmps138
 go_wp2_with fail
 go_loopw [11] (fun i wr=>∃(j:Nat)(a:Int)(v:Value)(d:List Run),j<=l.length/\i=.int .i64 j/\Boxed wr w.heap.size 93 v/\Boxed wr (w.heap.size+1) 3 (.int .i64 a)/\gQ wr (w.heap.size+2) v d/\d++dC a (l.drop j)=R/\0<=a/\a<=16/\Below w.heap.size w wr) (fun i _=>l.length -(intOf i).toNat)
 case atStart=>exact⟨0,0,_,[],by omega,rfl,a2.out,a9.out,gQ.nil _ _,HR.symm,by omega,by omega,a7.out⟩
 case round=>
  obtain⟨j,a,v,d,hj,rfl,hO,hA,Q,hE,H,G,S⟩:=hrel
  have HE:=Hp hE
  have HB:=Hp S
  have HO:=Hp hO
  have HA:=Hp hA
  have HV:=Hp Q
  have b4:d.length<=9:=by have B:=HS.out;rw[<-hE,GZ8]at B;omega
  have b6:=hA.lt
  obtain⟨vA,vc,rfl⟩:=vL Q
  have V:=Hp Q.lt
  clear hE hO hA Q
  by_cases o:j<l.length
  ·have b1:(j:Int)<l.length:=by omega
   obtain⟨ad,rfl,b5,h0,B,h2,h3,h4,h5,h6,h7⟩:=RS HP.row S j o
   have a0:=S.size
   have M:=Hp ((congrArg (d++ ·) (LF o a).symm).trans HE.out)
   obtain⟨f1,U,T,f4,f5⟩:=P.out (l[j]'o) (GZ9 _)
   obtain⟨y,hy⟩:=Nm (l[j]'o)
   rw[<-hy]at f1 U T f4 f5 h0 B h2 h3 h4 h5 h6 h7 M
   clear hy
   obtain⟨X,k⟩:=Nm (wr.alloc (.cells #[.string y.m.name,.int .i64 y.m.major,.int .i64 y.m.minor,.string y.m.text,.slice y.m.eA y.m.ex.length y.m.eC,.slice y.m.iA y.m.im.length y.m.iC,.slice y.m.pA y.m.pa.length y.m.pC,.int .i64 y.first] 83))
   obtain⟨x0,x1,x2,x3,x4,x5,x6,x7,b2,F⟩:=zH k
   have b0:=k.symm
   have cG:=Hp (KQ w.heap.size a y.first _ d X (k▸HO.out.alloc _) (k▸HA.out.alloc _) (k▸HV.out.alloc _) (by omega) H G U T)
   have cE:=Hp (fun W=>zR y W f1 U T)
   have a8:=Hp (show Boxed X (w.heap.size+1) 3 (.int .i64 a) from k▸HA.out.alloc _)
   have a5:=Hp (show Below w.heap.size w X from S.trans (F.mono a0))
   obtain⟨N,hN⟩:=Nm (aR y)
   rw[<-hN]at f4 f5 cE M
   clear k F hN f1 U T
   go_wp2_with (first|(go_at_call 202;refine(cG.out).mono ?_;rintro e w2 ⟨⟨u,rfl⟩,v',r,q,b⟩;have Y:=b.size;have f:some wr.heap.size≠(Value.slice vA d.length vc).ownBlock:=(fun h=>by have:=(V.out wr.heap.size h.symm).2;omega);have D:some (w.heap.size+1)≠(Value.slice vA d.length vc).ownBlock:=(fun h=>by have:=(V.out (w.heap.size+1) h.symm).1;omega);have K:=Hp (b.box a8.out (by omega) D);have k0:=(b.at_ wr.heap.size 0 (by omega) (by omega) f).trans x0;have k1:=(b.at_ wr.heap.size 1 (by omega) (by omega) f).trans x1;have k2:=(b.at_ wr.heap.size 2 (by omega) (by omega) f).trans x2;have k3:=(b.at_ wr.heap.size 3 (by omega) (by omega) f).trans x3;have k4:=(b.at_ wr.heap.size 4 (by omega) (by omega) f).trans x4;have k5:=(b.at_ wr.heap.size 5 (by omega) (by omega) f).trans x5;have k6:=(b.at_ wr.heap.size 6 (by omega) (by omega) f).trans x6;have k7:=(b.at_ wr.heap.size 7 (by omega) (by omega) f).trans x7;have a4:=Hp b)|(go_at_call 91;refine(cE.out _).mono ?_;rintro e w3 ⟨rfl,p⟩;have b3:=p.size;have t:=dX K.out p K.lt;have p0:=t.cell;have p1:=t.frozen))
   go_roundw
   case rel=>
    refine⟨j+1,N,v',d++Rb a y.first,by omega,by go_num,(dX r p r.lt).kept (grownBy_setCell' _ _ _) (by simp),t.set _,ownsRow_setCell_below (PV q p (GZ3 _)) (by simp) _,by rw[List.append_assoc];exact M.out,f4,f5,?_⟩
    exact((a5.trans (a4.below (GZ3 _) (by omega) (fun g E=>by have:=(V.out g E).1;omega))).trans (p.mono (by omega))).setCell (by simp) _
   case measure=>(simp[intOf];try omega)
  ·have M:=Hp ((congrArg (d++ ·) (MR o a).symm).trans HE.out)
   have cG:=Hp (KQ w.heap.size a 16 _ d wr HO.out HA.out HV.out (by omega) H G (by omega) (by omega))
   have a3:=Hp (fun g E=>(V.out g E).1)
   go_wp2_with (first|(go_at_call 202;refine(cG.out).mono ?_;rintro e w2 ⟨⟨u,rfl⟩,v',r,q,b⟩;have Y:=b.size;have o0:=r.cell;have a6:=Hp (HB.trans (b.below (GZ3 _) (by omega) (fun g E=>by have:=a3.out g E;omega)));rw[show d++Rb a 16=R from M.out]at q;obtain⟨A',c',rfl,C⟩:=gQ.row q;have O:=Hp C))
   go_ret
   exact⟨⟨_,_,rfl,O.out⟩,a6.out⟩
end
section
open Go.RowKit
theorem JN {w c:World}{A:Option Addr}{l:List Run}(h:Row Run.cells 2 w A l)(e:Below w.heap.size w c)(i:Nat)(o:i<l.length):
  ∃a,A=some a/\a.block<w.heap.size/\c.cell? (a.add (i*2))=some (iv l[i].first)/\c.cell? ⟨(a.add (i*2)).block,(a.add (i*2)).off+1,none⟩=some (iv l[i].many):=by
 obtain⟨a,rfl,b,d⟩:=Row.at_ (enc:=Run.cells) (k:=2) (fun _=>rfl) h i o
 have f:=d 0 _ rfl
 rw[add_zero_]at f
 have m:∀j u,0<j->(Run.cells l[i])[j]? =some u->c.cell? ⟨(a.add (i*2)).block,(a.add (i*2)).off+j,none⟩=some u:=fun j u n g=>by
  rw[<-add_pos_ _ _ n]
  exact(e.cell (by rw[aA,aA];exact b)).trans (d j u g)
 exact⟨a,rfl,b,(e.cell (by rw[aA];exact b)).trans f,m 1 _ (by omega) rfl⟩
theorem Ae (A:Option Addr)(c:Nat)(l:List Run)(g:Nat)(s:Array Value)(q:Run->Bool)(w:World)(O:∀b w,(callFunc g b).run Tryz.prog w=.ok (.enter g b) w)(h:Row Run.cells 2 w A l)(G:l.length<=big)
  (B:∀x∈l,∀W,Below w.heap.size w W->Calls Tryz.prog g (#[x.v]++s) W fun e m=>e=.returned (.bool (q x))/\Below W.heap.size W m):
  Calls Tryz.prog 238 #[.slice A l.length c,.func (.func g) #[] s] w fun e m=>e=.returned (.int .i64 (idxOf q l))/\Below w.heap.size w m:=by
 unfold big at G
 have K:=Hp h
 have J:=Hp B
 clear h B
 go_enter Tryz.func238,Tryz.ntmps238
 go_wp2_with fail
 go_loopw [8] (fun i wr=>∃j:Nat,j<=l.length/\i=.int .i64 j/\(∀k(o:k<l.length),k<j->q l[k]=false)/\Below w.heap.size w wr) (fun i _=>l.length -(intOf i).toNat)
 case atStart=>exact⟨0,by omega,rfl,by omega,GZ4 _ _⟩
 case round=>
  obtain⟨j,L,rfl,D,p⟩:=hrel
  have z:=Hp D
  have r:=Hp p
  clear D
  by_cases a:j<l.length
  ·have C:(j:Int)<l.length:=by omega
   obtain⟨P,rfl,H,N,M⟩:=JN K.out p j a
   have F:=p.size
   have y:=Hp (show Calls Tryz.prog g (#[(l[j]'a).v]++s) wr fun e m=>e=.returned (.bool (q (l[j]'a)))/\Below wr.heap.size wr m from J.out (l[j]'a) (GZ9 _) wr r.out)
   obtain⟨I,d⟩:=Nm (q (l[j]'a))
   rw[<-d]at y
   have n:=Hp d
   clear d p
   cases I
   ·go_wp2_with (go_at_fn g;refine(y.out).mono ?_;rintro e E ⟨rfl,f⟩)
    go_roundw
    case rel=>exact⟨j+1,by omega,by go_num,fun k o t=>by rcases Nat.lt_succ_iff_lt_or_eq.1 t with h|rfl;exact z.out k o h;exact n.symm,r.trans (f.mono (by omega))⟩
    case measure=>(simp[intOf];try omega)
   ·have u:=Hp (fJ a z.out n.symm)
    go_wp2_with (go_at_fn g;refine(y.out).mono ?_;rintro e E ⟨rfl,f⟩)
    go_ret
    exact⟨aC u.symm,r.trans (f.mono (by omega))⟩
  ·have u:=Hp (gT (q:=q) (l:=l) (fun k o=>z.out k o (by omega)))
   go_wp2_with fail
   go_ret
   exact⟨aC u.symm,r.out⟩
def GI (many:Int)(r:Run):Bool:=decide (many<=r.many)
theorem Na (r:Run)(many:Int)(b:Nat)(w:World)(d:w.cell? ⟨b,0,none⟩=some (.int .i64 many))(f:b<w.heap.size):
  Calls Tryz.prog 239 #[r.v,.pointer (some ⟨b,0,none⟩)] w fun e a=>e=.returned (.bool (GI many r))/\Below w.heap.size w a:=by
 have c:b≠w.heap.size:=by omega
 have e:decide (many<=r.many)=GI many r:=rfl
 go_enter Tryz.func239,Tryz.ntmps239
 go_wp2_with fail
 go_ret
 exact⟨aV (by first|exact e|rfl),ZB⟩
theorem MF (many:Int)(l:List Run):(idxOf (GI many) l= -1/\fM many l= -1)\/∃j,∃h:j<l.length,idxOf (GI many) l=j/\fM many l=l[j].first:=by
 rcases gW (GI many) l with⟨b,a⟩|⟨j,c,b,a⟩
 ·exact .inl ⟨b,by unfold fM;rw[show(fun r:Run=>decide (many<=r.many))=GI many from rfl,a]⟩
 ·exact .inr ⟨j,c,b,by unfold fM;rw[show(fun r:Run=>decide (many<=r.many))=GI many from rfl,a]⟩
theorem PU (A:Option Addr)(c:Nat)(l:List Plc)(many:Int)(w:World)(h:aU w A l)(t:RY l=0):
  Calls Tryz.prog 190 #[.slice A l.length c,.int .i64 many] w fun e G=>e=.returned (.int .i64 (fM many (RI l)))/\Below w.heap.size w G:=by
 obtain⟨i,d⟩:=Nm (w.alloc (.cells #[.int .i64 many] 3))
 have k:Boxed i w.heap.size 3 (.int .i64 many):=d▸Boxed.new _ _ _
 have H:i.heap.size=w.heap.size+1:=by subst d;simp
 have g:Below w.heap.size w i:=by subst d;exact ZB
 have z:=d.symm
 have N:=Hp k
 have D:=Hp g
 have C:=Hp (show(RI l).length<=9 by have:=iY l 0;have:=(cZ t).1;unfold RI;omega)
 have v:=Hp (Hm A c l i (h.below g) t)
 have p:=Hp (MF many (RI l))
 obtain⟨R,B⟩:=Nm (RI l)
 rw[<-B]at v p C ⊢
 have q:=Hp (fun s y W(u:Below i.heap.size i W)(a:xD W s R)=>Ae s y R 239 #[.pointer (some ⟨w.heap.size,0,none⟩)] (GI many) W (enters_of Tryz.func239 (by kernel_rfl) rfl) a (by have:=C.out;unfold big;omega)
  (fun x _ M m=>Na x many w.heap.size M (dX (dX N.out u (by omega)) m (by have:=u.size;omega)).cell (by have:=u.size;have:=m.size;omega)))
 clear d k g h t B
 rcases p.out with⟨o,n⟩|⟨j,K,o,n⟩
 ·rw[o]at q
  rw[n]
  clear o n p
  go_enter Tryz.func190,Tryz.ntmps190
  go_wp2_with (first|(go_at_call 138;refine(v.out).mono ?_;rintro e F ⟨⟨s,y,rfl,a⟩,b⟩;have r:=Hp a;clear a)|(go_at_call 238;refine(q.out _ _ _ b r.out).mono ?_;rintro e E ⟨rfl,f⟩))
  go_ret
  exact⟨rfl,D.trans ((b.mono (by omega)).trans (f.mono (by have:=b.size;omega)))⟩
 ·rw[o]at q
  rw[n]
  have J:(j:Int)<R.length:=by omega
  have I:(0:Int)<=j:=by omega
  clear o n p
  go_enter Tryz.func190,Tryz.ntmps190
  go_wp2_with (first|(go_at_call 138;refine(v.out).mono ?_;rintro e F ⟨⟨s,y,rfl,a⟩,b⟩;have r:=Hp a;clear a)|(go_at_call 238;refine(q.out _ _ _ b r.out).mono ?_;rintro e E ⟨rfl,f⟩;obtain⟨Q,rfl,L,P,O⟩:=JN r.out f j K))
  go_ret
  exact⟨rfl,D.trans ((b.mono (by omega)).trans (f.mono (by have:=b.size;omega)))⟩
end
end Go.Proofs.YtjiedaialianmaaGreat
