import Derived.Test.YtjiedaialianmaaGreatA25
import Derived.Test.YtjiedaialianmaaGreatCPlays04
import Derived.Test.YtjiedaialianmaaGreatCPlays07
set_option maxRecDepth 100000
set_option maxHeartbeats 8000000
namespace Go.Proofs.YtjiedaialianmaaGreat
section
open Go
open Gs (Tx)
theorem NV {k:Krn}{l:List Plc}(h:aZ k l=0):(txs l).Nodup:=xE (dM (Sz h).1).2.2.1
theorem Mm {l:List Plc}{d:ByteArray}{j:Nat}(f:(txs l).Nodup)(h:idxOf (named d) l=j):oN l d=(List.range l.length).any (fun i=>kV l i j):=by
 obtain⟨e,k,_⟩:=U5 h
 have b:tx d=nmN l j:=by rw[Sq e,k]
 rw[Bool.eq_iff_iff]
 unfold oN
 rw[List.any_eq_true,List.any_eq_true]
 constructor
 ·rintro⟨x,g,c⟩
  obtain⟨i,a,rfl⟩:=List.getElem_of_mem g
  refine⟨i,List.mem_range.2 a,?_⟩
  rw[<-Sq a,b,Jm f i j a e]at c
  exact c
 ·rintro⟨i,a,c⟩
  have a:=List.mem_range.1 a
  refine⟨l[i],GZ9 a,?_⟩
  rw[<-Sq a,b,Jm f i j a e]
  exact c
end
section
open Go
open Go.ChangeShapes Go.WideShapes Go.ChangeAt Go.RowKit Go.Deep
section
variable {H:Type} {enc:TypeId×Value->H} {w:World} {base:Nat} {spare:Nat->Bool} {held:Bool} {n:Nat} {c:Value} {cs:List Value} {y:DataW H×List MemPlace}
theorem KO (C:cs.length=9)(h:DataW.trod enc Tryz.prog w base spare held n 102 cs=some y)(hF:Fits Tryz.prog 102 y.1):∃x:Cm,cs=x.cells/\x.m.ok w/\x.nm.size<=big:=by
 obtain⟨d,e,_,rfl,_,k,l⟩:=DataW.trod_struct Tryz.underlying102 h
 have o:DataW.trod enc Tryz.prog w base spare held e 3 ((cs.drop 0).take (Tryz.prog.cellsOf 3))=d[0]?:=l 0 _ rfl
 have u:DataW.trod enc Tryz.prog w base spare held e 70 ((cs.drop 1).take (Tryz.prog.cellsOf 70))=d[1]?:=l 1 _ rfl
 have t:DataW.trod enc Tryz.prog w base spare held e 9 ((cs.drop 8).take 1)=d[2]?:=l 2 _ rfl
 rw[Tryz.Ff]at o
 rw[Tryz.yZ]at u
 obtain⟨r,q,p,rfl⟩:∃r q p,d=[r,q,p]:=by
  match d,k with| [a,b,c],_=>exact⟨a,b,c,rfl⟩
 obtain⟨m,B,g⟩:=GZ (by simp[C]) u (oW Tryz.underlying102 hF (j:=1) rfl rfl)
 rw[lL cs 0 (by omega)]at o
 rw[lL cs 8 (by omega)]at t
 obtain⟨z,v⟩:=SI o
 obtain⟨s,A,f⟩:=nD t
 refine⟨⟨z,m,s⟩,?_,g,f (oW Tryz.underlying102 hF (j:=2) rfl rfl)⟩
 have E:cs=cs[0]::cs.drop 1:=by rw[<-GY4 (by omega),List.drop_zero]
 have D:cs.drop 1=(cs.drop 1).take 7++cs.drop 8:=by
  conv=>lhs;rw[<-List.take_append_drop 7 (cs.drop 1)]
  rw[List.drop_drop]
 rw[E,D,B,v,GY4 (i:=8) (by omega),A,List.drop_eq_nil_of_le (by omega)]
 rfl
theorem NY (h:DataW.trod enc Tryz.prog w base spare held n 25 [c]=some y)(hF:Fits Tryz.prog 25 y.1):∃(A:Option Addr)(l:List Cm)(a:Nat),c=.slice A l.length a/\nE w A l:=by
 obtain⟨A,l,a,e,j,i,g⟩:=open_row Cm.cells 9 (fun _=>rfl) (by omega) (fun x=>x.m.ok w/\x.nm.size<=big) Tryz.underlying25 (by decide+kernel) (by kernel_rfl) (fun _ _ _ d b f=>KO d b f) h hF
 exact⟨A,l,a,e,g,j,i⟩
end
section
variable {H:Type} {enc:TypeId×Value->H} {w:World} {base:Nat} {spare:Nat->Bool} {held:Bool} {r:Reach} {b0:Nat} {v:Value} {d:DataW H} {p:List MemPlace}
theorem UD (g:Value.okWide Tryz.prog w r b0 25 v)(h:DataW.Trod enc Tryz.prog w base spare held 25 v d p)(hF:Fits Tryz.prog 25 d):
  ∃(A:Option Addr)(l:List Cm)(b:Nat),v=.slice A l.length b/\nE w A l:=by
 obtain⟨a,e,b,rfl⟩:=okWide_slice Tryz.underlying25 g
 obtain⟨f,i⟩:=h
 exact NY (c:=.slice a e b) i hF
end
end
section
open Go
open Go.RowKit Go.Lib
def Did (w:World)(a f:Nat)(k:Krn)(E:Int)(L:List Plc)(e:Ending)(b:World):Prop:=
 e=.returned (.int .i64 E)/\(∃d h c g,jR b a f d h c g/\d.bare=k.bare/\aD c=aD L)/\Only f w b
end
section
open Go
open Go.RowKit Go.Lib
theorem Jv {w b:World}{A:Option Addr}{l:List Cm}(h:Row Cm.cells 9 w A l)(f:Below w.heap.size w b)(i:Nat)(p:i<l.length):
  ∃a,A=some a/\a.block<w.heap.size/\b.cell? (a.add (i*9))=some (iv l[i].kind)/\b.cell? ⟨(a.add (i*9)).block,(a.add (i*9)).off+1,none⟩=some (.string l[i].m.name)/\b.cell? ⟨(a.add (i*9)).block,(a.add (i*9)).off+2,none⟩=some (iv l[i].m.major)/\b.cell? ⟨(a.add (i*9)).block,(a.add (i*9)).off+3,none⟩=some (iv l[i].m.minor)/\b.cell? ⟨(a.add (i*9)).block,(a.add (i*9)).off+4,none⟩=some (.string l[i].m.text)/\b.cell? ⟨(a.add (i*9)).block,(a.add (i*9)).off+5,none⟩=some (.slice l[i].m.eA l[i].m.ex.length l[i].m.eC)/\b.cell? ⟨(a.add (i*9)).block,(a.add (i*9)).off+6,none⟩=some (.slice l[i].m.iA l[i].m.im.length l[i].m.iC)/\b.cell? ⟨(a.add (i*9)).block,(a.add (i*9)).off+7,none⟩=some (.slice l[i].m.pA l[i].m.pa.length l[i].m.pC)/\b.cell? ⟨(a.add (i*9)).block,(a.add (i*9)).off+8,none⟩=some (.string l[i].nm):=by
 obtain⟨a,rfl,d,e⟩:=Row.at_ (enc:=Cm.cells) (k:=9) (fun _=>rfl) h i p
 have g:=e 0 _ rfl
 rw[add_zero_]at g
 have c:∀j u,0<j->(Cm.cells l[i])[j]? =some u->b.cell? ⟨(a.add (i*9)).block,(a.add (i*9)).off+j,none⟩=some u:=fun j u o n=>by
  rw[<-add_pos_ _ _ o]
  exact(f.cell (by rw[aA,aA];exact d)).trans (e j u n)
 exact⟨a,rfl,d,(f.cell (by rw[aA];exact d)).trans g,c 1 _ (by omega) rfl,c 2 _ (by omega) rfl,c 3 _ (by omega) rfl,c 4 _ (by omega) rfl,c 5 _ (by omega) rfl,c 6 _ (by omega) rfl,c 7 _ (by omega) rfl,c 8 _ (by omega) rfl⟩
theorem DN (A:Option Addr)(c:Nat)(l:List Cm)(g:Nat)(X:Array Value)(I:Nat->World->Prop)(S:World->Prop)(w:World)
  (eg:∀k w,(callFunc g k).run Tryz.prog w=.ok (.enter g k) w) (o:l.length<=big)
  (f:∀j W,I j W->Row Cm.cells 9 W A l) (h:∀j W W',I j W->Below W.heap.size W W'->I j W')
  (a:∀(j:Nat)(hj:j<l.length)(W:World),I j W->Calls Tryz.prog g (#[(l[j]).v]++X) W fun e n=>(e=.returned (.bool true)/\I (j+1) n)\/(e=.returned (.bool false)/\S n))
  (h0:I 0 w):Calls Tryz.prog 78 #[.slice A l.length c,.func (.func g) #[] X] w fun e n=>(∃u,e=.returned u)/\(I l.length n\/S n):=by
 have r:=Hp f
 have t:=Hp h
 have L:=Hp a
 have H0:=Hp h0
 unfold big at o
 clear f h a h0
 go_enter Tryz.func78,Tryz.ntmps78
 go_wp2_with fail
 go_loopw [8] (fun i wr=>∃j:Nat,i=.int .i64 j/\j<=l.length/\I j wr) (fun i _=>l.length -(intOf i).toNat)
 case atStart=>exact⟨0,rfl,Nat.zero_le _,H0.out⟩
 case round=>
  obtain⟨j,rfl,hj,hI⟩:=hrel
  have s:=Hp hI
  clear hI
  by_cases m:j<l.length
  ·have Z:(j:Int)<l.length:=by omega
   obtain⟨ad,rfl,a1,J,H,G,F,E,D,C,B,z⟩:=Jv (r.out _ _ s.out) (GZ4 _ _) j m
   obtain⟨y,Y⟩:=Nm (l[j]'m)
   obtain⟨K,d⟩:=Nm (wr.alloc (.cells (cmA y) 102))
   have p:=t.out j wr K s.out (d▸ZB)
   have x:=Hp (L.out j m K p)
   simp only[<-Y]at J H G F E D C B z x
   have a0:=d.symm
   obtain⟨V,U,T,R,Q,P,O,N,M⟩:=dJ (W:=K) (b:=wr.heap.size) (c:=y) (by rw[d];exact heap_alloc_new wr _)
   clear Y p d
   go_wp2_with fail
   refine(x.out).mono ?_
   rintro e w3 (⟨rfl,q⟩|⟨rfl,q⟩)
   ·have I3:=Hp q
    clear q x s J H G F E D C B z V U T R Q P O N M
    go_wp2_with fail
    go_roundw
    case rel=>exact⟨j+1,by go_num,by omega,I3.out⟩
    case measure=>(simp[intOf];try omega)
   ·have S3:=Hp q
    clear q x s J H G F E D C B z V U T R Q P O N M
    go_wp2_with fail
    exact bodyPost_ret (results_none rfl _ _ _) rfl ⟨⟨_,rfl⟩,.inr S3.out⟩
  ·obtain rfl:j=l.length:=by omega
   go_wp2_with fail
   go_end0
   exact⟨⟨_,rfl⟩,.inl s.out⟩
end
section
open Go.RowKit Go.Lib
theorem Eh (k:Krn)(A:Option Addr)(c:Nat)(l:List Plc)(n:ByteArray)(w:World)(hk:k.ok w)(h:aU w A l)(a2:aZ k l=0):
  Calls Tryz.prog 40 #[rgV k A l c,.string n] w (Ez w (kP k ⟨2,jB,n⟩ l) k (Rc l n)):=by
 obtain⟨w0,C⟩:=Nm (w.alloc (.cells #[.int .i64 k.major,.int .i64 k.minor,.slice k.eA k.ex.length k.eC,.slice A l.length c] 39))
 have a4:Below w.heap.size w w0:=C▸ZB
 have c8:w0.heap.size=w.heap.size+1:=by rw[C];simp
 have c0:w0.heap[w.heap.size]? =some (.cells #[.int .i64 k.major,.int .i64 k.minor,.slice k.eA k.ex.length k.eC,.slice A l.length c] 39 (0,0)):=by rw[C];exact heap_alloc_new w _
 obtain⟨y0,K⟩:=Nm (w0.alloc (.cells #[.int .i64 0,.int .i64 0,.slice none 0 0,.slice none 0 0] 39))
 have a3:Below w0.heap.size w0 y0:=K▸ZB
 have b3:=Hp ((a3.block w.heap.size (by omega)).trans c0)
 have b1:=Hp (show y0.heap[w.heap.size+1]? =some (.cells #[.int .i64 0,.int .i64 0,.slice none 0 0,.slice none 0 0] 39 (0,0)) by rw[K,<-c8];exact heap_alloc_new w0 _)
 have g:=Hp (a4.trans (a3.mono a4.size))
 obtain⟨_,k0,k1,k2,k3,_⟩:=aB b3.out
 have R:=Et a2
 have h8:=(cZ R).1
 have HP:=Hp h
 have HK:=Hp hk
 have H8:=Hp h8
 have c2:=Hp (fun W(o:Below w.heap.size w W)=>lX A c l n W (h.below o).row h.len)
 have c3:=Hp (fun W(o:Below w.heap.size w W)(i j:Nat)(hi:i<l.length)(hj:j<l.length)=>CE A c l i j W (h.below o) hi hj)
 have c5:=Hp (fun W(o:Below w.heap.size w W)(j:Nat)=>VC A c l j W (h.below o) (by omega))
 have HU:=Hp (fun(j:Nat)(hj:idxOf (named n) l=j)=>Mm (NV a2) hj)
 have b4:=Hp (fun(j:Nat)(hj:idxOf (named n) l=j)=>U5 hj)
 obtain⟨F,hF⟩:=Nm (kP k ⟨2,jB,n⟩ l)
 have N:F=if lF l n≠0 then lF l n else aZ k (Rc l n):=hF
 have a9:=Hp (fun(j:Nat)(hj:idxOf (named n) l=j)=>show Rc l n=l.eraseIdx j by unfold Rc;rw[hj,Int.toNat_natCast])
 obtain⟨L,hL⟩:=Nm (Rc l n)
 have e0:=Hp (show∀x∈L,x.m.ok w from fun x hx=>by
  rw[hL]at hx
  exact h.each x (List.mem_of_mem_eraseIdx hx))
 have e1:=Hp (show L.length<=big by rw[hL];unfold Rc;have:=List.length_eraseIdx_le l (idxOf (named n) l).toNat;unfold big;omega)
 rw[<-hF]
 rw[<-hL]at N a9 ⊢
 have cases:=De l n
 obtain⟨E,hE⟩:=Nm (lF l n)
 rw[<-hE]at cases N
 obtain⟨ix,b9⟩:=Nm (idxOf (named n) l)
 rw[<-b9]at c2 cases HU b4 a9
 have e5:=C.symm
 have e4:=K.symm
 clear C K a4 a3 c0 hk h hF hL hE b9 a2 R h8
 have b5:=Hp N
 clear N
 rcases cases with⟨t1,rfl⟩|⟨j,rfl,D,rfl⟩|⟨j,rfl,D,rfl⟩
 ·have B:F=5:=by rw[b5.out,if_pos (by decide)]
  subst B
  have t':decide (ix<0)=true:=decide_eq_true t1
  have T:=Hp (show(5:Int)≠0 by decide)
  clear t1
  go_enter Tryz.func40,Tryz.ntmps40
  go_wp2_with fail
  refine(c2.out _ g.out).mono ?_;rintro e w2 ⟨rfl,a⟩
  have u:=Hp (aF a b1)
  have y:=Hp (g.trans (a.mono g.size))
  clear a
  obtain⟨_,X,V,U,S,a1,a0,Z,Y⟩:=aB u.out
  go_wp2_with fail
  obtain⟨hg,M⟩:=gY u.out (.int .i64 0) (.int .i64 0) (.slice none 0 0) (.slice none 0 0)
  refine bodyPost_ret (results_cell_tmp rfl _ _ (w.heap.size+1) 39 _ (0,0) _ rfl hg Tryz.underlying39 rfl Tryz.RP) rfl ?_
  exact Rx T.out (y.trans ((M.below (GY2 (ZL u.out))).mono (by omega)))
 ·have B:F=4:=by rw[b5.out,if_pos (by decide)]
  subst B
  have t':decide ((j:Int)<0)=false:=GY7 (by omega)
  have G:j<l.length:=by obtain⟨h,_⟩:=b4.out j rfl;exact h
  have s:=HU.out j rfl
  rw[D]at s
  have a6:=Hp s
  have v:=Hp G
  clear s D
  go_enter Tryz.func40,Tryz.ntmps40
  go_wp2_with fail
  refine(c2.out _ g.out).mono ?_;rintro e w2 ⟨rfl,a⟩
  have u:=Hp (aF a b1)
  have b2:=Hp (aF a b3)
  have y:=Hp (g.trans (a.mono g.size))
  clear a k0 k1 k2 k3 G
  go_wp2_with fail
  go_loopw [7] (fun i wr=>∃q:Nat,q<=l.length/\i=.int .i64 q/\(∀p,p<q->kV l p j=false)/\Below w2.heap.size w2 wr) (fun i _=>l.length -(intOf i).toNat)
  case atStart=>exact⟨0,by omega,rfl,fun p hp=>by omega,GZ4 _ _⟩
  case round=>
   obtain⟨q,hq,rfl,hn,o⟩:=hrel
   have HN:=Hp hn
   have f:=Hp (y.trans (o.mono y.size))
   have HB:=Hp o
   have Q:=Hp (aF o b2)
   have a8:=Hp (aF o u)
   obtain⟨_,g0,g1,g2,g3,_⟩:=aB Q.out
   have c9:l.length<=8:=H8.out
   clear hn o
   by_cases b:q<l.length
   ·have b8:(q:Int)<l.length:=by omega
    have P:=Hp (c3.out wr f.out q j b v.out)
    have H:kV l q j=asks (l[q]'b).m (tx (l[j]'v.out).m.name):=by
     unfold kV
     rw[GY5 b]
     show asks _ (nmN l j)=_
     rw[Sq v.out]
    rw[<-H]at P
    clear H
    cases J:kV l q j
    ·rw[J]at P
     have HD:=Hp J
     clear J
     go_wp2_with fail
     refine(P.out).mono ?_;rintro e w4 ⟨rfl,d⟩
     have I:=Hp (HB.trans (d.mono HB.size))
     clear d
     go_wp2_with fail
     go_roundw
     case rel=>exact⟨q+1,by omega,by go_num,fun p hp=>by rcases Nat.lt_succ_iff_lt_or_eq.1 hp with h|rfl;exact HN.out p h;exact HD.out,I.out⟩
     case measure=>(simp[intOf];try omega)
    ·rw[J]at P
     have T:=Hp (show(4:Int)≠0 by decide)
     clear J
     go_wp2_with fail
     refine(P.out).mono ?_;rintro e w4 ⟨rfl,d⟩
     have b0:=Hp (aF d a8)
     have I:=Hp (f.trans (d.mono f.size))
     clear d
     obtain⟨_,X,V,U,S,a1,a0,Z,Y⟩:=aB b0.out
     go_wp2_with fail
     obtain⟨hg,M⟩:=gY b0.out (.int .i64 0) (.int .i64 0) (.slice none 0 0) (.slice none 0 0)
     refine bodyPost_ret (results_cell_tmp rfl _ _ (w.heap.size+1) 39 _ (0,0) _ rfl hg Tryz.underlying39 rfl Tryz.RP) rfl ?_
     exact Rx T.out (I.trans ((M.below (GY2 (ZL b0.out))).mono (by omega)))
   ·exfalso
    have h1:=a6.symm
    rw[List.any_eq_true]at h1
    obtain⟨p,hp,b6⟩:=h1
    have:=HN.out p (by have:=List.mem_range.1 hp;omega)
    rw[this]at b6;cases b6
 ·have B:F=aZ k L:=by rw[b5.out,if_neg (by decide)]
  have HF:=Hp B
  clear B
  have t':decide ((j:Int)<0)=false:=GY7 (by omega)
  have G:j<l.length:=by obtain⟨h,_⟩:=b4.out j rfl;exact h
  have s:=HU.out j rfl
  rw[D]at s
  have a6:=Hp s
  have v:=Hp G
  clear s D
  go_enter Tryz.func40,Tryz.ntmps40
  go_wp2_with fail
  refine(c2.out _ g.out).mono ?_;rintro e w2 ⟨rfl,a⟩
  have u:=Hp (aF a b1)
  have b2:=Hp (aF a b3)
  have y:=Hp (g.trans (a.mono g.size))
  clear a k0 k1 k2 k3 G
  go_wp2_with fail
  go_loopw [7] (fun i wr=>∃q:Nat,q<=l.length/\i=.int .i64 q/\(∀p,p<q->kV l p j=false)/\Below w2.heap.size w2 wr) (fun i _=>l.length -(intOf i).toNat)
  case atStart=>exact⟨0,by omega,rfl,fun p hp=>by omega,GZ4 _ _⟩
  case round=>
   obtain⟨q,hq,rfl,hn,o⟩:=hrel
   have HN:=Hp hn
   have f:=Hp (y.trans (o.mono y.size))
   have HB:=Hp o
   have Q:=Hp (aF o b2)
   have a8:=Hp (aF o u)
   obtain⟨_,g0,g1,g2,g3,_⟩:=aB Q.out
   have c9:l.length<=8:=H8.out
   clear hn o
   by_cases b:q<l.length
   ·have b8:(q:Int)<l.length:=by omega
    have P:=Hp (c3.out wr f.out q j b v.out)
    have H:kV l q j=asks (l[q]'b).m (tx (l[j]'v.out).m.name):=by
     unfold kV
     rw[GY5 b]
     show asks _ (nmN l j)=_
     rw[Sq v.out]
    rw[<-H]at P
    clear H
    cases J:kV l q j
    ·rw[J]at P
     have HD:=Hp J
     clear J
     go_wp2_with fail
     refine(P.out).mono ?_;rintro e w4 ⟨rfl,d⟩
     have I:=Hp (HB.trans (d.mono HB.size))
     clear d
     go_wp2_with fail
     go_roundw
     case rel=>exact⟨q+1,by omega,by go_num,fun p hp=>by rcases Nat.lt_succ_iff_lt_or_eq.1 hp with h|rfl;exact HN.out p h;exact HD.out,I.out⟩
     case measure=>(simp[intOf];try omega)
    ·exfalso
     have h1:=a6.symm
     rw[List.any_eq_false]at h1
     exact h1 q (List.mem_range.2 b) J
   ·have e6:¬((q:Int)<l.length):=by omega
    clear b
    have cW:=Hp (c5.out wr f.out j)
    rw[<-a9.out j rfl]at cW
    go_wp2_with fail
    refine(cW.out).mono ?_;rintro e w5 ⟨⟨A5,a5,rfl,b7⟩,O⟩
    have d9:=Hp (show aP w5 w.heap.size _ _ from RH b7 f.size)
    have d6:=Hp (aF O a8)
    have c4:=Hp (aF O Q)
    have e3:=Hp (f.trans (O.mono f.size))
    clear b7 O g0 g1 g2 g3 cW
    obtain⟨_,g0,g1,g2,g3,d3,d2,d1,d0⟩:=aB c4.out
    go_wp2_with fail
    obtain⟨w8,e8,c1,d5,c7,a7,d8⟩:=rO (nR:=1) e3.out c4.out d6.out (by omega) d9.out e0.out e1.out HK.out
    rw[<-e8]
    clear e8 g0 g1 g2 g3 d3 d2 d1 d0
    obtain⟨_,g0,g1,g2,g3,_⟩:=aB c1.out
    have cC:=Hp (gH k A5 a5 L w8 a7.out.1 a7.out.2)
    rw[<-HF.out]at cC
    try go_wp2_with fail
    refine(cC.out).mono ?_;rintro e w9 ⟨rfl,z⟩
    have r:=Hp (aF z d5)
    have e2:=Hp (aF z c1)
    have c6:=Hp (c7.trans (z.mono c7.size))
    have d4:=Hp (a7.below z)
    have d7:=Hp (aO d8 z)
    clear z cC g0 g1 g2 g3
    by_cases t:F=0
    ·subst t
     obtain⟨_,g0,g1,g2,g3,_⟩:=aB e2.out
     obtain⟨_,X,V,U,S,a1,a0,Z,Y⟩:=aB r.out
     go_wp2_with fail
     obtain⟨hg,M⟩:=gY r.out (.int .i64 k.major) (.int .i64 k.minor) (.slice k.eA k.ex.length k.eC) (.slice A5 L.length a5)
     refine bodyPost_ret (results_cell_tmp rfl _ _ (w.heap.size+1) 39 _ (0,0) _ rfl hg Tryz.underlying39 rfl Tryz.RP) rfl ?_
     exact⟨⟨k,A5,L,a5,rfl,d4.other ⟨_,_,_,_,_,_,_,_,r.out⟩ M,rfl,rfl,rfl,rfl,own_kp d7.out (M.kp r.out (ts:=[39]) (by simp)) (by decide)⟩,c6.trans ((M.below (GY2 (ZL r.out))).mono (by omega))⟩
    ·have t':(F != 0)=true:=by simp[t]
     have T:=Hp t
     clear t
     obtain⟨_,X,V,U,S,a1,a0,Z,Y⟩:=aB r.out
     go_wp2_with fail
     obtain⟨hg,M⟩:=gY r.out (.int .i64 0) (.int .i64 0) (.slice none 0 0) (.slice none 0 0)
     refine bodyPost_ret (results_cell_tmp rfl _ _ (w.heap.size+1) 39 _ (0,0) _ rfl hg Tryz.underlying39 rfl Tryz.RP) rfl ?_
     exact Rx T.out (c6.trans ((M.below (GY2 (ZL r.out))).mono (by omega)))
end
section
open Go
open Go.RowKit
theorem AO {w:World}{a:Nat}{A:Option Addr}{c:Nat}{b:List Int}(h:dN w a (.slice A b.length c) b):jN w A b:=by have:=Reads.of_own h;rwa [qJ]at this
theorem J4 {W:World}{b:Nat}{a:Value}{t:TypeId}(h:W.heap[b]? =some (.cells #[a] t (0,0))):W.cell? ⟨b,0,none⟩=some a:=heap_cell h 0
end
end Go.Proofs.YtjiedaialianmaaGreat
