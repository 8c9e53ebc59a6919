import Derived.Test.YtjiedaialianmaaGreatA13
import Derived.Test.YtjiedaialianmaaGreatA18
set_option maxRecDepth 100000
set_option maxHeartbeats 4000000
namespace Go.Proofs.YtjiedaialianmaaGreat
section
open Go
namespace Gr
section Walk
variable {N:Type} [DecidableEq N]
def visit (all:List N)(r:N->N->Bool):Nat->List N->N->List N
 |0,m,_=>m
 |f+1,m,a=>all.foldl (fun m b=>if b ∉ m/\r a b=true then visit all r f (b::m) b else m) m
def unmet (all m:List N):Nat:=(all.filter (fun x=>decide (x ∉ m))).length
theorem unmet_le {m b:List N}(h:∀x,x∈m->x∈b):∀(all:List N),unmet all b<=unmet all m
 | []=>GZ3 _
 |a::l=>by
  have f:=unmet_le h l
  unfold unmet at f ⊢
  by_cases c:a∈b
  ·by_cases d:a∈m
   ·simpa[List.filter_cons,c,d]using f
   ·simp only[List.filter_cons,c,d,not_true_eq_false,not_false_eq_true,decide_true,decide_false,if_true,Bool.false_eq_true,if_false,GY8]
    omega
  ·have d:a ∉ m:=fun e=>c (h a e)
   simp only[List.filter_cons,c,d,not_false_eq_true,decide_true,if_true,GY8]
   omega
theorem unmet_lt {m:List N}{b:N}(g:b ∉ m):∀{all:List N},b∈all->unmet all (b::m)<unmet all m
 |a::l,hb=>by
  have le:unmet l (b::m)<=unmet l m:=unmet_le (fun x i=>List.mem_cons_of_mem _ i) l
  by_cases e:a=b
  ·subst e
   unfold unmet at le ⊢
   simp only[List.filter_cons,g,List.mem_cons,true_or,not_true_eq_false,not_false_eq_true,decide_true,decide_false,if_true,Bool.false_eq_true,if_false,GY8]at le ⊢
   omega
  ·have d:b∈l:=by
    rcases List.mem_cons.1 hb with h|h
    ·exact absurd h.symm e
    ·exact h
   have f:=unmet_lt g d
   unfold unmet at f ⊢
   by_cases c:a∈m
   ·simpa[List.filter_cons,c,e]using f
   ·have j:a ∉ b::m:=by simp[c,e]
    simp only[List.filter_cons,c,j,not_false_eq_true,decide_true,if_true,GY8]
    omega
end Walk
end Gr
end
section
open Go
open Gs (Tx)
def ofErr (l:List Plc)(a:ByteArray):Int:=if Dh l≠0 then Dh l else if idxOf (named a) l<0 then 5 else 0
theorem ofErr_ok {l:List Plc}{a:ByteArray}(h:ofErr l a=0):Dh l=0/\∃p,p<l.length/\idxOf (named a) l=p/\tx a=nmN l p:=by
 unfold ofErr at h
 split at h
 ·contradiction
 ·rename_i f
  split at h
  ·cases h
  ·rename_i d
   refine⟨by omega,?_⟩
   rcases Sb (named a) l with⟨e,_⟩|⟨j,b,e,c,_⟩
   ·omega
   ·exact⟨j,b,e,by rw[Sq b,of_decide_eq_true c]⟩
def reachT (l:List Plc)(r:Tx->Tx->Bool)(a:Tx):List Tx:=(Gs.Sd (txs l)).filter (fun x=>decide (x∈Gr.visit (Gs.Sd (txs l)) r (l.length+1) [] a))
def needsT (l:List Plc)(a:ByteArray):List Tx:=if ofErr l a≠0 then[]else reachT l (nU l) (tx a)
def usersT (l:List Plc)(c:ByteArray):List Tx:=if ofErr l c≠0 then[]else reachT l (fun a b=>nU l b a) (tx c)
def orderErr (l:List Plc):Int:=if Dh l≠0 then Dh l else if(rT l).isNone then 4 else 0
def orderT (l:List Plc):List Tx:=if orderErr l≠0 then[]else(rT l).getD []
end
section
open Go.RowKit
theorem resQ_any (x:Plc)(w:World):
  Calls Tryz.prog 199 #[x.v] w fun e a=>e=.returned (.bool (P9 x))/\Below w.heap.size w a:=by
 have c:=Hp (fun W=>nI x.first 0 15 W)
 have e:P9 x=(decide (0<=x.first)&&decide (x.first<=15)):=rfl
 rw[e]
 generalize(decide (0<=x.first)&&decide (x.first<=15))=b at*
 go_enter Tryz.func199,Tryz.ntmps199
 go_wp2_with (first|(go_at_call 153;(with_reducible refine(c.out _).mono ?_);rintro e a ⟨rfl,rfl⟩))
 go_ret
 exact⟨rfl,ZB⟩
theorem Placed_any (k:Krn)(A:Option Addr)(c:Nat)(l:List Plc)(w:World)(n:k.ok w)(h:aU w A l):
  Calls Tryz.prog 134 #[k.v,.slice A l.length c] w fun e r=>e=.returned (.int .i64 (iB k l))/\Below w.heap.size w r:=by
 obtain⟨q,b⟩:=Nm (w.alloc (.cells #[.int .i64 k.major,.int .i64 k.minor,.slice k.eA k.ex.length k.eC] 24))
 obtain⟨D,C,B,z,d⟩:=uE b
 have j:=Hp d
 have m:=b.symm
 have o:=Hp (Br k q (n.below d))
 have u:=Hp (fun W(t:Below w.heap.size w W)=>Ht A c l 199 P9 W (enters_of Tryz.func199 (by kernel_rfl) rfl) (h.below t) (fun x _ _ W=>resQ_any x W))
 obtain⟨E,f⟩:=Nm (iB k l)
 rw[<-f]
 unfold iB at f
 clear b d n h
 generalize bJ k=ke at*
 generalize bY P9 l=me at*
 by_cases g:ke=0
 ·obtain rfl:=g
  rw[if_neg (by omega)]at f
  go_enter Tryz.func134,Tryz.ntmps134
  go_wp2_with (first|(go_at_call 84;(with_reducible refine(o.out).mono ?_);rintro e p ⟨rfl,a⟩)|(go_at_call 198;(with_reducible refine(u.out _ (j.out.trans (a.mono (by omega)))).mono ?_);rintro e y ⟨rfl,i⟩))
  go_ret
  exact⟨aC f.symm,(j.trans (a.mono (by omega))).trans (i.mono (by have:=a.size;omega))⟩
 ·rw[if_pos g]at f
  have s:(ke != 0)=true:=by simp[g]
  clear g
  go_enter Tryz.func134,Tryz.ntmps134
  go_wp2_with (first|(go_at_call 84;(with_reducible refine(o.out).mono ?_);rintro e p ⟨rfl,a⟩))
  go_ret
  exact⟨aC f.symm,j.trans (a.mono (by omega))⟩
end
section
open Go.RowKit Go.Sort
open Gs (Tx)
theorem anyQ_any (x:Plc)(w:World):
  Calls Tryz.prog 200 #[x.v] w fun e a=>e=.returned (.bool (PX x))/\Below w.heap.size w a:=by
 have e:PX x=true:=rfl
 rw[e]
 go_enter Tryz.func200,Tryz.ntmps200
 go_wp2_with fail
 go_ret
 exact⟨rfl,ZB⟩
theorem ready_any (A:Option Addr)(c:Nat)(l:List Plc)(w:World)(h:aU w A l):
  Calls Tryz.prog 136 #[.slice A l.length c] w fun e n=>e=.returned (.int .i64 (Dh l))/\Below w.heap.size w n:=by
 have i:=Hp (Ht A c l 200 PX w (enters_of Tryz.func200 (by kernel_rfl) rfl) h (fun x _ _ W=>anyQ_any x W))
 have q:=Hp (fun(g:l.length<=8)W(p:Below w.heap.size w W)=>LQ A c l W (h.row.below p) g)
 obtain⟨E,b⟩:=Nm (Dh l)
 rw[<-b]
 unfold Dh at b
 have g:=Hp (fun(e:bY PX l=0)=>(TB e).1)
 clear h
 generalize bY PX l=me at*
 generalize dD l=tw at*
 by_cases f:me=0
 ·obtain rfl:=f
  rw[if_neg (by omega)]at b
  have k:=Hp (q.out (g.out rfl))
  cases tw
  ·rw[if_neg (by simp)]at b
   go_enter Tryz.func136,Tryz.ntmps136
   go_wp2_with (first|(go_at_call 198;(with_reducible refine(i.out).mono ?_);rintro e j ⟨rfl,a⟩)|(go_at_call 155;(with_reducible refine(k.out _ a).mono ?_);rintro e m ⟨rfl,d⟩))
   go_ret
   exact⟨aC b.symm,a.trans (d.mono a.size)⟩
  ·rw[if_pos rfl]at b
   go_enter Tryz.func136,Tryz.ntmps136
   go_wp2_with (first|(go_at_call 198;(with_reducible refine(i.out).mono ?_);rintro e j ⟨rfl,a⟩)|(go_at_call 155;(with_reducible refine(k.out _ a).mono ?_);rintro e m ⟨rfl,d⟩))
   go_ret
   exact⟨aC b.symm,a.trans (d.mono a.size)⟩
 ·rw[if_pos f]at b
  have o:(me != 0)=true:=by simp[f]
  clear f
  go_enter Tryz.func136,Tryz.ntmps136
  go_wp2_with (first|(go_at_call 198;(with_reducible refine(i.out).mono ?_);rintro e j ⟨rfl,a⟩))
  go_ret
  exact⟨aC b.symm,a⟩
end
section
open Go
namespace Gr
section
variable {N:Type}
theorem fold_keeps {all:List N}{F:List N->N->List N}(hF:∀m b,b∈all->yU all m (F m b)):∀(l m:List N),(∀x,x∈l->x∈all)->yU all m (l.foldl F m)
 | [],m,_=>yU.refl _ _
 |b::l,m,h=>by
  rw[List.foldl_cons]
  exact(hF m b (h b List.mem_cons_self)).trans (fold_keeps hF l _ (fun x a=>h x (List.mem_cons_of_mem _ a)))
end
section
variable {N:Type} [DecidableEq N]
def stp (all:List N)(r:N->N->Bool)(f:Nat)(a:N)(m:List N)(b:N):List N:=if b ∉ m/\r a b=true then visit all r f (b::m) b else m
theorem visit_stp (all:List N)(r:N->N->Bool)(f:Nat)(m:List N)(a:N):visit all r (f+1) m a=all.foldl (stp all r f a) m:=rfl
theorem visit_keeps (all:List N)(r:N->N->Bool):∀(f:Nat)(m:List N)(a:N),yU all m (visit all r f m a)
 |0,m,_=>yU.refl _ _
 |f+1,m,a=>by
  rw[visit_stp]
  refine fold_keeps (fun m b c=>?_) all m (fun _ h=>h)
  unfold stp
  split
  ·rename_i h
   exact(yU.cons c h.1).trans (visit_keeps all r f _ _)
  ·exact yU.refl _ _
theorem stp_keeps (all:List N)(r:N->N->Bool)(f:Nat)(a:N){b:N}(c:b∈all)(m:List N):yU all m (stp all r f a m b):=by
 unfold stp
 split
 ·rename_i h
  exact(yU.cons c h.1).trans (visit_keeps all r f _ _)
 ·exact yU.refl _ _
def sofar (all:List N)(r:N->N->Bool)(f:Nat)(a:N)(m:List N)(j:Nat):List N:=(all.take j).foldl (stp all r f a) m
theorem sofar_succ {all:List N}{r:N->N->Bool}{f:Nat}{a:N}{m:List N}{j:Nat}(h:j<all.length):sofar all r f a m (j+1)=stp all r f a (sofar all r f a m j) all[j]:=by
 unfold sofar;rw[List.take_succ_eq_append_getElem h,List.foldl_append,List.foldl_cons,List.foldl_nil]
theorem sofar_end {all:List N}{r:N->N->Bool}{f:Nat}{a:N}{m:List N}{j:Nat}(h:¬j<all.length):sofar all r f a m j=visit all r (f+1) m a:=by
 unfold sofar;rw[List.take_of_length_le (by omega)];rfl
theorem sofar_keeps (all:List N)(r:N->N->Bool)(f:Nat)(a:N)(m:List N)(j:Nat):yU all m (sofar all r f a m j):=
 fold_keeps (fun m _ c=>stp_keeps all r f a c m) _ _ (fun _ b=>List.mem_of_mem_take b)
theorem nodup_le :∀{m all:List N},m.Nodup->(∀x,x∈m->x∈all)->m.length<=all.length
 | [],_,_,_=>Nat.zero_le _
 |b::m,all,hn,h=>by
  have a:=List.nodup_cons.1 hn
  have d:=h b List.mem_cons_self
  have f:=nodup_le (m:=m) (all:=all.erase b) a.2 (fun x c=>by
   have ne:x≠b:=fun e=>a.1 (e▸c)
   exact(List.mem_erase_of_ne ne).2 (h x (List.mem_cons_of_mem _ c)))
  rw[List.length_erase_of_mem d]at f
  have:=List.length_pos_of_mem d
  rw[GY8];omega
end
end Gr
end
section
open Go.RowKit Go.Maps Go.WideMaps Go.Sort
open Gs (Tx)
theorem bs_inj {a b:Tx}(h:bs a=bs b):a=b:=by rw[<-Nh a,h,Nh]
theorem met_cnt {M:List Tx}{s:Tx}:0<cnt (M.map bs) (bs s)↔s∈M:=by
 rw[KM,List.mem_map]
 exact⟨fun⟨x,a,e⟩=>by rw[<-bs_inj e];exact a,fun h=>⟨s,h,rfl⟩⟩
theorem met_zero {M:List Tx}{s:Tx}(h:s ∉ M):cnt (M.map bs) (bs s)=0:=by
 have:=NC (M.map bs) (bs s)
 have a:¬0<cnt (M.map bs) (bs s):=fun k=>h (met_cnt.1 k)
 omega
section
variable (w0:World) (T:List Tx) (tA:Option Addr) (tC g:Nat) (lb:Array Value) (p b:Nat) (r:Tx->Tx->Bool)
theorem walk_any (eg:∀E w,(callFunc g E).run Tryz.prog w=.ok (.enter g E) w)(a5:T.length<=8)(Y:∀t∈T,(bs t).size<=Fq)
  (Z:∀x∈T,∀y∈T,∀W,Below w0.heap.size w0 W->Calls Tryz.prog g (#[.string (bs x),.string (bs y)]++lb) W fun e S=>e=.returned (.bool (r x y))/\Below W.heap.size W S):
  ∀(f:Nat)(a:Tx)(M:List Tx)(w:World),Gr.unmet T M+1<=f->a∈T->M.Nodup->(∀x∈M,x∈T)->Wk w0 T tA tC g lb p b w->Mt w b M->
  Calls Tryz.prog 263 #[.pointer (some ⟨p,0,none⟩),.string (bs a)] w fun e S=>e=.returned (.tuple #[])/\Mt S b (Gr.visit T r f M a)/\w.grownBy S (some b)
 |0,a,M,w,hf,_,_,_,_,_=>by omega
 |f+1,a,M,w,hf,ha,hn,hin,N,U=>by
  have ih:=Hp (walk_any eg a5 Y Z f)
  have HS:=Hp Y
  have HQ:=Hp Z
  have HF:=Hp hf
  have HA:=Hp ha
  have HN:=Hp hn
  have HI:=Hp hin
  have HK:=Hp N
  have HM:=Hp U
  have a0:=N.f0
  clear Y Z hf ha hn hin U N
  go_enter Tryz.func263,Tryz.ntmps263
  go_wp2_with fail
  clear a0
  go_loopw [11] (fun i wr=>∃j:Nat,j<=T.length/\i=.int .i64 j/\Mt wr b (Gr.sofar T r f a M j)/\w.grownBy wr (some b)) (fun i _=>T.length -(intOf i).toNat)
  case atStart=>exact⟨0,by omega,rfl,HM.out,World.grownBy.refl _ _⟩
  case round=>
   obtain⟨j,hj,rfl,G,H⟩:=hrel
   have C:=Hp G
   have V:=Hp H
   have F:=Hp (HK.keep H)
   have v:=G.lt
   have u:=F.plt
   clear G H
   by_cases A:j<T.length
   ·have a7:(j:Int)<T.length:=by omega
    obtain⟨ad,hA,a9,h0⟩:=MU F.row (GZ4 _ _) j A
    have a8:=Hp (F.rb ad hA)
    subst hA
    have f0:=F.f0
    have f1:=F.f1
    have f2:=F.f2
    have d:=Hp (show T[j]∈T from GZ9 _)
    have z:=Hp (Gr.sofar_succ (r:=r) (f:=f) (a:=a) (m:=M) A)
    have L:=Hp (Gr.sofar_keeps T r f a M j)
    obtain⟨k,O⟩:∃k,k=Gr.sofar T r f a M j:=⟨_,rfl⟩
    rw[<-O]at C z L
    clear O
    obtain⟨t,ht⟩:=Nm (T[j]'A)
    rw[<-ht]at h0 d z
    clear ht
    have HL:=Hp (Gr.nodup_le (L.nd HN) (L.inn HI))
    have s:=Hp (HS.out t d.out)
    have a2:=Hp (show(k.map bs).length<=big by rw[List.length_map];have:=HL.out;unfold big;omega)
    have a3:=Hp (show k.length<=big by have:=HL.out;unfold big;omega)
    obtain⟨B,o⟩:=Nm (cnt (k.map bs) (bs t))
    have Q:=Hp o
    by_cases c:t∈k
    ·have J:=Hp (show Gr.sofar T r f a M (j+1)=k by rw[z.out];unfold Gr.stp;rw[if_neg (fun h=>h.1 c)])
     have t0:(B==0)=false:=by have:=met_cnt.2 c;rw[<-o]at this;simp;omega
     clear o c
     go_wp2_with (at_lookup;refine bA _ rfl _ _ rfl b k.length (k.map bs) C.out (bs t) s.out rfl rfl B Q.out ?_)
     go_roundw
     case rel=>exact⟨j+1,by omega,by go_num,by rw[J.out];exact C.out,V.out⟩
     case measure=>(simp[intOf];try omega)
    ·have t0:(B==0)=true:=by rw[o,met_zero c];rfl
     have K:=Hp c
     have q2:wrap64 (B+1)=B+1:=by rw[o,met_zero c];exact IntWalk.wrap64_in _ (by omega)
     obtain⟨br,I⟩:=Nm (r a t)
     have c2:=Hp (HQ.out a HA.out t d.out wr F.below)
     rw[<-I]at c2
     have R:=Hp I
     clear o c I
     cases br
     ·have J:=Hp (show Gr.sofar T r f a M (j+1)=k by rw[z.out];unfold Gr.stp;rw[if_neg (fun h=>by have:=R.out;rw[h.2]at this;cases this)])
      go_wp2_with (first
       |(at_lookup;refine bA _ rfl _ _ rfl b k.length (k.map bs) C.out (bs t) s.out rfl rfl B Q.out ?_)
       |(go_at_fn g;refine(c2.out).mono ?_;rintro e w3 ⟨rfl,l⟩))
      go_roundw
      case rel=>exact⟨j+1,by omega,by go_num,by rw[J.out];exact C.kept l v,V.trans (kM l _)⟩
      case measure=>(simp[intOf];try omega)
     ·have J:=Hp (show Gr.sofar T r f a M (j+1)=Gr.visit T r f (t::k) t by rw[z.out];unfold Gr.stp;rw[if_pos ⟨K.out,R.symm⟩])
      have X:=Hp (fun W N U=>ih.out t (t::k) W (by
       have h1:=Gr.unmet_lt K.out d.out
       have h2:=Gr.unmet_le L.sub T
       have h3:=HF.out
       omega) d.out (List.nodup_cons.2 ⟨K.out,L.nd HN.out⟩) (fun x hx=>by
        rcases List.mem_cons.1 hx with rfl|q
        ·exact d.out
        ·exact L.inn HI.out x q) N U)
      go_wp2_with (first
       |(at_mapUpdate;refine Rh _ rfl _ _ _ rfl b k.length (k.map bs) (Mt.kept C.out l v) (bs t) s.out a2.out a3.out rfl rfl B Q.out rfl ?_;intro w4 D n;have a6:=Hp (Mt.put D);have P:=Hp ((kM l (some b)).trans n);clear D n)
       |(at_lookup;refine bA _ rfl _ _ rfl b k.length (k.map bs) (Mt.kept C.out l v) (bs t) s.out rfl rfl B Q.out ?_)
       |(at_lookup;refine bA _ rfl _ _ rfl b k.length (k.map bs) C.out (bs t) s.out rfl rfl B Q.out ?_)
       |(go_at_fn g;refine(c2.out).mono ?_;rintro e w3 ⟨rfl,l⟩;have k0:=(l.cell (p:=⟨p,0,none⟩) u).trans f0;have k1:=(l.cell (p:=⟨p,1,none⟩) u).trans f1;have k2:=(l.cell (p:=⟨p,2,none⟩) u).trans f2)
       |(go_at_call 263;refine(X.out _ (F.keep P.out) a6.out).mono ?_;rintro e w5 ⟨rfl,a1,a4⟩))
      go_roundw
      case rel=>exact⟨j+1,by omega,by go_num,by rw[J.out];exact a1,(V.trans P.out).trans a4⟩
      case measure=>(simp[intOf];try omega)
   ·have J:=Hp (Gr.sofar_end (r:=r) (f:=f) (a:=a) (m:=M) A)
    go_wp2_with fail
    go_end0
    exact⟨rfl,by rw[<-J.out];exact C.out,V.out⟩
end
end
section
open Go.RowKit Go.Maps Go.WideMaps Go.Sort
open Gs (Tx)
def metT (T:List Tx)(V:List Tx)(j:Nat):List Tx:=(T.take j).filter (fun x=>decide (x∈V))
theorem metT_in {T V:List Tx}{j:Nat}(h:j<T.length)(a:T[j]∈V):metT T V (j+1)=metT T V j++[T[j]]:=by
 unfold metT;rw[List.take_succ_eq_append_getElem h,List.filter_append];simp[a]
theorem metT_out {T V:List Tx}{j:Nat}(h:j<T.length)(a:T[j] ∉ V):metT T V (j+1)=metT T V j:=by
 unfold metT;rw[List.take_succ_eq_append_getElem h,List.filter_append];simp[a]
theorem metT_end {T V:List Tx}{j:Nat}(h:¬j<T.length):metT T V j=T.filter (fun x=>decide (x∈V)):=by
 unfold metT;rw[List.take_of_length_le (by omega)]
theorem metT_le (T V:List Tx)(j:Nat):(metT T V j).length<=T.length:=by
 unfold metT
 have b:=List.length_filter_le (fun x=>decide (x∈V)) (T.take j)
 have a:(T.take j).length<=T.length:=by rw[GY6];omega
 omega
theorem name_small {l:List Plc}(h:∀x∈l,aL x.m=0):∀t∈Gs.Sd (txs l),(bs t).size<=Fq:=fun t a=>by
 rw[Gs.Kj]at a
 obtain⟨x,b,rfl⟩:=List.mem_map.1 a
 rw[Qx]
 have:=RZ (aY (h x b)).1
 unfold Fq;omega
theorem wk_begin {w a:World}{T:List Tx}{d:Option Addr}{tC g:Nat}{lb:Array Value}(t:TypeId)(k:Below w.heap.size w a)(l:Hl a d T)(p:0<T.length):
  Wk w T d tC g lb (a.heap.size+1) a.heap.size ((a.alloc (.map #[] 0)).alloc (.cells #[.slice d T.length tC,.map (some a.heap.size),.func (.func g) #[] lb] t))/\
  Mt ((a.alloc (.map #[] 0)).alloc (.cells #[.slice d T.length tC,.map (some a.heap.size),.func (.func g) #[] lb] t)) a.heap.size []:=by
 obtain⟨i,b⟩:=Nm (a.alloc (.map #[] 0))
 have n:i.heap.size=a.heap.size+1:=by rw[b];simp
 have h:Below a.heap.size a i:=b▸ZB
 have j:Mt i a.heap.size []:=by rw[b];exact Ra.made _
 rw[<-b,<-n]
 obtain⟨x,f⟩:=Nm (i.alloc (.cells #[.slice d T.length tC,.map (some a.heap.size),.func (.func g) #[] lb] t))
 obtain⟨s,r,q,m,c⟩:=uE f
 rw[<-f]
 refine⟨⟨k.trans ((h.trans (c.mono (by omega))).mono k.size),s,r,q,(l.below h).below c,by omega,k.size,fun y e=>?_,by omega⟩,?_⟩
 ·subst e
  obtain⟨v,u,o,_⟩:=l.2 (by simpa using p)
  cases u;omega
 ·exact Mt.kept j c (by omega)
theorem reach_any (A:Option Addr)(c:Nat)(l:List Plc)(u:ByteArray)(g:Nat)(lb:Array Value)(r:Tx->Tx->Bool)(w:World)(eg:∀s w,(callFunc g s).run Tryz.prog w=.ok (.enter g s) w)(h:aU w A l)(hg:Dh l=0)(Z:tx u∈txs l)
  (hq:∀x∈txs l,∀y∈txs l,∀W,Below w.heap.size w W->Calls Tryz.prog g (#[.string (bs x),.string (bs y)]++lb) W fun e R=>e=.returned (.bool (r x y))/\Below W.heap.size W R):
  Calls Tryz.prog 237 #[.slice A l.length c,.string u,.func (.func g) #[] lb] w fun e R=>(∃v,e=.returned v/\TR R w.heap.size v (reachT l r (tx u)))/\Below w.heap.size w R:=by
 obtain⟨h8,m,_⟩:=OV hg
 obtain⟨T,o⟩:=Nm (Gs.Sd (txs l))
 have a2:T.length=l.length:=by rw[o,Ew,eZ]
 obtain⟨V,hV⟩:=Nm (Gr.visit T r (l.length+1) [] (tx u))
 have HR:=Hp (show reachT l r (tx u)=T.filter (fun x=>decide (x∈V)) by unfold reachT;rw[hV,o])
 have c1:=Hp (Dn A c l w h.row h8)
 have d:∀x,x∈T->x∈txs l:=fun x D=>by rw[o,Gs.Kj]at D;exact D
 have cW:=Hp (fun tA tC p b W hk q=>walk_any w T tA tC g lb p b r eg (by omega) (o▸name_small m) (fun x D y hy W n=>hq x (d x D) y (d y hy) W n)
  (l.length+1) (tx u) [] W (by have:Gr.unmet T []<=T.length:=List.length_filter_le _ _;omega) (by rw[o,Gs.Kj];exact Z) List.nodup_nil (fun x D=>by cases D) hk q)
 rw[<-o]at c1
 rw[<-hV]at cW
 simp only[Qx]at cW
 have HS:=Hp (o▸name_small m)
 have O:=Hp (show T.length<=8 by omega)
 have a4:=Hp (show 0<T.length from List.length_pos_of_mem (show tx u∈T by rw[o,Gs.Kj];exact Z))
 have a7:=@run_makeMap Tryz.prog
 clear h hg Z hq m o d hV a2 h8
 go_enter Tryz.func237,Tryz.ntmps237
 go_wp2_with (first
  |(go_at_call 156;refine(c1.out).mono ?_;rintro e U ⟨⟨v,rfl,G⟩,B⟩
    obtain⟨tA,tC,rfl,I⟩:=G.form
    have b0:=Hp B
    have C:=Hp (wk_begin (tC:=tC) (g:=g) (lb:=lb) 294 B I a4)
    clear G I B)
  |(go_at_call 263;refine(cW.out _ _ _ _ _ C.out.1 C.out.2).mono ?_;rintro e E ⟨rfl,K,L⟩
    have Q:=Hp K
    have a:=Hp (C.out.1.keep L)
    have a0:=a.f0
    clear K L))
 clear a0
 go_loopw [8,25] (fun v i wr=>∃j:Nat,j<=T.length/\i=.int .i64 j/\TR wr E.heap.size v (metT T V j)/\Below E.heap.size E wr) (fun _ i _=>T.length -(intOf i).toNat)
 case atStart=>exact⟨0,by omega,rfl,TR.nil _ _,GZ4 _ _⟩
 case round=>
  obtain⟨j,hj,rfl,H,n⟩:=hrel
  have HT:=Hp H
  have HB:=Hp n
  have X:=n.size
  have J:=a.plt
  have M:=Q.lt
  have a9:=O.out
  clear H
  by_cases f:j<T.length
  ·have a6:(j:Int)<T.length:=by omega
   obtain⟨ad,hA,a8,h0⟩:=MU a.row n j f
   subst hA
   have f1:=(n.cell (p:=⟨U.heap.size+1,1,none⟩) J).trans a.f1
   have P:=Hp (Q.kept n M)
   have z:=Hp (HS.out T[j] (GZ9 _))
   have a5:=Hp (show(metT T V j).length<=8 by have:=metT_le T V j;have:=O.out;omega)
   have HI:=Hp (metT_in (V:=V) f)
   have HO:=Hp (metT_out (V:=V) f)
   obtain⟨t,H⟩:=Nm (T[j]'f)
   rw[<-H]at h0 z HI HO
   clear H n
   obtain⟨S,k⟩:=Nm (cnt (V.map bs) (bs t))
   have HC:=Hp k
   by_cases q:t∈V
   ·have t0:(0:Int)<S:=by rw[k];exact met_cnt.2 q
    have N:=Hp (HI.out q)
    have a3:=Hp X
    clear k q
    go_wp2_with (first
     |(at_lookup;refine bA _ rfl _ _ rfl U.heap.size V.length (V.map bs) P.out (bs t) z.out rfl rfl S HC.out ?_)
     |(at_builtin;refine Ct wr rfl _ _ rfl E.heap.size _ (metT T V j) (bs t) rfl rfl (by exact HT.out) (by have:=a5.out;omega) a3.out ?_;intro v' w6 Y a1))
    go_roundw
    case rel=>exact⟨j+1,by omega,by go_num,by rw[N.out];rwa [Nh]at Y,HB.trans a1⟩
    case measure=>(simp[intOf];try omega)
   ·have t0:decide ((0:Int)<S)=false:=by rw[k,met_zero q];rfl
    have N:=Hp (HO.out q)
    clear k q
    go_wp2_with (at_lookup;refine bA _ rfl _ _ rfl U.heap.size V.length (V.map bs) P.out (bs t) z.out rfl rfl S HC.out ?_)
    go_roundw
    case rel=>exact⟨j+1,by omega,by go_num,by rw[N.out];exact HT.out,HB.out⟩
    case measure=>(simp[intOf];try omega)
  ·have N:=Hp (metT_end (V:=V) f)
   have F:=Hp (show w.heap.size<=E.heap.size from a.below.size)
   clear n
   go_wp2_with fail
   go_ret
   refine⟨⟨_,rfl,?_⟩,a.below.trans (HB.mono F.out)⟩
   rw[HR.out,<-N.out]
   exact HT.more F.out
theorem of_any (A:Option Addr)(c:Nat)(l:List Plc)(b:ByteArray)(g:Nat)(B:Array Value)(r:Tx->Tx->Bool)(w:World)(P:∀i w,(callFunc g i).run Tryz.prog w=.ok (.enter g i) w)(h:aU w A l)
  (I:Dh l=0->∀x∈txs l,∀y∈txs l,∀W,Below w.heap.size w W->Calls Tryz.prog g (#[.string (bs x),.string (bs y)]++B) W fun e t=>e=.returned (.bool (r x y))/\Below W.heap.size W t):
  Calls Tryz.prog 187 #[.slice A l.length c,.string b,.func (.func g) #[] B] w fun e t=>(∃v,e=.returned (.tuple #[v,.int .i64 (ofErr l b)])/\TR t w.heap.size v (if ofErr l b≠0 then[]else reachT l r (tx b)))/\Below w.heap.size w t:=by
 have D:=Hp (ready_any A c l w h)
 have u:=Hp (fun W(q:Below w.heap.size w W)=>SY A c l b W (h.row.below q) h.len)
 have s:=Hp (fun(e:ofErr l b=0)W(q:Below w.heap.size w W)=>reach_any A c l b g B r W P (h.below q) (ofErr_ok e).1 (by
  obtain⟨_,p,J,_,Q⟩:=ofErr_ok e
  rw[Q,Sq J]
  exact List.mem_map.2 ⟨_,GZ9 J,rfl⟩) (fun x O y N T C=>I (ofErr_ok e).1 x O y N T (q.trans (C.mono q.size))))
 obtain⟨E,d⟩:=Nm (ofErr l b)
 rw[<-d]at s ⊢
 unfold ofErr at d
 clear h I
 generalize reachT l r (tx b)=R at*
 generalize Dh l=ge at*
 obtain⟨H,n⟩:=Nm (idxOf (named b) l)
 rw[<-n]at d u
 clear n
 by_cases k:ge=0
 ·obtain rfl:=k
  rw[if_neg (by omega)]at d
  by_cases z:H<0
  ·rw[if_pos z]at d
   subst d
   clear s
   go_enter Tryz.func187,Tryz.ntmps187
   go_wp2_with (first|(go_at_call 136;(with_reducible refine(D.out).mono ?_);rintro e F ⟨rfl,a⟩)|(go_at_call 124;(with_reducible refine(u.out _ a).mono ?_);rintro e K ⟨rfl,j⟩))
   go_ret2
   exact⟨⟨_,rfl,TR.nil _ _⟩,a.trans (j.mono a.size)⟩
  ·rw[if_neg z]at d
   have L:decide (H<0)=false:=by simp;omega
   subst d
   have S:=Hp (s.out rfl)
   clear z s
   go_enter Tryz.func187,Tryz.ntmps187
   go_wp2_with (first
    |(go_at_call 136;refine(D.out).mono ?_;rintro e F ⟨rfl,a⟩)
    |(go_at_call 124;refine(u.out _ a).mono ?_;rintro e K ⟨rfl,j⟩;have f:=Hp (a.trans (j.mono a.size)))
    |(go_at_call 237;refine(S.out _ f.out).mono ?_;rintro e Y ⟨⟨v,rfl,m⟩,o⟩;have U:=Hp m;have V:=Hp o;clear m o))
   go_ret2
   exact⟨⟨_,rfl,U.more f.size⟩,f.trans (V.mono f.size)⟩
 ·rw[if_pos k]at d
  have M:(ge != 0)=true:=by simp[k]
  have G:(ge==0)=false:=by simp[k]
  have X:=Hp k
  subst d
  clear k u s
  go_enter Tryz.func187,Tryz.ntmps187
  go_wp2_with (first|(go_at_call 136;(with_reducible refine(D.out).mono ?_);rintro e F ⟨rfl,a⟩))
  go_ret2
  exact⟨⟨_,rfl,by first|exact TR.nil _ _|(rw[if_pos X.out];exact TR.nil _ _)⟩,a⟩
theorem needs1_any (A:Option Addr)(c:Nat)(l:List Plc)(B:Nat)(x y:Tx)(w:World)(h:aU w A l)(j:w.cell? ⟨B,0,none⟩=some (.slice A l.length c))(b:x∈txs l):
  Calls Tryz.prog 188 (#[.string (bs x),.string (bs y)]++ #[.pointer (some ⟨B,0,none⟩)]) w fun e g=>e=.returned (.bool (nU l x y))/\Below w.heap.size w g:=by
 have f:=Hp (BU A c l (bs x) (bs y) w h (by rw[Nh];exact b))
 simp only[Nh]at f
 generalize nU l x y=d at*
 clear h b
 go_enter Tryz.func188,Tryz.ntmps188
 go_wp2_with (first|(go_at_call 161;(with_reducible refine(f.out).mono ?_);rintro e i ⟨rfl,a⟩))
 go_ret
 exact⟨rfl,a⟩
theorem users1_any (A:Option Addr)(c:Nat)(l:List Plc)(B:Nat)(x y:Tx)(w:World)(h:aU w A l)(j:w.cell? ⟨B,0,none⟩=some (.slice A l.length c))(b:y∈txs l):
  Calls Tryz.prog 189 (#[.string (bs x),.string (bs y)]++ #[.pointer (some ⟨B,0,none⟩)]) w fun e g=>e=.returned (.bool (nU l y x))/\Below w.heap.size w g:=by
 have f:=Hp (BU A c l (bs y) (bs x) w h (by rw[Nh];exact b))
 simp only[Nh]at f
 generalize nU l y x=d at*
 clear h b
 go_enter Tryz.func189,Tryz.ntmps189
 go_wp2_with (first|(go_at_call 161;(with_reducible refine(f.out).mono ?_);rintro e i ⟨rfl,a⟩))
 go_ret
 exact⟨rfl,a⟩
def TxRes (b:World)(a:Nat)(e:Ending)(c:List Tx)(d:Int):Prop:=∃v,e=.returned (.tuple #[v,.int .i64 d])/\TR b a v c
theorem Needs_any (A:Option Addr)(c:Nat)(l:List Plc)(a:ByteArray)(w:World)(h:aU w A l):
  Calls Tryz.prog 117 #[.slice A l.length c,.string a] w fun e m=>TxRes m w.heap.size e (needsT l a) (ofErr l a)/\Below w.heap.size w m:=by
 obtain⟨q,d⟩:=Nm (w.alloc (.cells #[.slice A l.length c] 37))
 obtain⟨j,i,b⟩:=Ui d
 have p:=Hp (of_any A c l a 188 #[.pointer (some ⟨w.heap.size,0,none⟩)] (nU l) q (enters_of Tryz.func188 (by kernel_rfl) rfl) (h.below b)
  (fun _ x r y _ W o=>needs1_any A c l w.heap.size x y W ((h.below b).below o) ((o.cell (by simp;omega)).trans j) r))
 have k:=Hp b
 have s:=Hp (show(if ofErr l a≠0 then[]else reachT l (nU l) (tx a))=needsT l a from rfl)
 have n:=d.symm
 rw[s.out]at p
 generalize needsT l a=N at*
 generalize ofErr l a=E at*
 clear d b h i
 go_enter Tryz.func117,Tryz.ntmps117
 go_wp2_with (go_at_call 187;refine(p.out).mono ?_;rintro e z ⟨⟨v,rfl,f⟩,g⟩;have t:=Hp f;have u:=Hp g;clear f g)
 go_ret2
 exact⟨⟨_,rfl,t.more k.size⟩,k.trans (u.mono k.size)⟩
theorem Users_any (A:Option Addr)(c:Nat)(l:List Plc)(d:ByteArray)(w:World)(h:aU w A l):
  Calls Tryz.prog 118 #[.slice A l.length c,.string d] w fun e o=>TxRes o w.heap.size e (usersT l d) (ofErr l d)/\Below w.heap.size w o:=by
 obtain⟨s,g⟩:=Nm (w.alloc (.cells #[.slice A l.length c] 37))
 obtain⟨m,k,f⟩:=Ui g
 have r:=Hp (of_any A c l d 189 #[.pointer (some ⟨w.heap.size,0,none⟩)] (fun a b=>nU l b a) s (enters_of Tryz.func189 (by kernel_rfl) rfl) (h.below f)
  (fun _ x _ y t W q=>users1_any A c l w.heap.size x y W ((h.below f).below q) ((q.cell (by simp;omega)).trans m) t))
 have n:=Hp f
 have u:=Hp (show(if ofErr l d≠0 then[]else reachT l (fun a b=>nU l b a) (tx d))=usersT l d from rfl)
 have p:=g.symm
 rw[u.out]at r
 generalize usersT l d=N at*
 generalize ofErr l d=E at*
 clear g f h k
 go_enter Tryz.func118,Tryz.ntmps118
 go_wp2_with (go_at_call 187;refine(r.out).mono ?_;rintro e C ⟨⟨v,rfl,i⟩,j⟩;have z:=Hp i;have B:=Hp j;clear i j)
 go_ret2
 exact⟨⟨_,rfl,z.more n.size⟩,n.trans (B.mono n.size)⟩
end
section
open Go.RowKit
theorem wF (w:World):Calls Tryz.prog 72 #[] w fun e y=>(∃A c v u t s r q p o n m l j,e=.returned (.slice A 2 c)/\aU y A [⟨TH v u t s r q,1⟩,⟨lW p o n m l j,4⟩])/\Below w.heap.size w y:=by
 go_enter Tryz.func72,Tryz.ntmps72
 go_wp2_with (first|(go_at_call 114;refine(Jr _).mono ?_;rintro e D ⟨⟨v,u,t,s,r,q,rfl,f⟩,g⟩)|(go_at_call 112;refine(KF _).mono ?_;rintro e h ⟨⟨p,o,n,m,l,j,rfl,d⟩,b⟩))
 go_ret
 have i:=g.size
 have B:=b.size
 have a:=fun C=>(GZ4 h.heap.size h).alloc (GZ3 _) (.cells C 83)
 refine⟨⟨some ⟨h.heap.size,0,none⟩,2,v,u,t,s,r,q,p,o,n,m,l,j,rfl,Ry (enc:=Plc.cells) (k:=8) (fun _=>rfl) (heap_alloc_new h _) rfl,by unfold big;simp,?_⟩,(g.trans (b.mono i)).trans ((a _).mono (by omega))⟩
 intro x z
 simp only[List.mem_cons,List.not_mem_nil,or_false]at z
 rcases z with rfl|rfl
 ·exact(f.below b).below (a _)
 ·exact d.below (a _)
end
section
open Go.RowKit
def freeOf (l:List Plc):List Run:=if RY l≠0 then[]else RI l
theorem Free_any (A:Option Addr)(c:Nat)(l:List Plc)(w:World)(h:aU w A l):
  Calls Tryz.prog 59 #[.slice A l.length c] w fun e k=>(∃(j:Option Addr)(n:Nat),e=.returned (.tuple #[.slice j (freeOf l).length n,.int .i64 (RY l)])/\xD k j (freeOf l))/\Below w.heap.size w k:=by
 have i:=Hp (Ji A c l w h)
 obtain⟨E,d⟩:=Nm (RY l)
 have hF:freeOf l=if E≠0 then[]else RI l:=by unfold freeOf;rw[d]
 rw[<-d]at i ⊢
 by_cases f:E=0
 ·obtain rfl:=f
  have m:=Hp (fun W(q:Below w.heap.size w W)=>Hm A c l W (h.below q) d.symm)
  rw[if_neg (by omega)]at hF
  rw[<-hF]at m
  clear d hF h
  go_enter Tryz.func59,Tryz.ntmps59
  go_wp2_with (first|(go_at_call 137;refine(i.out).mono ?_;rintro e o ⟨rfl,a⟩)|(go_at_call 138;refine(m.out _ a).mono ?_;rintro e s ⟨⟨j,n,rfl,b⟩,g⟩;have r:=Hp b))
  go_ret2
  exact⟨⟨_,_,rfl,r.out⟩,a.trans (g.mono a.size)⟩
 ·have p:(E != 0)=true:=by simp[f]
  rw[if_pos f]at hF
  rw[hF]
  clear d hF h f
  go_enter Tryz.func59,Tryz.ntmps59
  go_wp2_with (first|(go_at_call 137;refine(i.out).mono ?_;rintro e o ⟨rfl,a⟩))
  go_ret2
  exact⟨⟨none,0,rfl,Row.nil⟩,a⟩
end
section
open Go.RowKit
open Gs (Tx)
abbrev gX (a1 a2 a3 b1 b2 b3:Option Addr)(a4 a5 a6 b4 b5 b6:Nat):List Plc:=[⟨TH a1 a2 a3 a4 a5 a6,1⟩,⟨lW b1 b2 b3 b4 b5 b6,4⟩]
section
variable (A:Option Addr) (c:Nat) (a1 a2 a3 b1 b2 b3:Option Addr) (a4 a5 a6 b4 b5 b6:Nat)
theorem UB :aX (RU A c) (gX a1 a2 a3 b1 b2 b3 a4 a5 a6 b4 b5 b6)=0:=by
 unfold aX
 have d:bJ (RU A c)=0:=by kernel_rfl
 have b:RY (gX a1 a2 a3 b1 b2 b3 a4 a5 a6 b4 b5 b6)=0:=by kernel_rfl
 have a:dD (gX a1 a2 a3 b1 b2 b3 a4 a5 a6 b4 b5 b6)=false:=by
  cases e:dD (gX a1 a2 a3 b1 b2 b3 a4 a5 a6 b4 b5 b6)
  ·rfl
  ·rw[SQ]at e
   exact absurd (show([[97,112,112],[108,105,98]]:List Tx).Nodup by decide) e
 rw[d,b,a];rfl
end
end
section
open Go.RowKit
def findOf (k:Krn)(l:List Plc)(i:Imp):Int×Int:=if iB k l≠0 then(0,iB k l)else if dP i≠0 then(0,dP i)else addrOf k l i
def allOf (k:Krn)(l:List Plc)(m:Mod):List Int×Int:=if iB k l≠0 then([],iB k l)else if aL m≠0 then([],aL m)else aN k l m.im
theorem Find_any (k:Krn)(A:Option Addr)(c:Nat)(l:List Plc)(i:Imp)(w:World)(H:k.ok w)(h:aU w A l)(I:i.mod.size<=big/\i.name.size<=big):
  Calls Tryz.prog 115 #[k.v,.slice A l.length c,i.v] w fun e Y=>e=.returned (.tuple #[.int .i64 (findOf k l i).1,.int .i64 (findOf k l i).2])/\Below w.heap.size w Y:=by
 obtain⟨V,n⟩:=Nm (w.alloc (.cells #[.int .i64 k.major,.int .i64 k.minor,.slice k.eA k.ex.length k.eC] 24))
 obtain⟨T,S,Q,F,z⟩:=uE n
 obtain⟨B,o⟩:=Nm (V.alloc (.cells #[.string i.mod,.string i.name,.int .i64 i.major,.int .i64 i.minor] 173))
 obtain⟨f0,f1,f2,f3,m,d⟩:=oJ o
 rw[F]at f0 f1 f2 f3 m d
 have k0:=(d.cell (p:=⟨w.heap.size,0,none⟩) (by simp)).trans T
 have k1:=(d.cell (p:=⟨w.heap.size,1,none⟩) (by simp)).trans S
 have k2:=(d.cell (p:=⟨w.heap.size,2,none⟩) (by simp)).trans Q
 have q:=Hp (show Below w.heap.size w B from z.trans (d.mono (by omega)))
 have HZ:=Hp m
 have N:=n.symm
 have O:=o.symm
 have a2:w.heap.size+1<B.heap.size:=by omega
 have a1:w.heap.size<B.heap.size:=by omega
 obtain⟨R,f⟩:=Nm (findOf k l i)
 rw[<-f]
 unfold findOf at f
 have E:=Hp (Placed_any k A c l B (H.below q.out) (h.below q.out))
 have D:=Hp (fun W=>Jn i.mod i.name i.major i.minor W I.1 I.2)
 have C:=Hp (fun hp W(P:Below w.heap.size w W)=>FQ k A c l i W (H.below P) (h.below P) hp)
 have U:dP i=dP ⟨i.mod,i.name,i.major,i.minor⟩:=rfl
 rw[<-U]at D
 clear n o z d H h I T S Q m U
 by_cases j:iB k l=0
 ·rw[if_neg (by omega)]at f
  rw[j]at E
  by_cases r:dP i=0
  ·rw[if_neg (by omega)]at f
   rw[r]at D
   have c4:=Hp (C.out j)
   clear j r C
   go_enter Tryz.func115,Tryz.ntmps115
   go_wp2_with (first|(go_at_call 134;refine(E.out).mono ?_;rintro e g ⟨rfl,a⟩;obtain⟨y,x⟩:=aJ a;have u:=a.size;have t:w.heap.size+1<g.heap.size:=(by omega);have s:w.heap.size<g.heap.size:=(by omega))|(go_at_call 185;refine(D.out _).mono ?_;rintro e X ⟨rfl,b⟩;obtain⟨K,J⟩:=aJ b;have G:=b.size)|(go_at_call 186;refine(c4.out _ ((q.trans (a.mono (by omega))).trans (b.mono (by omega)))).mono ?_;rintro e w3 ⟨rfl,L⟩))
   go_ret2
   exact⟨by rw[f];rfl,((q.trans (a.mono (by omega))).trans (b.mono (by omega))).trans (L.mono (by omega))⟩
  ·rw[if_pos r]at f
   have Z:(dP i != 0)=true:=by simp[r]
   generalize dP i=ie at*
   clear j r C
   go_enter Tryz.func115,Tryz.ntmps115
   go_wp2_with (first|(go_at_call 134;refine(E.out).mono ?_;rintro e g ⟨rfl,a⟩;obtain⟨y,x⟩:=aJ a;have u:=a.size;have t:w.heap.size+1<g.heap.size:=(by omega);have s:w.heap.size<g.heap.size:=(by omega))|(go_at_call 185;refine(D.out _).mono ?_;rintro e X ⟨rfl,b⟩;obtain⟨K,J⟩:=aJ b;have G:=b.size))
   go_ret2
   exact⟨by rw[f];rfl,(q.trans (a.mono (by omega))).trans (b.mono (by omega))⟩
 ·rw[if_pos j]at f
  have a0:(iB k l==0)=false:=by simp[j]
  have M:(iB k l != 0)=true:=by simp[j]
  clear j C
  generalize iB k l=pe at*
  go_enter Tryz.func115,Tryz.ntmps115
  go_wp2_with (go_at_call 134;refine(E.out).mono ?_;rintro e g ⟨rfl,a⟩;obtain⟨y,x⟩:=aJ a;have u:=a.size;have t:w.heap.size+1<g.heap.size:=(by omega);have s:w.heap.size<g.heap.size:=(by omega))
  go_ret2
  exact⟨by rw[f];rfl,q.trans (a.mono (by omega))⟩
theorem All_any (k:Krn)(A:Option Addr)(c:Nat)(l:List Plc)(m:Mod)(w:World)(K:k.ok w)(h:aU w A l)(J:m.ok w):
  Calls Tryz.prog 57 #[k.v,.slice A l.length c,m.v] w fun e Q=>
   (∃(G:Option Addr)(P:Nat),e=.returned (.tuple #[.slice G (allOf k l m).1.length P,.int .i64 (allOf k l m).2])/\AB Q G (allOf k l m).1)/\Below w.heap.size w Q:=by
 obtain⟨wk,o⟩:=Nm (w.alloc (.cells #[.int .i64 k.major,.int .i64 k.minor,.slice k.eA k.ex.length k.eC] 24))
 obtain⟨Z,Y,X,H,B⟩:=uE o
 obtain⟨D,q⟩:=Nm (wk.alloc (.cells #[.string m.name,.int .i64 m.major,.int .i64 m.minor,.string m.text,.slice m.eA m.ex.length m.eC,.slice m.iA m.im.length m.iC,.slice m.pA m.pa.length m.pC] 70))
 obtain⟨f0,f1,f2,f3,f4,f5,f6,n,d⟩:=wE q
 rw[H]at f0 f1 f2 f3 f4 f5 f6 n d
 have k0:=(d.cell (p:=⟨w.heap.size,0,none⟩) (by simp)).trans Z
 have k1:=(d.cell (p:=⟨w.heap.size,1,none⟩) (by simp)).trans Y
 have k2:=(d.cell (p:=⟨w.heap.size,2,none⟩) (by simp)).trans X
 have j:=Hp (show Below w.heap.size w D from B.trans (d.mono (by omega)))
 have HZ:=Hp n
 have U:=o.symm
 have V:=q.symm
 have a3:w.heap.size+1<D.heap.size:=by omega
 have a2:w.heap.size<D.heap.size:=by omega
 obtain⟨R,f⟩:=Nm (allOf k l m)
 rw[<-f]
 unfold allOf at f
 have F:=Hp (Placed_any k A c l D (K.below j.out) (h.below j.out))
 have O:=Hp (fun W(C:Below w.heap.size w W)=>oM m W (J.below C))
 have E:=Hp (fun hp hi W(C:Below w.heap.size w W)=>CZ k A c l m.name m.text m.major m.minor m.ex m.im m.pa m.eA m.iA m.pA m.eC m.iC m.pC W (K.below C) (h.below C) (J.below C).im hi hp)
 clear o q B d K h J Z Y X n
 by_cases i:iB k l=0
 ·rw[if_neg (by omega)]at f
  rw[i]at F
  by_cases r:aL m=0
  ·rw[if_neg (by omega)]at f
   rw[r]at O
   have T:=aY r
   have c4:=Hp (E.out i T.2.2.2.2.2.2.1)
   clear i r E T
   go_enter Tryz.func57,Tryz.ntmps57
   go_wp2_with (first|(go_at_call 134;refine(F.out).mono ?_;rintro e g ⟨rfl,a⟩;obtain⟨z,y⟩:=aJ a;have u:=a.size;have t:w.heap.size+1<g.heap.size:=(by omega);have s:w.heap.size<g.heap.size:=(by omega))|(go_at_call 113;refine(O.out _ (j.trans (a.mono (by omega)))).mono ?_;rintro e w2 ⟨rfl,b⟩;obtain⟨M,L⟩:=aJ b;have I:=b.size)|(go_at_call 135;refine(c4.out _ ((j.trans (a.mono (by omega))).trans (b.mono (by omega)))).mono ?_;rintro e w3 ⟨⟨G,P,rfl,x⟩,N⟩))
   go_ret2
   exact⟨⟨G,P,by rw[f];rfl,by rw[f];exact x⟩,((j.trans (a.mono (by omega))).trans (b.mono (by omega))).trans (N.mono (by omega))⟩
  ·rw[if_pos r]at f
   have a0:(aL m != 0)=true:=by simp[r]
   clear i r E
   generalize aL m=ie at*
   go_enter Tryz.func57,Tryz.ntmps57
   go_wp2_with (first|(go_at_call 134;refine(F.out).mono ?_;rintro e g ⟨rfl,a⟩;obtain⟨z,y⟩:=aJ a;have u:=a.size;have t:w.heap.size+1<g.heap.size:=(by omega);have s:w.heap.size<g.heap.size:=(by omega))|(go_at_call 113;refine(O.out _ (j.trans (a.mono (by omega)))).mono ?_;rintro e w2 ⟨rfl,b⟩;obtain⟨M,L⟩:=aJ b;have I:=b.size))
   go_ret2
   exact⟨⟨none,0,by rw[f];rfl,by rw[f];exact Row.nil⟩,(j.trans (a.mono (by omega))).trans (b.mono (by omega))⟩
 ·rw[if_pos i]at f
  have a1:(iB k l==0)=false:=by simp[i]
  have S:(iB k l != 0)=true:=by simp[i]
  clear i E
  generalize iB k l=pe at*
  go_enter Tryz.func57,Tryz.ntmps57
  go_wp2_with (go_at_call 134;refine(F.out).mono ?_;rintro e g ⟨rfl,a⟩;obtain⟨z,y⟩:=aJ a;have u:=a.size;have t:w.heap.size+1<g.heap.size:=(by omega);have s:w.heap.size<g.heap.size:=(by omega))
  go_ret2
  exact⟨⟨none,0,by rw[f];rfl,by rw[f];exact Row.nil⟩,j.trans (a.mono (by omega))⟩
theorem int_at {w c:World}{A:Option Addr}{l:List Int}(h:AB w A l)(g:Below w.heap.size w c)(i:Nat)(e:i<l.length):
  ∃b,A=some b/\b.block<w.heap.size/\c.cell? (b.add i)=some (.int .i64 l[i]):=by
 obtain⟨b,rfl,a,f⟩:=Row.at_ (enc:=fun n=>[iv n]) (k:=1) (fun _=>rfl) h i e
 have d:=f 0 _ rfl
 rw[add_zero_,Nat.mul_one]at d
 exact⟨b,rfl,a,(g.cell (by rw[aA];exact a)).trans d⟩
theorem SameInts_any (A B:Option Addr)(c d:Nat)(l r:List Int)(w:World)(h:AB w A l)(G:AB w B r)(K:l.length<=big)(J:r.length<=big):
  Calls Tryz.prog 116 #[.slice A l.length c,.slice B r.length d] w fun e I=>e=.returned (.bool (decide (l=r)))/\Below w.heap.size w I:=by
 unfold big at K J
 have O:=Hp h
 have N:=Hp G
 clear h G
 obtain⟨R,y⟩:=Nm (decide (l=r))
 rw[<-y]
 have C:=Hp y
 clear y
 by_cases a:l.length=r.length
 ·have m:((l.length:Int) != r.length)=false:=by simp;omega
  have z:=Hp a
  clear a
  go_enter Tryz.func116,Tryz.ntmps116
  go_wp2_with fail
  go_loopw [5] (fun i wr=>∃j:Nat,j<=l.length/\i=.int .i64 j/\(∀k(q:k<l.length)(b:k<r.length),k<j->l[k]=r[k])/\Below w.heap.size w wr) (fun i _=>l.length -(intOf i).toNat)
  case atStart=>exact⟨0,by omega,rfl,by omega,GZ4 _ _⟩
  case round=>
   obtain⟨j,Q,rfl,F,p⟩:=hrel
   have H:=Hp F
   have D:=Hp p
   clear F
   have g:=z.out
   by_cases t:j<l.length
   ·have o:j<r.length:=by omega
    have E:(j:Int)<l.length:=by omega
    have s:(j:Int)<r.length:=by omega
    obtain⟨V,rfl,M,T⟩:=int_at O.out p j t
    obtain⟨U,rfl,L,S⟩:=int_at N.out p j o
    clear p g
    by_cases n:l[j]=r[j]
    ·have x:(l[j] != r[j])=false:=by simp[n]
     have P:=Hp n
     clear n
     go_wp2_with fail
     go_quiet (fail)
     go_wp2_with fail
     go_roundw
     case rel=>exact⟨j+1,by omega,by go_num,fun k q b u=>by rcases Nat.lt_succ_iff_lt_or_eq.1 u with h|rfl;exact H.out k q b h;exact P.out,below_drewN D.out _⟩
     case measure=>(simp[intOf];try omega)
    ·have x:(l[j] != r[j])=true:=by simp[n]
     have f:=Hp (show R=false by rw[C.out];simp only[decide_eq_false_iff_not];rintro rfl;exact n rfl)
     clear n
     go_wp2_with fail
     go_quiet (fail)
     go_wp2_with fail
     go_ret
     exact⟨aV f.symm,below_drewN D.out _⟩
   ·have v:=Hp (show R=true by rw[C.out];simp only[decide_eq_true_eq];exact List.ext_getElem g (fun k q b=>H.out k q b (by omega)))
    clear p g
    go_wp2_with fail
    go_ret
    exact⟨aV v.symm,D.out⟩
 ·have m:((l.length:Int) != r.length)=true:=by simp;omega
  have f:=Hp (show R=false by rw[C.out];simp only[decide_eq_false_iff_not];rintro rfl;exact a rfl)
  clear a
  go_enter Tryz.func116,Tryz.ntmps116
  go_wp2_with fail
  go_ret
  exact⟨aV f.symm,GZ4 _ _⟩
end
end Go.Proofs.YtjiedaialianmaaGreat
