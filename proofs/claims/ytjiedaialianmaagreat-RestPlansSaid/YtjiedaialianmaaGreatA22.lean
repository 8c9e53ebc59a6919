import Derived.Test.YtjiedaialianmaaGreatA19
import Derived.Test.YtjiedaialianmaaGreatA21
set_option maxRecDepth 100000
set_option maxHeartbeats 8000000
namespace Go.Proofs.YtjiedaialianmaaGreat
section
open Go.RowKit Go.Lib
def Fz :List Value:=[.string ⟨#[]⟩,.int .i64 0,.int .i64 0,.string ⟨#[]⟩,.slice none 0 0,.slice none 0 0,.slice none 0 0,.int .i64 0]
theorem N8 :(Builtin.zeroCells kN.cells 1).toList=Fz:=by simp[Builtin.zeroCells,Value.cells,Fz];rfl
theorem Kq :∀v∈Fz,v.oneCell'=true:=by
 intro v a
 simp only[Fz,List.mem_cons,List.not_mem_nil,or_false]at a
 rcases a with rfl|rfl|rfl|rfl|rfl|rfl|rfl|rfl<;>rfl
theorem Ir (m g c n i:Nat)(l:List Plc)(w:World)(a:Array Value)(U:w.heap[g]? =some (.cells a 83 (0,0)))(b:a.size=c*8)(x:a.toList.take (l.length*8)=l.flatMap Plc.cells)
  (Q:m<=g) (hn:n+1=l.length) (hi:i<=n) (h8:n<=1000) (a7:n+1<=c) (H:c<=maxLen):
  Calls Tryz.prog 267 #[.slice (some ⟨g,0,none⟩) (n+1) c,.int .i64 i,.int .i64 ((i:Int)+1)] w fun e w'=>
   e=.returned (.slice (some ⟨g,0,none⟩) n c)/\aP w' m (.slice (some ⟨g,0,none⟩) n c) (l.eraseIdx i)/\Only g w w':=by
 obtain⟨i0,N,Y,r,X⟩:=info_parts Tryz.vH
 obtain⟨F,hF⟩:=Nm (l.flatMap Plc.cells)
 have k:F.length=(n+1)*8:=by rw[hF,hn];exact mK l
 rw[<-hF]at x
 have S:∀v∈F,v.oneCell'=true:=by rw[hF];exact pG l
 have f:(F.drop ((i+1)*8)).length=(n -i)*8:=by rw[List.length_drop,k];omega
 have R:∀j v,F[j]? =some v->w.drew.cell? ⟨g,j,none⟩=some v:=mH (w:=w.drew) U x
 obtain⟨A,W,D⟩:∃A:Addr,(if c=i+1 then(⟨g,0,none⟩:Addr)else⟨g,(i+1)*8,none⟩)=A/\(∀t u,(F.drop ((i+1)*8))[t]? =some u->w.drew.cell? (A.add t)=some u):=by
  by_cases h:c=i+1
  ·refine⟨⟨g,0,none⟩,by simp[h],fun t u T=>?_⟩
   have h0:(F.drop ((i+1)*8)).length=0:=by rw[f];omega
   rw[List.length_eq_zero_iff.1 h0]at T
   simp at T
  ·refine⟨⟨g,(i+1)*8,none⟩,by simp[h],fun t u T=>?_⟩
   rw[Addr.add_lit]
   exact R _ u (by rwa [List.getElem?_drop]at T)
 have J:∀o C,(Builtin.append_ #[37,37] o #[.slice (some ⟨g,0,none⟩) i c,.slice (some A) (n -i) C]).run Tryz.prog w.drew=.ok (.slice (some ⟨g,0,none⟩) n c) (w.drew.setRow g (spl a (i*8) (F.drop ((i+1)*8)))):=fun o C=>by
  have h:=run_append_room (P:=Tryz.prog) (w:=w.drew) 37 o 83 i0 Tryz.underlying37 N g i c a U A (n -i) C (F.drop ((i+1)*8)) (by rw[f,r]) D (fun v hv=>S v (List.mem_of_mem_drop hv)) (by omega) (by rw[f,r,b];omega)
  rw[r,show i+(n -i)=n by omega]at h
  exact h
 obtain⟨E,B⟩:=Nm (w.drew.setRow g (spl a (i*8) (F.drop ((i+1)*8))))
 rw[<-B]at J
 have G:E.heap[g]? =some (.cells (spl a (i*8) (F.drop ((i+1)*8))) 83 (0,0)):=by rw[B];exact setRow_heap w.drew _ _ _ _ _ U
 have M:Only g w E:=B▸(show Only g w (w.drew.setRow g _) from⟨rfl,rfl,rfl,(Only.row (w:=w) (g:=g) (spl a (i*8) (F.drop ((i+1)*8)))).size,(Only.row (w:=w) (g:=g) (spl a (i*8) (F.drop ((i+1)*8)))).block⟩)
 have s:(spl a (i*8) (F.drop ((i+1)*8))).size=c*8:=by
  rw[<-b]
  exact oK (by rw[f,b];omega)
 obtain⟨Z,V⟩:=Nm Fz
 have y:Z.length=8:=by rw[V];rfl
 have I:∀o C,(Builtin.clear_ #[37] o #[.slice (some ⟨g,n*8,none⟩) 1 C]).run Tryz.prog E=.ok (.tuple #[]) (E.setRow g (spl (spl a (i*8) (F.drop ((i+1)*8))) (n*8) Z)):=fun o C=>
  Fx E 37 83 o kN Tryz.underlying37 (fun w=>by kernel_rfl) g (n*8) 1 C (by omega) (spl a (i*8) (F.drop ((i+1)*8))) 83 Z (N8.trans V.symm) G (by rw[y,s];omega) (by rw[V];exact Kq)
 obtain⟨W2,z⟩:=Nm (E.setRow g (spl (spl a (i*8) (F.drop ((i+1)*8))) (n*8) Z))
 rw[<-z]at I
 have O:W2.heap[g]? =some (.cells (spl (spl a (i*8) (F.drop ((i+1)*8))) (n*8) Z) 83 (0,0)):=by rw[z];exact setRow_heap E _ _ _ _ _ G
 have K:Only g w W2:=M.trans (z▸Only.row _)
 have d:(l.eraseIdx i).length=n:=by rw[List.length_eraseIdx];split<;>omega
 have HO:=Hp (show aP W2 m (.slice (some ⟨g,0,none⟩) n c) (l.eraseIdx i) from
  oZ Q O d.symm (by omega) H (by rw[oK (by rw[s,y];omega),s]) (by
   rw[d]
   have:=NI (L:=a.toList) (F:=F) (Z:=Z) (p:=i*8) (q:=8) (by omega) (by rw[k,hn];exact x) (by rw[k,Array.length_toList,b];omega) y
   rw[k,show i*8+8=(i+1)*8 by omega,show(n+1)*8 -8=n*8 by omega]at this
   refine this.trans ?_
   rw[hF,vJ,Ua,<-List.flatMap_append,List.eraseIdx_eq_take_drop_succ]))
 have HB:=Hp K
 have HA:=Hp J
 have HC:=Hp I
 have a5:IntKind.i64.wrap ((i:Int)+1)=(i:Int)+1:=by rw[IntKind.wrap_i64];omega
 have a3:(0:Int)<=(i:Int)+1:=by omega
 have a8:i<=n:=by omega
 have a6:((i:Int)+1).toNat=i+1:=by omega
 have b6:(i:Int)+1<=(n:Int)+1:=by omega
 have b5:¬(c=i):=by omega
 have b4:¬(c=n):=by omega
 have b3:¬(n+1=i):=by omega
 have b2:¬((i:Int)=(i:Int)+1):=by omega
 have b1:i<=n+1:=by omega
 have b0:i<=c:=by omega
 have a2:i+1<=c:=by omega
 have a4:c<=9223372036854775807:=by unfold maxLen at H;omega
 clear U b x Q hn hF k S f R D J B G M s V y I z O K d H N Y r X
 have a9:=HC.out
 by_cases h:c=i+1
 ·rw[if_pos h]at W
  subst W
  obtain rfl:n=i:=by omega
  subst h
  have a0:=Hp (show∀o C,(Builtin.append_ #[37,37] o #[.slice (some ⟨g,0,none⟩) n (n+1),.slice (some ⟨g,0,none⟩) 0 C]).run Tryz.prog w.drew=.ok (.slice (some ⟨g,0,none⟩) n (n+1)) E by have:=HA.out;rwa [Nat.sub_self]at this)
  have a1:(n:Int)<=(n:Int)+1:=by omega
  go_enter Tryz.func267,Tryz.ntmps267
  go_wp2_with fail
  go_region_law (refine TQ rfl _ _ 37 37 rfl (.slice (some ⟨g,0,none⟩) n (n+1)) (.slice (some ⟨g,0,none⟩) 0 0) (by simp[Act.eval,Act.put]) (by simp[Act.eval,Act.put]) (a0.out _ _) ?_)
  go_wp2_with fail
  go_ret
  exact⟨rfl,HO.out,HB.out⟩
 ·rw[if_neg h]at W
  subst W
  go_enter Tryz.func267,Tryz.ntmps267
  go_wp2_with fail
  go_region_law (refine TQ rfl _ _ 37 37 rfl (.slice (some ⟨g,0,none⟩) i c) (.slice (some ⟨g,(i+1)*8,none⟩) (n -i) (c -(i+1))) (by simp[Act.eval,Act.put]) (by simp[Act.eval,Act.put]) (HA.out _ _) ?_)
  go_wp2_with fail
  go_ret
  exact⟨rfl,HO.out,HB.out⟩
end
section
open Go.RowKit Go.Lib
theorem Gz (A:Option Addr)(c:Nat)(l:List Plc)(g:Nat)(f:Array Value)(q:Plc->Bool)(w:World)(n:∀a w,(callFunc g a).run Tryz.prog w=.ok (.enter g a) w)(h:Row Plc.cells 8 w A l)(m:l.length<=big)
  (k:∀x∈l,∀W,Below w.heap.size w W->Calls Tryz.prog g (#[x.v]++f) W fun e d=>e=.returned (.bool (q x))/\Below W.heap.size W d):
  Calls Tryz.prog 265 #[.slice A l.length c,.func (.func g) #[] f] w fun e d=>e=.returned (.bool (l.any q))/\Below w.heap.size w d:=by
 have p:=Hp (UO A c l g f q w n h m k)
 have o:=Hp (rY q l)
 generalize l.any q=b at*
 generalize idxOf q l=i at*
 clear h k
 go_enter Tryz.func265,Tryz.ntmps265
 go_wp2_with (go_at_call 191;refine(p.out).mono ?_;rintro e r ⟨rfl,j⟩)
 go_ret
 exact⟨aV o.out,j⟩
theorem GR (A:Option Addr)(c:Nat)(l:List Run)(g:Nat)(f:Array Value)(q:Run->Bool)(w:World)(n:∀a w,(callFunc g a).run Tryz.prog w=.ok (.enter g a) w)(h:Row Run.cells 2 w A l)(m:l.length<=big)
  (k:∀x∈l,∀W,Below w.heap.size w W->Calls Tryz.prog g (#[x.v]++f) W fun e d=>e=.returned (.bool (q x))/\Below W.heap.size W d):
  Calls Tryz.prog 268 #[.slice A l.length c,.func (.func g) #[] f] w fun e d=>e=.returned (.bool (l.any q))/\Below w.heap.size w d:=by
 have p:=Hp (Ae A c l g f q w n h m k)
 have o:=Hp (rY q l)
 generalize l.any q=b at*
 generalize idxOf q l=i at*
 clear h k
 go_enter Tryz.func268,Tryz.ntmps268
 go_wp2_with (go_at_call 238;refine(p.out).mono ?_;rintro e r ⟨rfl,j⟩)
 go_ret
 exact⟨aV o.out,j⟩
def oN (l:List Plc)(a:ByteArray):Bool:=l.any fun x=>nU l (tx x.m.name) (tx a)
theorem LA (A:Option Addr)(c:Nat)(l:List Plc)(d:ByteArray)(x:Plc)(B C:Nat)(w:World)(h:aU w A l)(g:x∈l)(o:w.cell? ⟨B,0,none⟩=some (.slice A l.length c))(n:w.cell? ⟨C,0,none⟩=some (.string d))(k:B<w.heap.size)(j:C<w.heap.size):
  Calls Tryz.prog 266 (#[x.v]++ #[.pointer (some ⟨B,0,none⟩),.pointer (some ⟨C,0,none⟩)]) w fun e s=>e=.returned (.bool (nU l (tx x.m.name) (tx d)))/\Below w.heap.size w s:=by
 obtain⟨r,b⟩:=Nm (w.alloc (.cells #[.string x.m.name,.int .i64 x.m.major,.int .i64 x.m.minor,.string x.m.text,.slice x.m.eA x.m.ex.length x.m.eC,.slice x.m.iA x.m.im.length x.m.iC,.slice x.m.pA x.m.pa.length x.m.pC,.int .i64 x.first] 83))
 obtain⟨L,K,J,I,H,G,F,E,t,a⟩:=zH b
 have D:=(a.cell (p:=⟨B,0,none⟩) k).trans o
 have z:=(a.cell (p:=⟨C,0,none⟩) j).trans n
 have u:=Hp (BU A c l x.m.name d r (h.below a) (List.mem_map.2 ⟨x,g,rfl⟩))
 have q:=Hp a
 have i:=b.symm
 clear b a t h g o n k j
 go_enter Tryz.func266,Tryz.ntmps266
 go_wp2_with (go_at_call 161;refine(u.out).mono ?_;rintro e y ⟨rfl,f⟩)
 go_ret
 exact⟨rfl,q.trans (f.mono q.size)⟩
theorem NN (A:Option Addr)(c:Nat)(l:List Plc)(f:ByteArray)(w:World)(h:aU w A l):
  Calls Tryz.prog 247 #[.slice A l.length c,.string f] w fun e B=>e=.returned (.bool (oN l f))/\Below w.heap.size w B:=by
 obtain⟨n,d⟩:=Nm (w.alloc (.cells #[.slice A l.length c] 37))
 obtain⟨o,a⟩:=Nm (n.alloc (.cells #[.string f] 9))
 have s:n.heap.size=w.heap.size+1:=by subst d;simp
 have C:o.heap.size=w.heap.size+2:=by subst a;simp;omega
 have r:Boxed n w.heap.size 37 (.slice A l.length c):=d▸Boxed.new _ _ _
 have q:Boxed o (w.heap.size+1) 9 (.string f):=by rw[<-s];exact a▸Boxed.new _ _ _
 have j:Below w.heap.size w n:=d▸ZB
 have i:Below n.heap.size n o:=a▸ZB
 have k:Boxed o w.heap.size 37 (.slice A l.length c):=dX r i (by omega)
 have g:=j.trans (i.mono j.size)
 have z:=Hp g
 have G:=k.cell
 have y:=Hp (Gz A c l 266 #[.pointer (some ⟨w.heap.size,0,none⟩),.pointer (some ⟨w.heap.size+1,0,none⟩)] (fun x=>nU l (tx x.m.name) (tx f)) o (enters_of Tryz.func266 (by kernel_rfl) rfl) (h.row.below g) h.len
  (fun x D W p=>LA A c l f x w.heap.size (w.heap.size+1) W ((h.below g).below p) D (dX k p (by omega)).cell (dX q p (by omega)).cell (by have:=p.size;omega) (by have:=p.size;omega)))
 have v:=d.symm
 have u:=a.symm
 have E:=Hp (show l.any (fun x=>nU l (tx x.m.name) (tx f))=oN l f from rfl)
 rw[E.out]at y
 generalize oN l f=b at*
 clear d a r q j i k g h
 go_enter Tryz.func247,Tryz.ntmps247
 go_wp2_with (go_at_call 265;refine(y.out).mono ?_;rintro e F ⟨rfl,t⟩)
 go_ret
 exact⟨rfl,z.trans (t.mono z.size)⟩
end
section
open Go.RowKit Go.Lib
structure RJ (W:World)(base bp:Nat)(k:Krn)(A:Option Addr)(l:List Plc)(c:Nat):Prop where
 heap:W.heap[bp]? =some (.cells #[.int .i64 k.major,.int .i64 k.minor,.slice k.eA k.ex.length k.eC,.slice A l.length c] 281 (0,0))
 own:jS W base k A l c
 ok:aU W A l
 low:base<=bp
theorem RJ.below {W e:World}{a d:Nat}{k:Krn}{A:Option Addr}{l:List Plc}{c:Nat}(h:RJ W a d k A l c)(b:Below W.heap.size W e):RJ e a d k A l c:=
 ⟨(b.block d (ZL h.heap)).trans h.heap,h.own.below b,h.ok.below b,h.low⟩
theorem RJ.size {W:World}{base a:Nat}{k:Krn}{A:Option Addr}{l:List Plc}{c:Nat}(h:RJ W base a k A l c):base<=W.heap.size:=GY1 h.low (GY2 (ZL h.heap))
def jU (first many:Int)(r:Run):Bool:=decide (r.first<=first)&&decide (first+many<=r.first+r.many)
theorem Lb (r:Run)(first many:Int)(B C:Nat)(w:World)(l:w.cell? ⟨B,0,none⟩=some (.int .i64 first))(k:w.cell? ⟨C,0,none⟩=some (.int .i64 many))(j:B<w.heap.size)(i:C<w.heap.size)
  (p: -1000<=first/\first<=1000) (o: -1000<=many/\many<=1000) (n: -1000<=r.first/\r.first<=1000) (m: -1000<=r.many/\r.many<=1000):
  Calls Tryz.prog 269 (#[r.v]++ #[.pointer (some ⟨B,0,none⟩),.pointer (some ⟨C,0,none⟩)]) w fun e b=>e=.returned (.bool (jU first many r))/\Below w.heap.size w b:=by
 have f:=IntWalk.i64_in (first+many) (by omega)
 have d:=IntWalk.i64_in (r.first+r.many) (by omega)
 have h:B≠w.heap.size:=by omega
 have g:C≠w.heap.size:=by omega
 unfold jU
 by_cases t:r.first<=first
 ·by_cases s:first+many<=r.first+r.many
  ·have a:decide (r.first<=first)=true:=decide_eq_true t
   have c:decide (first+many<=r.first+r.many)=true:=decide_eq_true s
   go_enter Tryz.func269,Tryz.ntmps269
   go_wp2_with fail
   go_ret
   exact⟨by simp[t,s],ZB⟩
  ·have a:decide (r.first<=first)=true:=decide_eq_true t
   have c:decide (first+many<=r.first+r.many)=false:=GY7 s
   go_enter Tryz.func269,Tryz.ntmps269
   go_wp2_with fail
   go_ret
   exact⟨by simp,ZB⟩
 ·have a:decide (r.first<=first)=false:=GY7 t
  go_enter Tryz.func269,Tryz.ntmps269
  go_wp2_with fail
  go_ret
  exact⟨by simp,ZB⟩
theorem Ac :∀{l:List Plc}{a:Int},bW a l->∀r∈dC a l,a<=r.first/\0<r.many/\r.first+r.many<=16
 | [],a,h,r,b=>by
  have:a<=16:=h
  unfold dC Rb at b
  split at b
  ·rw[List.mem_singleton.1 b];simp only;omega
  ·cases b
 |x::l,a,⟨h1,h2,h3,h4⟩,r,b=>by
  have c:=h4.le
  have e:aR x=x.first+aH x.m:=rfl
  unfold dC at b
  rcases List.mem_append.1 b with b|b
  ·unfold Rb at b
   split at b
   ·rw[List.mem_singleton.1 b];simp only;omega
   ·cases b
  ·have:=Ac h4 r b
   omega
theorem MN (y E:Nat)(k:Krn)(A:Option Addr)(c:Nat)(l:List Plc)(first many:Int)(w:World)(h:RJ w y E k A l c)(z:RY l=0)(Q: -1000<=first/\first<=1000)(P: -1000<=many/\many<=1000):
  Calls Tryz.prog 249 #[.pointer (some ⟨E,0,none⟩),.int .i64 first,.int .i64 many] w fun e K=>e=.returned (.bool ((RI l).any (jU first many)))/\Below w.heap.size w K:=by
 obtain⟨s,g⟩:=Nm (w.alloc (.cells #[.int .i64 first] 3))
 obtain⟨m,f⟩:=Nm (s.alloc (.cells #[.int .i64 many] 3))
 have B:s.heap.size=w.heap.size+1:=by subst g;simp
 have M:m.heap.size=w.heap.size+2:=by subst f;simp;omega
 have v:Boxed s w.heap.size 3 (.int .i64 first):=g▸Boxed.new _ _ _
 have t:Boxed m (w.heap.size+1) 3 (.int .i64 many):=by rw[<-B];exact f▸Boxed.new _ _ _
 have p:Below w.heap.size w s:=g▸ZB
 have n:Below s.heap.size s m:=f▸ZB
 have u:Boxed m w.heap.size 3 (.int .i64 first):=dX v n (by omega)
 have i:=p.trans (n.mono p.size)
 have F:=Hp i
 have L:=heap_cell ((i.block E (ZL h.heap)).trans h.heap) 3
 simp only[GZ2,GZ0,GZ1]at L
 have S:=Hp (Hm A c l m (h.ok.below i) z)
 have a:=(cZ z).2.2
 have d:∀r∈RI l,0<=r.first/\0<r.many/\r.first+r.many<=16:=Ac a
 have j:(RI l).length<=big:=by have:=iY l 0;have:=(cZ z).1;unfold RI big;omega
 have V:=Hp (fun G J W(D:Below m.heap.size m W)(a:xD W G (RI l))=>GR G J (RI l) 269 #[.pointer (some ⟨w.heap.size,0,none⟩),.pointer (some ⟨w.heap.size+1,0,none⟩)] (jU first many) W (enters_of Tryz.func269 (by kernel_rfl) rfl) a j
  (fun x N T q=>by
   have Z:=D.size
   have O:=q.size
   have:=d x N
   exact Lb x first many w.heap.size (w.heap.size+1) T (dX (dX u D (by omega)) q (by omega)).cell (dX (dX t D (by omega)) q (by omega)).cell (by omega) (by omega) Q P (by omega) (by omega)))
 have I:=g.symm
 have H:=f.symm
 generalize(RI l).any (jU first many)=b at*
 generalize RI l=R at*
 clear g f v t p n u i h z a d j
 go_enter Tryz.func249,Tryz.ntmps249
 go_wp2_with (first|(go_at_call 138;refine(S.out).mono ?_;rintro e Y ⟨⟨G,J,rfl,a⟩,o⟩;have U:=Hp a;clear a)|(go_at_call 268;refine(V.out _ _ _ o U.out).mono ?_;rintro e X ⟨rfl,C⟩))
 go_ret
 exact⟨rfl,F.trans ((o.mono F.size).trans (C.mono (GY1 F.size o.size)))⟩
end
section
open Go
open Gs (Tx)
structure Cm where
 kind:Int
 m:Mod
 nm:ByteArray
def SA (l:List Plc)(m:Mod):Int:=
 if aL m≠0 then aL m else if 0<=idxOf (named m.name) l then 6 else if l.length=8 then 2 else if fM (aH m) (RI l)<0 then 8 else 0
def oD (l:List Plc)(m:Mod):List Plc:=fH l m (fM (aH m) (RI l))
def lF (l:List Plc)(a:ByteArray):Int:=if idxOf (named a) l<0 then 5 else if oN l a=true then 4 else 0
def Rc (l:List Plc)(a:ByteArray):List Plc:=l.eraseIdx (idxOf (named a) l).toNat
def dH (l:List Plc)(a:ByteArray):Int:=match l.find? (named a)with
 |some x=>x.first
 |none=>0
def Dx (l:List Plc)(m:Mod):Int:=
 if(RI (Rc l m.name)).any (jU (dH l m.name) (aH m))=true then dH l m.name else fM (aH m) (RI (Rc l m.name))
def kD (l:List Plc)(m:Mod):Int:=if aL m≠0 then aL m else if idxOf (named m.name) l<0 then 5 else if Dx l m<0 then 8 else 0
def qF (l:List Plc)(m:Mod):List Plc:=fH (Rc l m.name) m (Dx l m)
def kC (c:Cm)(l:List Plc):Int:=if c.kind=1 then SA l c.m else if c.kind=2 then lF l c.nm else kD l c.m
def cmL (c:Cm)(l:List Plc):List Plc:=if c.kind=1 then oD l c.m else if c.kind=2 then Rc l c.nm else qF l c.m
def kP (k:Krn)(c:Cm)(l:List Plc):Int:=if kC c l≠0 then kC c l else aZ k (cmL c l)
theorem kU (l:List Plc)(m:Mod)(f:Int):aD (fH l m f)=fH (aD l) m.bare f:=by
 unfold fH aD
 rw[List.map_append,List.map_cons,List.takeWhile_map,List.dropWhile_map]
 rfl
theorem sW :∀(l:List Plc)(a:Int),dC a (aD l)=dC a l
 | [],_=>rfl
 |x::l,a=>by
  show Rb a x.bare.first++dC (aR x.bare) (aD l)=_
  rw[sW l];rfl
theorem Tt (l:List Plc):RI (aD l)=RI l:=sW l 0
theorem qB (a:ByteArray):∀l,idxOf (named a) (aD l)=idxOf (named a) l
 | []=>rfl
 |x::l=>by
  show idxOf (named a) (x.bare::aD l)=_
  unfold idxOf
  rw[qB a l];rfl
theorem Cv {α β:Type}(f:α->β):∀(l:List α)(i:Nat),(l.eraseIdx i).map f=(l.map f).eraseIdx i
 | [],_=>rfl
 |_::_,0=>rfl
 |x::l,i+1=>by
  show f x::(l.eraseIdx i).map f=f x::(l.map f).eraseIdx i
  rw[Cv f l i]
theorem Ur (l:List Plc)(a:ByteArray):aD (Rc l a)=Rc (aD l) a:=by
 unfold Rc
 rw[qB,aD,Cv]
theorem Kb (l:List Plc)(a b:Tx):nU (aD l) a b=nU l a b:=by
 have h:∀l:List Plc,(aD l).find? (Us a)=(l.find? (Us a)).map Plc.bare:=by
  intro l
  induction l with
  |nil=>rfl
  |cons x l ih=>
   show(x.bare::aD l).find? (Us a)=_
   rw[List.find?_cons,List.find?_cons,ih]
   have:Us a x.bare=Us a x:=rfl
   rw[this]
   cases Us a x<;>rfl
 unfold nU
 rw[h]
 cases l.find? (Us a)<;>rfl
theorem Iu (l:List Plc)(a:ByteArray):oN (aD l) a=oN l a:=by
 unfold oN
 rw[aD,List.any_map]
 congr 1
 funext x
 exact Kb l _ _
theorem Es (l:List Plc)(a:ByteArray):dH (aD l) a=dH l a:=by
 unfold dH
 rw[xZ]
 cases l.find? (named a)<;>rfl
theorem Eu (l:List Plc)(m:Mod):SA (aD l) m.bare=SA l m:=by
 unfold SA
 rw[show m.bare.name=m.name from rfl,qB,Tt,mO];rfl
theorem JK (l:List Plc)(m:Mod):aD (oD l m)=oD (aD l) m.bare:=by
 unfold oD
 rw[kU,Tt];rfl
theorem GQ (l:List Plc)(a:ByteArray):lF (aD l) a=lF l a:=by
 unfold lF
 rw[qB,Iu]
theorem zT (l:List Plc)(m:Mod):Dx (aD l) m.bare=Dx l m:=by
 unfold Dx
 rw[show m.bare.name=m.name from rfl,<-Ur,Tt,Es];rfl
theorem FY (l:List Plc)(m:Mod):kD (aD l) m.bare=kD l m:=by
 unfold kD
 rw[zT,show m.bare.name=m.name from rfl,qB];rfl
theorem LU (l:List Plc)(m:Mod):aD (qF l m)=qF (aD l) m.bare:=by
 unfold qF
 rw[kU,Ur,zT];rfl
def Cm.bare (c:Cm):Cm:=⟨c.kind,c.m.bare,c.nm⟩
theorem VU (c:Cm)(l:List Plc):kC c.bare (aD l)=kC c l:=by
 unfold kC
 rw[show c.bare.m=c.m.bare from rfl,show c.bare.kind=c.kind from rfl,show c.bare.nm=c.nm from rfl,Eu,GQ,FY]
theorem Hy (c:Cm)(l:List Plc):aD (cmL c l)=cmL c.bare (aD l):=by
 unfold cmL
 rw[show c.bare.m=c.m.bare from rfl,show c.bare.kind=c.kind from rfl,show c.bare.nm=c.nm from rfl]
 split
 ·exact JK _ _
 ·split
  ·exact Ur _ _
  ·exact LU _ _
theorem AP {c b:Cm}{l a:List Plc}(e:c.bare=b.bare)(d:aD l=aD a):kC c l=kC b a:=by
 rw[<-VU c l,e,d,VU]
theorem zV {c c':Cm}{l a:List Plc}(d:c.bare=c'.bare)(b:aD l=aD a):aD (cmL c l)=aD (cmL c' a):=by
 rw[Hy,Hy,d,b]
theorem VM {k b:Krn}{c c':Cm}{l a:List Plc}(f:k.bare=b.bare)(e:c.bare=c'.bare)(d:aD l=aD a):kP k c l=kP b c' a:=by
 unfold kP
 rw[AP e d,kQ f (zV e d)]
def putAt (l:List Plc)(first:Int):Nat:=if idxOf (fun x:Plc=>decide (first<x.first)) l<0 then l.length else(idxOf (fun x:Plc=>decide (first<x.first)) l).toNat
theorem QA {α:Type}{p:α->Bool}:∀{l:List α}{j:Nat}(_:j<=l.length),(∀k(a:k<l.length),k<j->p l[k]=true)->(∀b:j<l.length,p l[j]=false)->l.takeWhile p=l.take j/\l.dropWhile p=l.drop j
 | [],0,_,_,_=>⟨rfl,rfl⟩
 |x::l,0,_,_,h2=>by
  have:=h2 (by simp)
  simp only[List.getElem_cons_zero]at this
  rw[List.takeWhile_cons,List.dropWhile_cons,this]
  exact⟨rfl,rfl⟩
 |x::l,j+1,h,h1,h2=>by
  have c:=h1 0 (by simp) (by omega)
  simp only[List.getElem_cons_zero]at c
  obtain⟨e,d⟩:=QA (p:=p) (l:=l) (j:=j) (by simpa using h) (fun k a f=>h1 (k+1) (by simpa using a) (by omega)) (fun b=>h2 (by simpa using b))
  rw[List.takeWhile_cons,List.dropWhile_cons,c]
  exact⟨by simp[e],by simp[d]⟩
theorem zL (l:List Plc)(m:Mod)(first:Int):putAt l first<=l.length/\l.take (putAt l first)++⟨m,first⟩::l.drop (putAt l first)=fH l m first:=by
 unfold putAt
 rcases Sb (fun x:Plc=>decide (first<x.first)) l with⟨e,c⟩|⟨j,n,e,f,c⟩
 ·rw[e,if_pos (by decide)]
  obtain⟨b,a⟩:=JS (p:=fun x:Plc=>decide (x.first<=first)) (l:=l) (List.all_eq_true.2 fun x g=>by have:=c x g;simp at this ⊢;exact this)
  unfold fH
  rw[b,a]
  exact⟨GZ3 _,by simp⟩
 ·rw[e,if_neg (by omega),Int.toNat_natCast]
  obtain⟨b,a⟩:=QA (p:=fun x:Plc=>decide (x.first<=first)) (l:=l) (j:=j) (by omega) (fun k h d=>by have:=c k h d;simp at this ⊢;exact this) (fun i=>by simp at f ⊢;exact f)
  unfold fH
  rw[b,a]
  exact⟨by omega,rfl⟩
theorem TY (l:List Plc)(m:Mod)(first:Int):(fH l m first).length=l.length+1:=by
 obtain⟨b,a⟩:=zL l m first
 rw[<-a]
 simp
 omega
theorem mU {l:List Plc}{m:Mod}{first:Int}{x:Plc}:x∈fH l m first↔x=⟨m,first⟩\/x∈l:=by
 obtain⟨c,b⟩:=zL l m first
 rw[<-b,List.mem_append,List.mem_cons]
 have a:x∈l↔x∈l.take (putAt l first)\/x∈l.drop (putAt l first):=by rw[<-List.mem_append,List.take_append_drop]
 rw[a]
 constructor
 ·rintro(h|h|h)
  ·exact .inr (.inl h)
  ·exact .inl h
  ·exact .inr (.inr h)
 ·rintro(h|h|h)
  ·exact .inr (.inl h)
  ·exact .inl h
  ·exact .inr (.inr h)
theorem U5 {l:List Plc}{a:ByteArray}{j:Nat}(h:idxOf (named a) l=j):∃g:j<l.length,l[j].m.name=a/\l.find? (named a)=some l[j]:=by
 rcases Sb (named a) l with⟨e,_⟩|⟨i,c,e,b,d⟩
 ·omega
 ·obtain rfl:i=j:=by omega
  refine⟨c,by simpa[named]using b,?_⟩
  rw[List.find?_eq_some_iff_getElem]
  exact⟨b,i,c,rfl,fun k f=>by have:=d k (by omega) f;simp[this]⟩
theorem nK {l:List Plc}{a:ByteArray}{j:Nat}(h:idxOf (named a) l=j):∃b:j<l.length,dH l a=l[j].first:=by
 obtain⟨b,_,c⟩:=U5 h
 exact⟨b,by unfold dH;rw[c]⟩
theorem rU {l:List Plc}{a:Int}(h:bW a l):∀x∈l,a<=x.first/\aR x<=16:=by
 induction l generalizing a with
 |nil=>intro x b;cases b
 |cons y l ih=>
  obtain⟨d,g,f,c⟩:=h
  intro x b
  have e:aR y=y.first+aH y.m:=rfl
  rcases List.mem_cons.1 b with rfl|b
  ·exact⟨d,c.le⟩
  ·have:=ih c x b
   exact⟨by omega,this.2⟩
end
section
open Go.RowKit Go.Lib
theorem NG (x:Plc)(first:Int)(B:Nat)(w:World)(f:w.cell? ⟨B,0,none⟩=some (.int .i64 first))(d:B<w.heap.size):
  Calls Tryz.prog 270 (#[x.v]++ #[.pointer (some ⟨B,0,none⟩)]) w fun e g=>e=.returned (.bool (decide (first<x.first)))/\Below w.heap.size w g:=by
 obtain⟨j,a⟩:=Nm (w.alloc (.cells #[.string x.m.name,.int .i64 x.m.major,.int .i64 x.m.minor,.string x.m.text,.slice x.m.eA x.m.ex.length x.m.eC,.slice x.m.iA x.m.im.length x.m.iC,.slice x.m.pA x.m.pa.length x.m.pC,.int .i64 x.first] 83))
 obtain⟨u,t,s,r,q,o,n,l,h,b⟩:=zH a
 have k:=(b.cell (p:=⟨B,0,none⟩) d).trans f
 have i:=Hp b
 have c:=a.symm
 clear a b h f d
 go_enter Tryz.func270,Tryz.ntmps270
 go_wp2_with fail
 go_ret
 exact⟨rfl,i.out⟩
theorem dI {W:World}{b a:Nat}{k:Krn}{A:Option Addr}{l:List Plc}{c:Nat}(h:RJ W b a k A l c):
  a<W.heap.size/\W.cell? ⟨a,0,none⟩=some (.int .i64 k.major)/\W.cell? ⟨a,1,none⟩=some (.int .i64 k.minor)/\W.cell? ⟨a,2,none⟩=some (.slice k.eA k.ex.length k.eC)/\W.cell? ⟨a,3,none⟩=some (.slice A l.length c)/\W.frozen? ⟨a,3,none⟩=false:=
 ⟨(ZL h.heap),heap_cell h.heap 0,heap_cell h.heap 1,heap_cell h.heap 2,heap_cell h.heap 3,heap_free h.heap 3⟩
theorem RF {W:World}{b:Nat}{m:Mod}(h:W.heap[b]? =some (.cells #[.string m.name,.int .i64 m.major,.int .i64 m.minor,.string m.text,.slice m.eA m.ex.length m.eC,.slice m.iA m.im.length m.iC,.slice m.pA m.pa.length m.pC] 70 (0,0))):
  W.cell? ⟨b,0,none⟩=some (.string m.name)/\W.cell? ⟨b,1,none⟩=some (.int .i64 m.major)/\W.cell? ⟨b,2,none⟩=some (.int .i64 m.minor)/\W.cell? ⟨b,3,none⟩=some (.string m.text)/\W.cell? ⟨b,4,none⟩=some (.slice m.eA m.ex.length m.eC)/\W.cell? ⟨b,5,none⟩=some (.slice m.iA m.im.length m.iC)/\W.cell? ⟨b,6,none⟩=some (.slice m.pA m.pa.length m.pC):=
 ⟨heap_cell h 0,heap_cell h 1,heap_cell h 2,heap_cell h 3,heap_cell h 4,heap_cell h 5,heap_cell h 6⟩
theorem QG {i d:World}{b j B:Nat}{k:Krn}{A:Option Addr}{l:List Plc}{c:Nat}{first:Int}(h:RJ i b j k A l c)(s:Boxed i B 3 (.int .i64 first))(r:Below i.drew.heap.size i.drew d)(m:Mod)(v:m.own d i.drew.heap.size):
  d.cell? ⟨j,3,none⟩=some (.slice A l.length c)/\d.cell? ⟨B,0,none⟩=some (.int .i64 first)/\(∀o,(d.alloc o).cell? ⟨j,3,none⟩=some (.slice A l.length c))/\
  Hid (∀o,RJ (d.alloc o) b j k A l c)/\Hid (∀o,m.own (d.alloc o) b)/\Hid ((d.alloc (.cells (CJ ⟨m,first⟩) 83)).heap[d.heap.size]? =some (.cells (CJ ⟨m,first⟩) 83 (0,0)))/\Hid (∀a,A=some a->a.block≠d.heap.size)/\Hid (∀o,b<=(d.alloc o).heap.size):=by
 have t:RJ i.drew b j k A l c:=h.below (GZ4 _ i).drew
 have q:=t.below r
 have p:Boxed d B 3 (.int .i64 first):=(r.block B (ZL s)).trans s
 have n:∀o,RJ (d.alloc o) b j k A l c:=fun o=>q.below ((GZ4 _ _).alloc (GZ3 _) o)
 refine⟨(dI q).2.2.2.2.1,p.cell,fun o=>(dI (n o)).2.2.2.2.1,Hp n,Hp fun o=>(v.below ((GZ4 _ _).alloc (GZ3 _) o)).le t.size,Hp (heap_alloc_new d _),Hp fun a e=>?_,Hp fun o=>(n o).size⟩
 subst e
 have u:=q.own.mods.row
 rcases u.2 with⟨f,_⟩|⟨g,y,x,f,_,w,_⟩
 ·injection f with f;cases f
 ·injection f with f
  have:=(ZL w)
  injection f with f
  subst f
  exact Nat.ne_of_lt this
theorem QF {p d:World}{a f:Nat}{k:Krn}{A g:Option Addr}{l:List Plc}{c e n:Nat}{i:Mod}{first:Int}(h:RJ p a f k A l c)(v:i.own p a)(r:i.ok p)(w:Kp [83] p d)(t:aP d a (.slice g n e) (l.take (putAt l first)++⟨i,first⟩::l.drop (putAt l first)))(u:n=l.length+1)(z:l.length<=8):
  d.heap[f]? =some (.cells #[.int .i64 k.major,.int .i64 k.minor,.slice k.eA k.ex.length k.eC,.slice A l.length c] 281 (0,0))/\
  RJ (d.setCell ⟨f,3,none⟩ (.slice g n e)) a f k g (fH l i first) e/\Kp [83,281] p (d.setCell ⟨f,3,none⟩ (.slice g n e)):=by
 have s:=w _ _ _ _ h.heap (by decide)
 have q:Kp [281] d (d.setCell ⟨f,3,none⟩ (.slice g n e)):=Kp.set s (by simp) _ _
 have b:Kp [83,281] p (d.setCell ⟨f,3,none⟩ (.slice g n e)):=(w.mono (by simp)).trans (q.mono (by simp))
 have y:=(zL l i first).2
 have o:=TY l i first
 rw[y]at t
 have m:kI (d.setCell ⟨f,3,none⟩ (.slice g n e)) a (.slice g (fH l i first).length e) (fH l i first):=by
  refine⟨by rw[o,<-u];exact own_kp t q (by decide),fun x j=>?_⟩
  rcases mU.1 j with rfl|j
  ·exact v.kp b (by decide) (by decide) (by decide)
  ·exact(h.own.mods.each x j).kp b (by decide) (by decide) (by decide)
 refine⟨s,⟨?_,⟨own_kp h.own.ex b (by decide),m⟩,⟨Reads.of_own m.row,by rw[o];unfold big;omega,fun x j=>?_⟩,h.low⟩,b⟩
 ·rw[o,<-u]
  exact heap_setCell_same d f 3 _ _ (.slice g n e) s
 ·rcases mU.1 j with rfl|j
  ·exact(v.kp b (by decide) (by decide) (by decide)).ok ⟨rfl,rfl,rfl,rfl,rfl,rfl,rfl⟩ r
  ·exact((h.own.mods.each x j).kp b (by decide) (by decide) (by decide)).ok ⟨rfl,rfl,rfl,rfl,rfl,rfl,rfl⟩ (h.ok.each x j)
theorem G8 (b bp:Nat)(k:Krn)(A:Option Addr)(c:Nat)(l:List Plc)(m:Mod)(first:Int)(w:World)(h:RJ w b bp k A l c)(hm:m.ok w)(he:aL m=0)(h8:l.length<=8):
  Calls Tryz.prog 250 #[.pointer (some ⟨bp,0,none⟩),m.v,.int .i64 first] w fun e w'=>(∃u,e=.returned u)/\(∃A' c' L,gI L m/\RJ w' b bp k A' (fH l L first) c')/\Kp [83,281] w w'/\Below b w w':=by
 obtain⟨w0,q⟩:=Nm (w.alloc (.cells #[.string m.name,.int .i64 m.major,.int .i64 m.minor,.string m.text,.slice m.eA m.ex.length m.eC,.slice m.iA m.im.length m.iC,.slice m.pA m.pa.length m.pC] 70))
 obtain⟨x0,o⟩:=Nm (w0.alloc (.cells #[.int .i64 first] 3))
 have b0:w0.heap.size=w.heap.size+1:=by subst q;simp
 have U:Below w.heap.size w w0:=q▸ZB
 have S:Below w0.heap.size w0 x0:=o▸ZB
 have a6:w0.heap[w.heap.size]? =some (.cells #[.string m.name,.int .i64 m.major,.int .i64 m.minor,.string m.text,.slice m.eA m.ex.length m.eC,.slice m.iA m.im.length m.iC,.slice m.pA m.pa.length m.pC] 70 (0,0)):=by rw[q];exact heap_alloc_new w _
 have a4:=(S.block w.heap.size (by omega)).trans a6
 have V:Boxed x0 (w.heap.size+1) 3 (.int .i64 first):=by rw[<-b0];exact o▸Boxed.new _ _ _
 have T:=U.trans (S.mono U.size)
 have b5:x0.heap.size=w.heap.size+2:=by rw[o];simp;omega
 have F:=h.below T
 obtain⟨b1,p0,p1,p2,p3,pf⟩:=dI F
 have HQ:=Hp (UO A c l 270 #[.pointer (some ⟨w.heap.size+1,0,none⟩)] (fun p=>decide (first<p.first)) x0 (enters_of Tryz.func270 (by kernel_rfl) rfl) F.ok.row F.ok.len
  (fun x _ W hb=>NG x first (w.heap.size+1) W (dX V hb (by omega)).cell (by have:=hb.size;omega)))
 have cO:=Hp (fun W(hb:Below w.heap.size w W)=>Ei m W (hm.below hb) (xQ he))
 have a7:=Hp hm
 have HB:=Hp T
 have HP:=Hp F
 have a8:=Hp a4
 have a9:=Hp V
 have M:=Hp h.size
 have b3:=q.symm
 have b2:=o.symm
 obtain⟨N,_⟩:=zL l m first
 have I:=Hp N
 have j:=Hp (show putAt l first=if idxOf (fun p:Plc=>decide (first<p.first)) l<0 then l.length else(idxOf (fun p:Plc=>decide (first<p.first)) l).toNat from rfl)
 obtain⟨ix,a3⟩:=Nm (idxOf (fun p:Plc=>decide (first<p.first)) l)
 rw[<-a3]at HQ j
 obtain⟨pa,R⟩:=Nm (putAt l first)
 have O:=Hp R
 rw[<-R]at j I
 clear q o U S a6 a4 V T F hm he h p0 p1 p2 N a3 R
 have HH:=Hp h8
 clear h8
 go_enter Tryz.func250,Tryz.ntmps250
 go_wp2_with fail
 refine(HQ.out).mono ?_;rintro e w2 ⟨rfl,E⟩
 have Z:=Hp (HP.below E)
 have n:=Hp (HB.trans (E.mono HB.size))
 have a5:=(E.block w.heap.size (ZL a8.out)).trans a8.out
 have K:=Hp (dX a9 E (ZL a9))
 obtain⟨m0,m1,m2,m3,m4,m5,m6⟩:=RF a5
 obtain⟨b4,_,_,_,q3,qf⟩:=dI Z.out
 have k0:=K.cell
 clear E a5 HQ b1 p3 pf
 have P:=Hp HP.low
 by_cases t:ix<0
 ·have s:pa=l.length:=by have:=j.out;rwa [if_pos t]at this
  have t':decide (ix<0)=true:=decide_eq_true t
  go_wp2_with fail
  go_upto_region 4 with fail
  rw[<-s]
  clear s t t' j
  go_region_law (first
   |(go_simp;go_at_call 125;(with_reducible refine(cO.out _ n.out.drew).mono ?_);rintro e Q ⟨⟨L,rfl,r,z⟩,g⟩;obtain⟨j3,j0,ja,d,f,Y,J,G⟩:=QG Z.out K.out g L z;have H:=Hp r;have i:=Hp (n.out.drew.trans (g.mono n.out.size));clear g z r)
   |(go_simp;go_at_call 271;(with_reducible refine(BH b A c l.length pa Q.heap.size l ⟨L,first⟩ _ (d.out _).own.mods.row rfl I.out (G.out _) (GY1 HH.out (by decide)) Y.out J.out).mono ?_);rintro e w5 ⟨⟨A',c',rfl,y⟩,C,D⟩;obtain⟨X,B,a⟩:=QF (d.out _) (f.out _) ((f.out _).ok H.out a7.out) C (O.out▸y) rfl HH.out;have z3:=heap_cell X 3;have zf:=heap_free X 3;simp only[GZ2,GZ0,GZ1]at z3;have a0:=Hp B;have a1:=Hp (Kp.trans (Kp.trans (Kp.of_below i.out) (Kp.alloc (Kp.refl _ _) _)) a);have a2:=Hp (((i.out.mono M.out).trans ((GZ4 Q.heap.size Q).alloc (GZ3 _) _ |>.mono (GY1 M.out i.out.size))).trans D);clear X B a y C D))
  all_goals(
   go_wp2_with fail
   go_end0
   exact⟨⟨_,rfl⟩,⟨A',c',L,H.out,a0.out⟩,a1.out,a2.setCell (p:=⟨bp,3,none⟩) P.out _⟩)
 ·have s:ix=pa:=by have:=j.out;rw[if_neg t]at this;omega
  have t':decide (ix<0)=false:=GY7 t
  go_wp2_with fail
  go_upto_region 4 with fail
  try rw[s]
  clear s t t' j
  go_region_law (first
   |(go_simp;go_at_call 125;(with_reducible refine(cO.out _ n.out.drew).mono ?_);rintro e Q ⟨⟨L,rfl,r,z⟩,g⟩;obtain⟨j3,j0,ja,d,f,Y,J,G⟩:=QG Z.out K.out g L z;have H:=Hp r;have i:=Hp (n.out.drew.trans (g.mono n.out.size));clear g z r)
   |(go_simp;go_at_call 271;(with_reducible refine(BH b A c l.length pa Q.heap.size l ⟨L,first⟩ _ (d.out _).own.mods.row rfl I.out (G.out _) (GY1 HH.out (by decide)) Y.out J.out).mono ?_);rintro e w5 ⟨⟨A',c',rfl,y⟩,C,D⟩;obtain⟨X,B,a⟩:=QF (d.out _) (f.out _) ((f.out _).ok H.out a7.out) C (O.out▸y) rfl HH.out;have z3:=heap_cell X 3;have zf:=heap_free X 3;simp only[GZ2,GZ0,GZ1]at z3;have a0:=Hp B;have a1:=Hp (Kp.trans (Kp.trans (Kp.of_below i.out) (Kp.alloc (Kp.refl _ _) _)) a);have a2:=Hp (((i.out.mono M.out).trans ((GZ4 Q.heap.size Q).alloc (GZ3 _) _ |>.mono (GY1 M.out i.out.size))).trans D);clear X B a y C D))
  all_goals(
   go_wp2_with fail
   go_end0
   exact⟨⟨_,rfl⟩,⟨A',c',L,H.out,a0.out⟩,a1.out,a2.setCell (p:=⟨bp,3,none⟩) P.out _⟩)
end
section
open Go.RowKit Go.Lib
theorem Qa {o b:World}{a d g:Nat}{k:Krn}{A f:Option Addr}{l:List Plc}{c e n:Nat}{v:ByteArray}{j:Nat}(h:RJ o a d k A l c)(E:idxOf (named v) l=j)(I:∃F,o.heap[g]? =some (.cells F 83 (0,0)))(B:a<=g)(D:Only g o b)(G:aP b a (.slice f n e) (l.eraseIdx j))(J:n+1=l.length):
  b.heap[d]? =some (.cells #[.int .i64 k.major,.int .i64 k.minor,.slice k.eA k.ex.length k.eC,.slice A l.length c] 281 (0,0))/\
  RJ (b.setCell ⟨d,3,none⟩ (.slice f n e)) a d k f (Rc l v) e/\Kp [83,281] o (b.setCell ⟨d,3,none⟩ (.slice f n e))/\Below a o (b.setCell ⟨d,3,none⟩ (.slice f n e)):=by
 obtain⟨F,t⟩:=I
 have s:Kp [83] o b:=D.kp t (by simp)
 have C:=s _ _ _ _ h.heap (by decide)
 have r:Kp [281] b (b.setCell ⟨d,3,none⟩ (.slice f n e)):=Kp.set C (by simp) _ _
 have i:Kp [83,281] o (b.setCell ⟨d,3,none⟩ (.slice f n e)):=(s.mono (by simp)).trans (r.mono (by simp))
 obtain⟨y,_⟩:=U5 E
 have w:Rc l v=l.eraseIdx j:=by unfold Rc;rw[E,Int.toNat_natCast]
 have q:(l.eraseIdx j).length=n:=by rw[List.length_eraseIdx_of_lt y];omega
 have H:=h.ok.len
 rw[w]
 have m:kI (b.setCell ⟨d,3,none⟩ (.slice f n e)) a (.slice f (l.eraseIdx j).length e) (l.eraseIdx j):=
  ⟨by rw[q];exact own_kp G r (by decide),fun x u=>(h.own.mods.each x (List.mem_of_mem_eraseIdx u)).kp i (by decide) (by decide) (by decide)⟩
 refine⟨C,⟨?_,⟨own_kp h.own.ex i (by decide),m⟩,⟨Reads.of_own m.row,by rw[q];omega,fun x u=>?_⟩,h.low⟩,i,?_⟩
 ·rw[q]
  exact heap_setCell_same b d 3 _ _ (.slice f n e) C
 ·exact((h.own.mods.each x (List.mem_of_mem_eraseIdx u)).kp i (by decide) (by decide) (by decide)).ok ⟨rfl,rfl,rfl,rfl,rfl,rfl,rfl⟩ (h.ok.each x (List.mem_of_mem_eraseIdx u))
 ·have z:=(ZL t)
  exact((D.below (GY2 z)).mono B).setCell (p:=⟨d,3,none⟩) h.low _
theorem DK (a J:Nat)(k:Krn)(A:Option Addr)(c:Nat)(l:List Plc)(o:ByteArray)(j:Nat)(w:World)(h:RJ w a J k A l c)(z:idxOf (named o) l=j)(h8:l.length<=8):
  Calls Tryz.prog 248 #[.pointer (some ⟨J,0,none⟩),.string o] w fun e C=>e=.returned (.int .i64 (dH l o))/\(∃A' c',RJ C a J k A' (Rc l o) c')/\Kp [83,281] w C/\Below a w C:=by
 obtain⟨q,t⟩:=nK z
 obtain⟨n,y⟩:∃n,n+1=l.length:=⟨l.length -1,by omega⟩
 obtain⟨g,hA,s,i,r,_⟩:=aP.at_ h.own.mods.row q
 subst hA
 obtain⟨I,u,T,h1,X,V,U⟩:=Cw h.own.mods.row rfl
 obtain⟨_,_,_,_,S,_⟩:=dI h
 have Y:=Hp h
 have HJ:=Hp z
 have Z:=Hp y
 have B:=Hp (SY (some ⟨g,0,none⟩) c l o w h.ok.row h.ok.len)
 rw[z]at B
 have cD:=Hp (fun W(G:Below w.heap.size w W)=>Ir a g c n j l W I ((G.block g i).trans T) V U u y (by omega) (by omega) (by omega) X)
 have N:=Hp (fun W(G:Below w.heap.size w W)=>RS h.ok.row G j q)
 have L:=Hp r
 have M:=Hp s
 have a0:IntKind.i64.wrap ((j:Int)+1)=(j:Int)+1:=by rw[IntKind.wrap_i64];omega
 have a1:(j:Int)<(n:Int)+1:=by omega
 have H:(⟨g,0,none⟩:Addr).add (j*8)=⟨g,j*8,none⟩:=by rw[Addr.add_lit,Nat.zero_add]
 have x:=Hp t
 obtain⟨fa,f⟩:=Nm (dH l o)
 rw[<-f]at x ⊢
 have K:=Hp i
 rw[<-y]at S B
 clear h z r s u T h1 X V U t f h8 i y
 go_enter Tryz.func248,Tryz.ntmps248
 go_wp2_with fail
 refine(B.out).mono ?_;rintro e w2 ⟨rfl,m⟩
 have v:=Hp (Y.below m)
 obtain⟨_,_,_,_,R,_⟩:=dI v.out
 rw[<-Z.out]at R
 obtain⟨ad,ea,_,_,_,_,_,_,_,_,E⟩:=N.out w2 m
 obtain rfl:=GY3 ea
 rw[H]at E
 rw[<-x.out]at E
 have b:=Hp m
 clear S B
 go_wp2_with fail
 refine(cD.out _ b.out).mono ?_;rintro e w4 ⟨rfl,p,d⟩
 obtain⟨D,Q,P,O⟩:=Qa v.out HJ.out (by obtain⟨cs,F⟩:=L.out;exact⟨cs,(b.block g K.out).trans F⟩) M.out d p Z.out
 have z3:=heap_cell D 3
 have zf:=heap_free D 3
 simp only[GZ2,GZ0,GZ1]at z3
 have T2:=Hp Q
 have T3:=Hp P
 have T4:=Hp O
 clear D Q P O p d R E
 go_wp2_with fail
 go_ret
 exact⟨rfl,⟨_,_,T2.out⟩,(Kp.of_below b.out).trans T3.out,(b.mono Y.size).trans T4.out⟩
def qV (w:World)(a f:Nat)(k:Krn)(E:Int)(L:List Plc)(e:Ending)(b:World):Prop:=
 e=.returned (.int .i64 E)/\(E=0->∃g d c,aD c=aD L/\RJ b a f k g c d)/\Kp [83,281] w b/\Below a w b
theorem He (j C:Nat)(k:Krn)(A:Option Addr)(c:Nat)(l:List Plc)(m:Mod)(w:World)(h:RJ w j C k A l c)(Q:m.ok w)(he:aL m=0)(P:RY l=0):
  Calls Tryz.prog 246 #[.pointer (some ⟨C,0,none⟩),m.v] w (qV w j C k (if fM (aH m) (RI l)<0 then 8 else 0) (fH l m (fM (aH m) (RI l)))):=by
 obtain⟨o,p⟩:=Nm (w.alloc (.cells #[.string m.name,.int .i64 m.major,.int .i64 m.minor,.string m.text,.slice m.eA m.ex.length m.eC,.slice m.iA m.im.length m.iC,.slice m.pA m.pa.length m.pC] 70))
 have y:Below w.heap.size w o:=p▸ZB
 have s:o.heap[w.heap.size]? =some (.cells #[.string m.name,.int .i64 m.major,.int .i64 m.minor,.string m.text,.slice m.eA m.ex.length m.eC,.slice m.iA m.im.length m.iC,.slice m.pA m.pa.length m.pC] 70 (0,0)):=by rw[p];exact heap_alloc_new w _
 have r:=h.below y
 obtain⟨b1,_,_,_,p3,_⟩:=dI r
 obtain⟨m0,m1,m2,m3,m4,m5,m6⟩:=RF s
 have R:w.heap.size<o.heap.size:=(ZL s)
 have a3:=Hp r
 have a5:=Hp s
 have N:=Hp y
 have K:=Hp h.size
 have HE:=Hp he
 have cM:=Hp (fun W=>qG m W Q.text)
 have a4:=Hp (fun W(U:Below w.heap.size w W)=>Q.below U)
 have h8:=(cZ P).1
 have H8:=Hp h8
 have cF:=Hp (fun W(U:Below o.heap.size o W)=>PU A c l (aH m) W (r.ok.below U) P)
 obtain⟨q,hq⟩:=Nm (fM (aH m) (RI l))
 rw[<-hq]at cF ⊢
 obtain⟨mm,H⟩:=Nm (aH m)
 rw[<-H]at cM cF
 obtain⟨E,hE⟩:∃E:Int,E=if q<0 then 8 else 0:=⟨_,rfl⟩
 rw[<-hE]
 have M:=Hp hE
 obtain⟨L,V⟩:=Nm (fH l m q)
 rw[<-V]
 have a6:=Hp V
 have b0:=p.symm
 have a8:=Hp R
 clear p y s r h Q he P h8 hq H hE V
 have i:=Hp (show fI o (fun f=>Below o.heap.size o f/\f.cell? ⟨w.heap.size,0,none⟩=some (.string m.name)/\f.cell? ⟨w.heap.size,1,none⟩=some (.int .i64 m.major)/\f.cell? ⟨w.heap.size,2,none⟩=some (.int .i64 m.minor)/\f.cell? ⟨w.heap.size,3,none⟩=some (.string m.text)/\f.cell? ⟨w.heap.size,4,none⟩=some (.slice m.eA m.ex.length m.eC)/\f.cell? ⟨w.heap.size,5,none⟩=some (.slice m.iA m.im.length m.iC)/\f.cell? ⟨w.heap.size,6,none⟩=some (.slice m.pA m.pa.length m.pC)/\f.cell? ⟨C,3,none⟩=some (.slice A l.length c)) from dE (by repeat' first|(with_reducible exact bC.cell (by first|omega|(simp;omega)|(simp only[aA];omega)))|refine bC.and ?_ ?_))
 have a:=Hp (i.now ⟨GZ4 _ _,by assumption,by assumption,by assumption,by assumption,by assumption,by assumption,by assumption,by assumption⟩)
 have d:=Hp i.D
 have b:=Hp i.S
 have g:=Hp i.A
 have x:=Hp i.X
 have z:=Hp i.L
 go_enter Tryz.func246,Tryz.ntmps246
 go_wp2_with fail
 go_region_held3 (fun f=>Below o.heap.size o f/\f.cell? ⟨w.heap.size,0,none⟩=some (.string m.name)/\f.cell? ⟨w.heap.size,1,none⟩=some (.int .i64 m.major)/\f.cell? ⟨w.heap.size,2,none⟩=some (.int .i64 m.minor)/\f.cell? ⟨w.heap.size,3,none⟩=some (.string m.text)/\f.cell? ⟨w.heap.size,4,none⟩=some (.slice m.eA m.ex.length m.eC)/\f.cell? ⟨w.heap.size,5,none⟩=some (.slice m.iA m.im.length m.iC)/\f.cell? ⟨w.heap.size,6,none⟩=some (.slice m.pA m.pa.length m.pC)/\f.cell? ⟨C,3,none⟩=some (.slice A l.length c)) (first|exact a.out|exact d.out _ a.out|exact b.out _ _ (by assumption) (by assumption)|exact b.out _ _ a.out (by assumption)|exact b.out _ _ (d.out _ a.out) (by assumption)|exact b.out _ _ (d.out _ (by assumption)) (by assumption)|exact d.out _ (by assumption)|exact g.out _ _ (by assumption)|exact g.out _ _ a.out|exact g.out _ _ (d.out _ a.out)|exact d.out _ (g.out _ _ (by assumption))|exact g.out _ _ (b.out _ _ a.out (by assumption))|exact g.out _ _ (b.out _ _ (d.out _ a.out) (by assumption))|exact x.out _ _ _ _ (GZ3 _) (by assumption)|exact x.out _ _ _ _ (GZ3 _) (b.out _ _ (g.out _ _ a.out) (by assumption))|exact x.out _ _ _ _ (GZ3 _) (b.out _ _ (d.out _ (g.out _ _ a.out)) (by assumption))|assumption) (first|(go_at_call 164;(with_reducible refine(cM.out _).mono ?_);rintro e w3 ⟨rfl,b2⟩)|(go_at_call 190;(with_reducible refine(cF.out _ (z.out _ (by first|assumption|exact b.out _ _ (by assumption) (by assumption)|exact b.out _ _ a.out (by assumption)|exact b.out _ _ (d.out _ a.out) (by assumption)))).mono ?_);rintro e O ⟨rfl,T⟩))
 have B:=Hp (z.out O (by assumption))
 have a2:=Hp (a3.below B)
 have n:=Hp (N.trans (B.mono N.size))
 obtain⟨n0,n1,n2,n3,n4,n5,n6⟩:=RF ((B.block w.heap.size a8.out).trans a5.out)
 have cP:=Hp (G8 j C k A c l m q O a2.out (a4.out O n.out) HE.out H8.out)
 clear T a d b g x z
 by_cases t:q<0
 ·have Y:E=8:=by have:=M.out;rwa [if_pos t]at this
  subst Y
  have t':decide (q<0)=true:=decide_eq_true t
  clear t
  go_wp2_with fail
  go_ret
  exact⟨rfl,fun e=>absurd e (by decide),Kp.of_below n.out,n.mono K.out⟩
 ·have Z:E=0:=by have:=M.out;rwa [if_neg t]at this
  subst Z
  have t':decide (q<0)=false:=GY7 t
  clear t
  go_wp2_with fail
  refine(cP.out).mono ?_;rintro e w5 ⟨⟨u,rfl⟩,⟨A',c',m',F,G⟩,I,J⟩
  have a0:=Hp F
  have a1:=Hp G
  have a7:=Hp I
  have a9:=Hp J
  clear F G I J
  go_wp2_with fail
  go_ret
  refine⟨rfl,fun _=>⟨A',c',fH l m' q,?_,a1.out⟩,(Kp.of_below n.out).trans a7.out,(n.mono K.out).trans a9.out⟩
  rw[a6.out,kU,kU,iL a0.out]
theorem qV.after {w b:World}{a d:Nat}{k:Krn}{E:Int}{L:List Plc}(f:Kp [83,281] w b)(g:Below a w b):∀e c,qV b a d k E L e c->qV w a d k E L e c:=
 fun _ _ ⟨l,j,i,h⟩=>⟨l,j,f.trans i,g.trans h⟩
end
end Go.Proofs.YtjiedaialianmaaGreat
