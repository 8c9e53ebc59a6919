import Derived.Test.YtjiedaialianmaaGreatA17
set_option maxRecDepth 100000
set_option maxHeartbeats 8000000
namespace Go.Proofs.YtjiedaialianmaaGreat
section
open Go.RowKit Go.Lib
def Fz :List Value:=[.string ⟨#[]⟩,.int .i64 0,.int .i64 0,.string ⟨#[]⟩,.slice none 0 0,.slice none 0 0,.slice none 0 0,.int .i64 0]
theorem N8 :(Builtin.zeroCells kN.cells 1).toList=Fz:=by simp[Builtin.zeroCells,Value.cells,Fz];rfl
theorem Kq :∀v∈Fz,v.oneCell'=true:=by
 intro v hv
 simp only[Fz,List.mem_cons,List.not_mem_nil,or_false]at hv
 rcases hv with rfl|rfl|rfl|rfl|rfl|rfl|rfl|rfl<;>rfl
theorem Ir (base g c n i:Nat)(l:List Plc)(w:World)(cur:Array Value)(hg:w.heap[g]? =some (.cells cur 83 (0,0)))(hsz:cur.size=c*8)(hct:cur.toList.take (l.length*8)=l.flatMap Plc.cells)
  (hbg:base<=g) (hn:n+1=l.length) (hi:i<=n) (h8:n<=1000) (hnc:n+1<=c) (hcm:c<=maxLen):
  Calls Tryz.prog 267 #[.slice (some ⟨g,0,none⟩) (n+1) c,.int .i64 i,.int .i64 ((i:Int)+1)] w fun e w'=>
   e=.returned (.slice (some ⟨g,0,none⟩) n c)/\aP w' base (.slice (some ⟨g,0,none⟩) n c) (l.eraseIdx i)/\Only g w w':=by
 obtain⟨i0,hi0,hz0,hzs,hzb⟩:=info_parts Tryz.vH
 obtain⟨F,hF⟩:=Nm (l.flatMap Plc.cells)
 have hFl:F.length=(n+1)*8:=by rw[hF,hn];exact mK l
 rw[<-hF]at hct
 have hF1:∀v∈F,v.oneCell'=true:=by rw[hF];exact pG l
 have hdl:(F.drop ((i+1)*8)).length=(n -i)*8:=by rw[List.length_drop,hFl];omega
 have hFd:∀j v,F[j]? =some v->w.drew.cell? ⟨g,j,none⟩=some v:=mH (w:=w.drew) hg hct
 obtain⟨A,hA,hsrc⟩:∃A:Addr,(if c=i+1 then(⟨g,0,none⟩:Addr)else⟨g,(i+1)*8,none⟩)=A/\(∀t u,(F.drop ((i+1)*8))[t]? =some u->w.drew.cell? (A.add t)=some u):=by
  by_cases h:c=i+1
  ·refine⟨⟨g,0,none⟩,by simp[h],fun t u hu=>?_⟩
   have h0:(F.drop ((i+1)*8)).length=0:=by rw[hdl];omega
   rw[List.length_eq_zero_iff.1 h0]at hu
   simp at hu
  ·refine⟨⟨g,(i+1)*8,none⟩,by simp[h],fun t u hu=>?_⟩
   rw[Addr.add_lit]
   exact hFd _ u (by rwa [List.getElem?_drop]at hu)
 have hap:∀ty cc,(Builtin.append_ #[37,37] ty #[.slice (some ⟨g,0,none⟩) i c,.slice (some A) (n -i) cc]).run Tryz.prog w.drew=.ok (.slice (some ⟨g,0,none⟩) n c) (w.drew.setRow g (spl cur (i*8) (F.drop ((i+1)*8)))):=fun ty cc=>by
  have h:=run_append_room (P:=Tryz.prog) (w:=w.drew) 37 ty 83 i0 Tryz.underlying37 hi0 g i c cur hg A (n -i) cc (F.drop ((i+1)*8)) (by rw[hdl,hzs]) hsrc (fun v hv=>hF1 v (List.mem_of_mem_drop hv)) (by omega) (by rw[hdl,hzs,hsz];omega)
  rw[hzs,show i+(n -i)=n by omega]at h
  exact h
 obtain⟨W1,hW1⟩:=Nm (w.drew.setRow g (spl cur (i*8) (F.drop ((i+1)*8))))
 rw[<-hW1]at hap
 have hg1:W1.heap[g]? =some (.cells (spl cur (i*8) (F.drop ((i+1)*8))) 83 (0,0)):=by rw[hW1];exact setRow_heap w.drew _ _ _ _ _ hg
 have ho1:Only g w W1:=hW1▸(show Only g w (w.drew.setRow g _) from⟨rfl,rfl,rfl,(Only.row (w:=w) (g:=g) (spl cur (i*8) (F.drop ((i+1)*8)))).size,(Only.row (w:=w) (g:=g) (spl cur (i*8) (F.drop ((i+1)*8)))).block⟩)
 have hsp:(spl cur (i*8) (F.drop ((i+1)*8))).size=c*8:=by
  rw[<-hsz]
  exact oK (by rw[hdl,hsz];omega)
 obtain⟨Z,hZ⟩:=Nm Fz
 have hZl:Z.length=8:=by rw[hZ];rfl
 have hcl:∀ty cc,(Builtin.clear_ #[37] ty #[.slice (some ⟨g,n*8,none⟩) 1 cc]).run Tryz.prog W1=.ok (.tuple #[]) (W1.setRow g (spl (spl cur (i*8) (F.drop ((i+1)*8))) (n*8) Z)):=fun ty cc=>
  Fx W1 37 83 ty kN Tryz.underlying37 (fun w=>by kernel_rfl) g (n*8) 1 cc (by omega) (spl cur (i*8) (F.drop ((i+1)*8))) 83 Z (N8.trans hZ.symm) hg1 (by rw[hZl,hsp];omega) (by rw[hZ];exact Kq)
 obtain⟨W2,hW2⟩:=Nm (W1.setRow g (spl (spl cur (i*8) (F.drop ((i+1)*8))) (n*8) Z))
 rw[<-hW2]at hcl
 have hg2:W2.heap[g]? =some (.cells (spl (spl cur (i*8) (F.drop ((i+1)*8))) (n*8) Z) 83 (0,0)):=by rw[hW2];exact setRow_heap W1 _ _ _ _ _ hg1
 have ho2:Only g w W2:=ho1.trans (hW2▸Only.row _)
 have hlen:(l.eraseIdx i).length=n:=by rw[List.length_eraseIdx];split<;>omega
 have HO:=Hp (show aP W2 base (.slice (some ⟨g,0,none⟩) n c) (l.eraseIdx i) from
  oZ hbg hg2 hlen.symm (by omega) hcm (by rw[oK (by rw[hsp,hZl];omega),hsp]) (by
   rw[hlen]
   have:=NI (L:=cur.toList) (F:=F) (Z:=Z) (p:=i*8) (q:=8) (by omega) (by rw[hFl,hn];exact hct) (by rw[hFl,Array.length_toList,hsz];omega) hZl
   rw[hFl,show i*8+8=(i+1)*8 by omega,show(n+1)*8 -8=n*8 by omega]at this
   refine this.trans ?_
   rw[hF,vJ,Ua,<-List.flatMap_append,List.eraseIdx_eq_take_drop_succ]))
 have HB:=Hp ho2
 have HA:=Hp hap
 have HC:=Hp hcl
 have hw1:IntKind.i64.wrap ((i:Int)+1)=(i:Int)+1:=by rw[IntKind.wrap_i64];omega
 have hb1':(0:Int)<=(i:Int)+1:=by omega
 have hin:i<=n:=by omega
 have htn:((i:Int)+1).toNat=i+1:=by omega
 have hb2:(i:Int)+1<=(n:Int)+1:=by omega
 have hb4:¬(c=i):=by omega
 have hb5:¬(c=n):=by omega
 have hb6:¬(n+1=i):=by omega
 have hb7:¬((i:Int)=(i:Int)+1):=by omega
 have hb8:i<=n+1:=by omega
 have hb9:i<=c:=by omega
 have hb10:i+1<=c:=by omega
 have hG63:c<=9223372036854775807:=by unfold maxLen at hcm;omega
 clear hg hsz hct hbg hn hF hFl hF1 hdl hFd hsrc hap hW1 hg1 ho1 hsp hZ hZl hcl hW2 hg2 ho2 hlen hcm hi0 hz0 hzs hzb
 have hcC:=HC.out
 by_cases h:c=i+1
 ·rw[if_pos h]at hA
  subst hA
  obtain rfl:n=i:=by omega
  subst h
  have HA':=Hp (show∀ty cc,(Builtin.append_ #[37,37] ty #[.slice (some ⟨g,0,none⟩) n (n+1),.slice (some ⟨g,0,none⟩) 0 cc]).run Tryz.prog w.drew=.ok (.slice (some ⟨g,0,none⟩) n (n+1)) W1 by have:=HA.out;rwa [Nat.sub_self]at this)
  have hb11:(n:Int)<=(n:Int)+1:=by omega
  go_enter Tryz.func267,Tryz.ntmps267
  go_wp2_with fail
  go_region_law (refine TQ rfl _ _ 37 37 rfl (.slice (some ⟨g,0,none⟩) n (n+1)) (.slice (some ⟨g,0,none⟩) 0 0) (by simp[Act.eval,Act.put]) (by simp[Act.eval,Act.put]) (HA'.out _ _) ?_)
  go_wp2_with fail
  go_ret
  exact⟨rfl,HO.out,HB.out⟩
 ·rw[if_neg h]at hA
  subst hA
  go_enter Tryz.func267,Tryz.ntmps267
  go_wp2_with fail
  go_region_law (refine TQ rfl _ _ 37 37 rfl (.slice (some ⟨g,0,none⟩) i c) (.slice (some ⟨g,(i+1)*8,none⟩) (n -i) (c -(i+1))) (by simp[Act.eval,Act.put]) (by simp[Act.eval,Act.put]) (HA.out _ _) ?_)
  go_wp2_with fail
  go_ret
  exact⟨rfl,HO.out,HB.out⟩
end
section
open Go.RowKit Go.Lib
theorem Gz (A:Option Addr)(c:Nat)(l:List Plc)(g:Nat)(lb:Array Value)(q:Plc->Bool)(w:World)(eg:∀args w,(callFunc g args).run Tryz.prog w=.ok (.enter g args) w)(h:Row Plc.cells 8 w A l)(hl:l.length<=big)
  (hq:∀x∈l,∀W,Below w.heap.size w W->Calls Tryz.prog g (#[x.v]++lb) W fun e w'=>e=.returned (.bool (q x))/\Below W.heap.size W w'):
  Calls Tryz.prog 265 #[.slice A l.length c,.func (.func g) #[] lb] w fun e w'=>e=.returned (.bool (l.any q))/\Below w.heap.size w w':=by
 have c1:=Hp (UO A c l g lb q w eg h hl hq)
 have e1:=Hp (rY q l)
 generalize l.any q=b at*
 generalize idxOf q l=i at*
 clear h hq
 go_enter Tryz.func265,Tryz.ntmps265
 go_wp2_with (go_at_call 191;refine(c1.out).mono ?_;rintro e w3 ⟨rfl,hb3⟩)
 go_ret
 exact⟨aV e1.out,hb3⟩
theorem GR (A:Option Addr)(c:Nat)(l:List Run)(g:Nat)(lb:Array Value)(q:Run->Bool)(w:World)(eg:∀args w,(callFunc g args).run Tryz.prog w=.ok (.enter g args) w)(h:Row Run.cells 2 w A l)(hl:l.length<=big)
  (hq:∀x∈l,∀W,Below w.heap.size w W->Calls Tryz.prog g (#[x.v]++lb) W fun e w'=>e=.returned (.bool (q x))/\Below W.heap.size W w'):
  Calls Tryz.prog 268 #[.slice A l.length c,.func (.func g) #[] lb] w fun e w'=>e=.returned (.bool (l.any q))/\Below w.heap.size w w':=by
 have c1:=Hp (Ae A c l g lb q w eg h hl hq)
 have e1:=Hp (rY q l)
 generalize l.any q=b at*
 generalize idxOf q l=i at*
 clear h hq
 go_enter Tryz.func268,Tryz.ntmps268
 go_wp2_with (go_at_call 238;refine(c1.out).mono ?_;rintro e w3 ⟨rfl,hb3⟩)
 go_ret
 exact⟨aV e1.out,hb3⟩
def oN (l:List Plc)(nm:ByteArray):Bool:=l.any fun x=>nU l (tx x.m.name) (tx nm)
theorem LA (A:Option Addr)(c:Nat)(l:List Plc)(nm:ByteArray)(x:Plc)(B C:Nat)(w:World)(h:aU w A l)(hx:x∈l)(hB:w.cell? ⟨B,0,none⟩=some (.slice A l.length c))(hC:w.cell? ⟨C,0,none⟩=some (.string nm))(hb:B<w.heap.size)(hc:C<w.heap.size):
  Calls Tryz.prog 266 (#[x.v]++ #[.pointer (some ⟨B,0,none⟩),.pointer (some ⟨C,0,none⟩)]) w fun e w'=>e=.returned (.bool (nU l (tx x.m.name) (tx nm)))/\Below w.heap.size w w':=by
 obtain⟨w0,hw0⟩:=Nm (w.alloc (.cells #[.string x.m.name,.int .i64 x.m.major,.int .i64 x.m.minor,.string x.m.text,.slice x.m.eA x.m.ex.length x.m.eC,.slice x.m.iA x.m.im.length x.m.iC,.slice x.m.pA x.m.pa.length x.m.pC,.int .i64 x.first] 83))
 obtain⟨f0,f1,f2,f3,f4,f5,f6,f7,hz,hb0⟩:=zH hw0
 have k1:=(hb0.cell (p:=⟨B,0,none⟩) hb).trans hB
 have k2:=(hb0.cell (p:=⟨C,0,none⟩) hc).trans hC
 have c1:=Hp (BU A c l x.m.name nm w0 (h.below hb0) (List.mem_map.2 ⟨x,hx,rfl⟩))
 have H0:=Hp hb0
 have hw0':=hw0.symm
 clear hw0 hb0 hz h hx hB hC hb hc
 go_enter Tryz.func266,Tryz.ntmps266
 go_wp2_with (go_at_call 161;refine(c1.out).mono ?_;rintro e w3 ⟨rfl,hb3⟩)
 go_ret
 exact⟨rfl,H0.trans (hb3.mono H0.size)⟩
theorem NN (A:Option Addr)(c:Nat)(l:List Plc)(nm:ByteArray)(w:World)(h:aU w A l):
  Calls Tryz.prog 247 #[.slice A l.length c,.string nm] w fun e w'=>e=.returned (.bool (oN l nm))/\Below w.heap.size w w':=by
 obtain⟨w0,hw0⟩:=Nm (w.alloc (.cells #[.slice A l.length c] 37))
 obtain⟨x0,hx0⟩:=Nm (w0.alloc (.cells #[.string nm] 9))
 have hz0:w0.heap.size=w.heap.size+1:=by subst hw0;simp
 have hz1:x0.heap.size=w.heap.size+2:=by subst hx0;simp;omega
 have hB0:Boxed w0 w.heap.size 37 (.slice A l.length c):=hw0▸Boxed.new _ _ _
 have hC1:Boxed x0 (w.heap.size+1) 9 (.string nm):=by rw[<-hz0];exact hx0▸Boxed.new _ _ _
 have hb0:Below w.heap.size w w0:=hw0▸ZB
 have hbx:Below w0.heap.size w0 x0:=hx0▸ZB
 have hB1:Boxed x0 w.heap.size 37 (.slice A l.length c):=dX hB0 hbx (by omega)
 have hb1:=hb0.trans (hbx.mono hb0.size)
 have HB:=Hp hb1
 have k1:=hB1.cell
 have c1:=Hp (Gz A c l 266 #[.pointer (some ⟨w.heap.size,0,none⟩),.pointer (some ⟨w.heap.size+1,0,none⟩)] (fun x=>nU l (tx x.m.name) (tx nm)) x0 (enters_of Tryz.func266 (by kernel_rfl) rfl) (h.row.below hb1) h.len
  (fun x hx W hb=>LA A c l nm x w.heap.size (w.heap.size+1) W ((h.below hb1).below hb) hx (dX hB1 hb (by omega)).cell (dX hC1 hb (by omega)).cell (by have:=hb.size;omega) (by have:=hb.size;omega)))
 have hw0':=hw0.symm
 have hx0':=hx0.symm
 have e1:=Hp (show l.any (fun x=>nU l (tx x.m.name) (tx nm))=oN l nm from rfl)
 rw[e1.out]at c1
 generalize oN l nm=b at*
 clear hw0 hx0 hB0 hC1 hb0 hbx hB1 hb1 h
 go_enter Tryz.func247,Tryz.ntmps247
 go_wp2_with (go_at_call 265;refine(c1.out).mono ?_;rintro e w3 ⟨rfl,hb3⟩)
 go_ret
 exact⟨rfl,HB.trans (hb3.mono HB.size)⟩
end
section
open Go.RowKit Go.Lib
structure RJ (W:World)(base bp:Nat)(k:Krn)(A:Option Addr)(l:List Plc)(c:Nat):Prop where
 heap:W.heap[bp]? =some (.cells #[.int .i64 k.major,.int .i64 k.minor,.slice k.eA k.ex.length k.eC,.slice A l.length c] 281 (0,0))
 own:jS W base k A l c
 ok:aU W A l
 low:base<=bp
theorem RJ.below {W W':World}{base bp:Nat}{k:Krn}{A:Option Addr}{l:List Plc}{c:Nat}(h:RJ W base bp k A l c)(hb:Below W.heap.size W W'):RJ W' base bp k A l c:=
 ⟨(hb.block bp (ZL h.heap)).trans h.heap,h.own.below hb,h.ok.below hb,h.low⟩
theorem RJ.size {W:World}{base bp:Nat}{k:Krn}{A:Option Addr}{l:List Plc}{c:Nat}(h:RJ W base bp k A l c):base<=W.heap.size:=GY1 h.low (GY2 (ZL h.heap))
def jU (first many:Int)(r:Run):Bool:=decide (r.first<=first)&&decide (first+many<=r.first+r.many)
theorem Lb (r:Run)(first many:Int)(B C:Nat)(w:World)(hB:w.cell? ⟨B,0,none⟩=some (.int .i64 first))(hC:w.cell? ⟨C,0,none⟩=some (.int .i64 many))(hb:B<w.heap.size)(hc:C<w.heap.size)
  (h1: -1000<=first/\first<=1000) (h2: -1000<=many/\many<=1000) (h3: -1000<=r.first/\r.first<=1000) (h4: -1000<=r.many/\r.many<=1000):
  Calls Tryz.prog 269 (#[r.v]++ #[.pointer (some ⟨B,0,none⟩),.pointer (some ⟨C,0,none⟩)]) w fun e w'=>e=.returned (.bool (jU first many r))/\Below w.heap.size w w':=by
 have hw1:=IntWalk.i64_in (first+many) (by omega)
 have hw2:=IntWalk.i64_in (r.first+r.many) (by omega)
 have n1:B≠w.heap.size:=by omega
 have n2:C≠w.heap.size:=by omega
 unfold jU
 by_cases t:r.first<=first
 ·by_cases s:first+many<=r.first+r.many
  ·have t':decide (r.first<=first)=true:=decide_eq_true t
   have s':decide (first+many<=r.first+r.many)=true:=decide_eq_true s
   go_enter Tryz.func269,Tryz.ntmps269
   go_wp2_with fail
   go_ret
   exact⟨by simp[t,s],ZB⟩
  ·have t':decide (r.first<=first)=true:=decide_eq_true t
   have s':decide (first+many<=r.first+r.many)=false:=GY7 s
   go_enter Tryz.func269,Tryz.ntmps269
   go_wp2_with fail
   go_ret
   exact⟨by simp,ZB⟩
 ·have t':decide (r.first<=first)=false:=GY7 t
  go_enter Tryz.func269,Tryz.ntmps269
  go_wp2_with fail
  go_ret
  exact⟨by simp,ZB⟩
theorem Ac :∀{l:List Plc}{a:Int},bW a l->∀r∈dC a l,a<=r.first/\0<r.many/\r.first+r.many<=16
 | [],a,h,r,hr=>by
  have:a<=16:=h
  unfold dC Rb at hr
  split at hr
  ·rw[List.mem_singleton.1 hr];simp only;omega
  ·cases hr
 |x::l,a,⟨h1,h2,h3,h4⟩,r,hr=>by
  have hle:=h4.le
  have e:aR x=x.first+aH x.m:=rfl
  unfold dC at hr
  rcases List.mem_append.1 hr with hr|hr
  ·unfold Rb at hr
   split at hr
   ·rw[List.mem_singleton.1 hr];simp only;omega
   ·cases hr
  ·have:=Ac h4 r hr
   omega
theorem MN (base bp:Nat)(k:Krn)(A:Option Addr)(c:Nat)(l:List Plc)(first many:Int)(w:World)(h:RJ w base bp k A l c)(hr:RY l=0)(h1: -1000<=first/\first<=1000)(h2: -1000<=many/\many<=1000):
  Calls Tryz.prog 249 #[.pointer (some ⟨bp,0,none⟩),.int .i64 first,.int .i64 many] w fun e w'=>e=.returned (.bool ((RI l).any (jU first many)))/\Below w.heap.size w w':=by
 obtain⟨w0,hw0⟩:=Nm (w.alloc (.cells #[.int .i64 first] 3))
 obtain⟨x0,hx0⟩:=Nm (w0.alloc (.cells #[.int .i64 many] 3))
 have hz0:w0.heap.size=w.heap.size+1:=by subst hw0;simp
 have hz1:x0.heap.size=w.heap.size+2:=by subst hx0;simp;omega
 have hB0:Boxed w0 w.heap.size 3 (.int .i64 first):=hw0▸Boxed.new _ _ _
 have hC1:Boxed x0 (w.heap.size+1) 3 (.int .i64 many):=by rw[<-hz0];exact hx0▸Boxed.new _ _ _
 have hb0:Below w.heap.size w w0:=hw0▸ZB
 have hbx:Below w0.heap.size w0 x0:=hx0▸ZB
 have hB1:Boxed x0 w.heap.size 3 (.int .i64 first):=dX hB0 hbx (by omega)
 have hb1:=hb0.trans (hbx.mono hb0.size)
 have HB:=Hp hb1
 have p3:=heap_cell ((hb1.block bp (ZL h.heap)).trans h.heap) 3
 simp only[GZ2,GZ0,GZ1]at p3
 have c1:=Hp (Hm A c l x0 (h.ok.below hb1) hr)
 have hrow:=(cZ hr).2.2
 have hrange:∀r∈RI l,0<=r.first/\0<r.many/\r.first+r.many<=16:=Ac hrow
 have hlen:(RI l).length<=big:=by have:=iY l 0;have:=(cZ hr).1;unfold RI big;omega
 have HQ:=Hp (fun A' c' W(hb:Below x0.heap.size x0 W)(hrow:xD W A' (RI l))=>GR A' c' (RI l) 269 #[.pointer (some ⟨w.heap.size,0,none⟩),.pointer (some ⟨w.heap.size+1,0,none⟩)] (jU first many) W (enters_of Tryz.func269 (by kernel_rfl) rfl) hrow hlen
  (fun x hx W' hb'=>by
   have hs:=hb.size
   have hs':=hb'.size
   have:=hrange x hx
   exact Lb x first many w.heap.size (w.heap.size+1) W' (dX (dX hB1 hb (by omega)) hb' (by omega)).cell (dX (dX hC1 hb (by omega)) hb' (by omega)).cell (by omega) (by omega) h1 h2 (by omega) (by omega)))
 have hw0':=hw0.symm
 have hx0':=hx0.symm
 generalize(RI l).any (jU first many)=b at*
 generalize RI l=R at*
 clear hw0 hx0 hB0 hC1 hb0 hbx hB1 hb1 h hr hrow hrange hlen
 go_enter Tryz.func249,Tryz.ntmps249
 go_wp2_with (first|(go_at_call 138;refine(c1.out).mono ?_;rintro e w2 ⟨⟨A',c',rfl,hrow⟩,hb2⟩;have HR:=Hp hrow;clear hrow)|(go_at_call 268;refine(HQ.out _ _ _ hb2 HR.out).mono ?_;rintro e w3 ⟨rfl,hb3⟩))
 go_ret
 exact⟨rfl,HB.trans ((hb2.mono HB.size).trans (hb3.mono (GY1 HB.size hb2.size)))⟩
end
section
open Go
open Gs (Tx)
structure Cm where
 kind:Int
 m:Mod
 nm:ByteArray
def SA (l:List Plc)(m:Mod):Int:=
 if aL m≠0 then aL m else if 0<=idxOf (named m.name) l then 6 else if l.length=8 then 2 else if fM (aH m) (RI l)<0 then 8 else 0
def oD (l:List Plc)(m:Mod):List Plc:=fH l m (fM (aH m) (RI l))
def lF (l:List Plc)(nm:ByteArray):Int:=if idxOf (named nm) l<0 then 5 else if oN l nm=true then 4 else 0
def Rc (l:List Plc)(nm:ByteArray):List Plc:=l.eraseIdx (idxOf (named nm) l).toNat
def dH (l:List Plc)(nm:ByteArray):Int:=match l.find? (named nm)with
 |some x=>x.first
 |none=>0
def Dx (l:List Plc)(m:Mod):Int:=
 if(RI (Rc l m.name)).any (jU (dH l m.name) (aH m))=true then dH l m.name else fM (aH m) (RI (Rc l m.name))
def kD (l:List Plc)(m:Mod):Int:=if aL m≠0 then aL m else if idxOf (named m.name) l<0 then 5 else if Dx l m<0 then 8 else 0
def qF (l:List Plc)(m:Mod):List Plc:=fH (Rc l m.name) m (Dx l m)
def kC (c:Cm)(l:List Plc):Int:=if c.kind=1 then SA l c.m else if c.kind=2 then lF l c.nm else kD l c.m
def cmL (c:Cm)(l:List Plc):List Plc:=if c.kind=1 then oD l c.m else if c.kind=2 then Rc l c.nm else qF l c.m
def kP (k:Krn)(c:Cm)(l:List Plc):Int:=if kC c l≠0 then kC c l else aZ k (cmL c l)
theorem kU (l:List Plc)(m:Mod)(f:Int):aD (fH l m f)=fH (aD l) m.bare f:=by
 unfold fH aD
 rw[List.map_append,List.map_cons,List.takeWhile_map,List.dropWhile_map]
 rfl
theorem sW :∀(l:List Plc)(a:Int),dC a (aD l)=dC a l
 | [],_=>rfl
 |x::l,a=>by
  show Rb a x.bare.first++dC (aR x.bare) (aD l)=_
  rw[sW l];rfl
theorem Tt (l:List Plc):RI (aD l)=RI l:=sW l 0
theorem qB (nm:ByteArray):∀l,idxOf (named nm) (aD l)=idxOf (named nm) l
 | []=>rfl
 |x::l=>by
  show idxOf (named nm) (x.bare::aD l)=_
  unfold idxOf
  rw[qB nm l];rfl
theorem Cv {α β:Type}(f:α->β):∀(l:List α)(i:Nat),(l.eraseIdx i).map f=(l.map f).eraseIdx i
 | [],_=>rfl
 |_::_,0=>rfl
 |x::l,i+1=>by
  show f x::(l.eraseIdx i).map f=f x::(l.map f).eraseIdx i
  rw[Cv f l i]
theorem Ur (l:List Plc)(nm:ByteArray):aD (Rc l nm)=Rc (aD l) nm:=by
 unfold Rc
 rw[qB,aD,Cv]
theorem Kb (l:List Plc)(a b:Tx):nU (aD l) a b=nU l a b:=by
 have h:∀l:List Plc,(aD l).find? (Us a)=(l.find? (Us a)).map Plc.bare:=by
  intro l
  induction l with
  |nil=>rfl
  |cons x l ih=>
   show(x.bare::aD l).find? (Us a)=_
   rw[List.find?_cons,List.find?_cons,ih]
   have:Us a x.bare=Us a x:=rfl
   rw[this]
   cases Us a x<;>rfl
 unfold nU
 rw[h]
 cases l.find? (Us a)<;>rfl
theorem Iu (l:List Plc)(nm:ByteArray):oN (aD l) nm=oN l nm:=by
 unfold oN
 rw[aD,List.any_map]
 congr 1
 funext x
 exact Kb l _ _
theorem Es (l:List Plc)(nm:ByteArray):dH (aD l) nm=dH l nm:=by
 unfold dH
 rw[xZ]
 cases l.find? (named nm)<;>rfl
theorem Eu (l:List Plc)(m:Mod):SA (aD l) m.bare=SA l m:=by
 unfold SA
 rw[show m.bare.name=m.name from rfl,qB,Tt,mO];rfl
theorem JK (l:List Plc)(m:Mod):aD (oD l m)=oD (aD l) m.bare:=by
 unfold oD
 rw[kU,Tt];rfl
theorem GQ (l:List Plc)(nm:ByteArray):lF (aD l) nm=lF l nm:=by
 unfold lF
 rw[qB,Iu]
theorem zT (l:List Plc)(m:Mod):Dx (aD l) m.bare=Dx l m:=by
 unfold Dx
 rw[show m.bare.name=m.name from rfl,<-Ur,Tt,Es];rfl
theorem FY (l:List Plc)(m:Mod):kD (aD l) m.bare=kD l m:=by
 unfold kD
 rw[zT,show m.bare.name=m.name from rfl,qB];rfl
theorem LU (l:List Plc)(m:Mod):aD (qF l m)=qF (aD l) m.bare:=by
 unfold qF
 rw[kU,Ur,zT];rfl
def Cm.bare (c:Cm):Cm:=⟨c.kind,c.m.bare,c.nm⟩
theorem VU (c:Cm)(l:List Plc):kC c.bare (aD l)=kC c l:=by
 unfold kC
 rw[show c.bare.m=c.m.bare from rfl,show c.bare.kind=c.kind from rfl,show c.bare.nm=c.nm from rfl,Eu,GQ,FY]
theorem Hy (c:Cm)(l:List Plc):aD (cmL c l)=cmL c.bare (aD l):=by
 unfold cmL
 rw[show c.bare.m=c.m.bare from rfl,show c.bare.kind=c.kind from rfl,show c.bare.nm=c.nm from rfl]
 split
 ·exact JK _ _
 ·split
  ·exact Ur _ _
  ·exact LU _ _
theorem AP {c c':Cm}{l l':List Plc}(hc:c.bare=c'.bare)(hl:aD l=aD l'):kC c l=kC c' l':=by
 rw[<-VU c l,hc,hl,VU]
theorem zV {c c':Cm}{l l':List Plc}(hc:c.bare=c'.bare)(hl:aD l=aD l'):aD (cmL c l)=aD (cmL c' l'):=by
 rw[Hy,Hy,hc,hl]
theorem VM {k k':Krn}{c c':Cm}{l l':List Plc}(hk:k.bare=k'.bare)(hc:c.bare=c'.bare)(hl:aD l=aD l'):kP k c l=kP k' c' l':=by
 unfold kP
 rw[AP hc hl,kQ hk (zV hc hl)]
def putAt (l:List Plc)(first:Int):Nat:=if idxOf (fun x:Plc=>decide (first<x.first)) l<0 then l.length else(idxOf (fun x:Plc=>decide (first<x.first)) l).toNat
theorem QA {α:Type}{p:α->Bool}:∀{l:List α}{j:Nat}(_:j<=l.length),(∀k(hk:k<l.length),k<j->p l[k]=true)->(∀hj:j<l.length,p l[j]=false)->l.takeWhile p=l.take j/\l.dropWhile p=l.drop j
 | [],0,_,_,_=>⟨rfl,rfl⟩
 |x::l,0,_,_,h2=>by
  have:=h2 (by simp)
  simp only[List.getElem_cons_zero]at this
  rw[List.takeWhile_cons,List.dropWhile_cons,this]
  exact⟨rfl,rfl⟩
 |x::l,j+1,h,h1,h2=>by
  have h0:=h1 0 (by simp) (by omega)
  simp only[List.getElem_cons_zero]at h0
  obtain⟨i1,i2⟩:=QA (p:=p) (l:=l) (j:=j) (by simpa using h) (fun k hk hkj=>h1 (k+1) (by simpa using hk) (by omega)) (fun hj=>h2 (by simpa using hj))
  rw[List.takeWhile_cons,List.dropWhile_cons,h0]
  exact⟨by simp[i1],by simp[i2]⟩
theorem zL (l:List Plc)(m:Mod)(first:Int):putAt l first<=l.length/\l.take (putAt l first)++⟨m,first⟩::l.drop (putAt l first)=fH l m first:=by
 unfold putAt
 rcases Sb (fun x:Plc=>decide (first<x.first)) l with⟨e,hn⟩|⟨j,hj,e,hq,hn⟩
 ·rw[e,if_pos (by decide)]
  obtain⟨i1,i2⟩:=JS (p:=fun x:Plc=>decide (x.first<=first)) (l:=l) (List.all_eq_true.2 fun x hx=>by have:=hn x hx;simp at this ⊢;exact this)
  unfold fH
  rw[i1,i2]
  exact⟨GZ3 _,by simp⟩
 ·rw[e,if_neg (by omega),Int.toNat_natCast]
  obtain⟨i1,i2⟩:=QA (p:=fun x:Plc=>decide (x.first<=first)) (l:=l) (j:=j) (by omega) (fun k hk hkj=>by have:=hn k hk hkj;simp at this ⊢;exact this) (fun hj'=>by simp at hq ⊢;exact hq)
  unfold fH
  rw[i1,i2]
  exact⟨by omega,rfl⟩
theorem TY (l:List Plc)(m:Mod)(first:Int):(fH l m first).length=l.length+1:=by
 obtain⟨h1,h2⟩:=zL l m first
 rw[<-h2]
 simp
 omega
theorem mU {l:List Plc}{m:Mod}{first:Int}{x:Plc}:x∈fH l m first↔x=⟨m,first⟩\/x∈l:=by
 obtain⟨h1,h2⟩:=zL l m first
 rw[<-h2,List.mem_append,List.mem_cons]
 have h3:x∈l↔x∈l.take (putAt l first)\/x∈l.drop (putAt l first):=by rw[<-List.mem_append,List.take_append_drop]
 rw[h3]
 constructor
 ·rintro(h|h|h)
  ·exact .inr (.inl h)
  ·exact .inl h
  ·exact .inr (.inr h)
 ·rintro(h|h|h)
  ·exact .inr (.inl h)
  ·exact .inl h
  ·exact .inr (.inr h)
theorem U5 {l:List Plc}{nm:ByteArray}{j:Nat}(h:idxOf (named nm) l=j):∃hj:j<l.length,l[j].m.name=nm/\l.find? (named nm)=some l[j]:=by
 rcases Sb (named nm) l with⟨e,_⟩|⟨i,hi,e,hq,hn⟩
 ·omega
 ·obtain rfl:i=j:=by omega
  refine⟨hi,by simpa[named]using hq,?_⟩
  rw[List.find?_eq_some_iff_getElem]
  exact⟨hq,i,hi,rfl,fun k hk=>by have:=hn k (by omega) hk;simp[this]⟩
theorem nK {l:List Plc}{nm:ByteArray}{j:Nat}(h:idxOf (named nm) l=j):∃hj:j<l.length,dH l nm=l[j].first:=by
 obtain⟨hj,_,h2⟩:=U5 h
 exact⟨hj,by unfold dH;rw[h2]⟩
theorem rU {l:List Plc}{a:Int}(h:bW a l):∀x∈l,a<=x.first/\aR x<=16:=by
 induction l generalizing a with
 |nil=>intro x hx;cases hx
 |cons y l ih=>
  obtain⟨g1,g2,g3,g4⟩:=h
  intro x hx
  have e:aR y=y.first+aH y.m:=rfl
  rcases List.mem_cons.1 hx with rfl|hx
  ·exact⟨g1,g4.le⟩
  ·have:=ih g4 x hx
   exact⟨by omega,this.2⟩
end
section
open Go.RowKit Go.Lib
theorem NG (x:Plc)(first:Int)(B:Nat)(w:World)(hB:w.cell? ⟨B,0,none⟩=some (.int .i64 first))(hb:B<w.heap.size):
  Calls Tryz.prog 270 (#[x.v]++ #[.pointer (some ⟨B,0,none⟩)]) w fun e w'=>e=.returned (.bool (decide (first<x.first)))/\Below w.heap.size w w':=by
 obtain⟨w0,hw0⟩:=Nm (w.alloc (.cells #[.string x.m.name,.int .i64 x.m.major,.int .i64 x.m.minor,.string x.m.text,.slice x.m.eA x.m.ex.length x.m.eC,.slice x.m.iA x.m.im.length x.m.iC,.slice x.m.pA x.m.pa.length x.m.pC,.int .i64 x.first] 83))
 obtain⟨f0,f1,f2,f3,f4,f5,f6,f7,hz,hb0⟩:=zH hw0
 have k1:=(hb0.cell (p:=⟨B,0,none⟩) hb).trans hB
 have H0:=Hp hb0
 have hw0':=hw0.symm
 clear hw0 hb0 hz hB hb
 go_enter Tryz.func270,Tryz.ntmps270
 go_wp2_with fail
 go_ret
 exact⟨rfl,H0.out⟩
theorem dI {W:World}{base bp:Nat}{k:Krn}{A:Option Addr}{l:List Plc}{c:Nat}(h:RJ W base bp k A l c):
  bp<W.heap.size/\W.cell? ⟨bp,0,none⟩=some (.int .i64 k.major)/\W.cell? ⟨bp,1,none⟩=some (.int .i64 k.minor)/\W.cell? ⟨bp,2,none⟩=some (.slice k.eA k.ex.length k.eC)/\W.cell? ⟨bp,3,none⟩=some (.slice A l.length c)/\W.frozen? ⟨bp,3,none⟩=false:=
 ⟨(ZL h.heap),heap_cell h.heap 0,heap_cell h.heap 1,heap_cell h.heap 2,heap_cell h.heap 3,heap_free h.heap 3⟩
theorem RF {W:World}{b:Nat}{m:Mod}(h:W.heap[b]? =some (.cells #[.string m.name,.int .i64 m.major,.int .i64 m.minor,.string m.text,.slice m.eA m.ex.length m.eC,.slice m.iA m.im.length m.iC,.slice m.pA m.pa.length m.pC] 70 (0,0))):
  W.cell? ⟨b,0,none⟩=some (.string m.name)/\W.cell? ⟨b,1,none⟩=some (.int .i64 m.major)/\W.cell? ⟨b,2,none⟩=some (.int .i64 m.minor)/\W.cell? ⟨b,3,none⟩=some (.string m.text)/\W.cell? ⟨b,4,none⟩=some (.slice m.eA m.ex.length m.eC)/\W.cell? ⟨b,5,none⟩=some (.slice m.iA m.im.length m.iC)/\W.cell? ⟨b,6,none⟩=some (.slice m.pA m.pa.length m.pC):=
 ⟨heap_cell h 0,heap_cell h 1,heap_cell h 2,heap_cell h 3,heap_cell h 4,heap_cell h 5,heap_cell h 6⟩
theorem QG {w2 w3:World}{base bp B:Nat}{k:Krn}{A:Option Addr}{l:List Plc}{c:Nat}{first:Int}(h:RJ w2 base bp k A l c)(hB:Boxed w2 B 3 (.int .i64 first))(hb:Below w2.drew.heap.size w2.drew w3)(m':Mod)(ho:m'.own w3 w2.drew.heap.size):
  w3.cell? ⟨bp,3,none⟩=some (.slice A l.length c)/\w3.cell? ⟨B,0,none⟩=some (.int .i64 first)/\(∀o,(w3.alloc o).cell? ⟨bp,3,none⟩=some (.slice A l.length c))/\
  Hid (∀o,RJ (w3.alloc o) base bp k A l c)/\Hid (∀o,m'.own (w3.alloc o) base)/\Hid ((w3.alloc (.cells (CJ ⟨m',first⟩) 83)).heap[w3.heap.size]? =some (.cells (CJ ⟨m',first⟩) 83 (0,0)))/\Hid (∀a,A=some a->a.block≠w3.heap.size)/\Hid (∀o,base<=(w3.alloc o).heap.size):=by
 have h2:RJ w2.drew base bp k A l c:=h.below (GZ4 _ w2).drew
 have h3:=h2.below hb
 have hB3:Boxed w3 B 3 (.int .i64 first):=(hb.block B (ZL hB)).trans hB
 have ha:∀o,RJ (w3.alloc o) base bp k A l c:=fun o=>h3.below ((GZ4 _ _).alloc (GZ3 _) o)
 refine⟨(dI h3).2.2.2.2.1,hB3.cell,fun o=>(dI (ha o)).2.2.2.2.1,Hp ha,Hp fun o=>(ho.below ((GZ4 _ _).alloc (GZ3 _) o)).le h2.size,Hp (heap_alloc_new w3 _),Hp fun a e=>?_,Hp fun o=>(ha o).size⟩
 subst e
 have hr:=h3.own.mods.row
 rcases hr.2 with⟨e1,_⟩|⟨g,cap,cur,e1,_,e3,_⟩
 ·injection e1 with e1;cases e1
 ·injection e1 with e1
  have:=(ZL e3)
  injection e1 with e1
  subst e1
  exact Nat.ne_of_lt this
theorem QF {w4 w5:World}{base bp:Nat}{k:Krn}{A A':Option Addr}{l:List Plc}{c c' n:Nat}{m':Mod}{first:Int}(h:RJ w4 base bp k A l c)(hm:m'.own w4 base)(hmo:m'.ok w4)(hk:Kp [83] w4 w5)(ho:aP w5 base (.slice A' n c') (l.take (putAt l first)++⟨m',first⟩::l.drop (putAt l first)))(hn:n=l.length+1)(h8:l.length<=8):
  w5.heap[bp]? =some (.cells #[.int .i64 k.major,.int .i64 k.minor,.slice k.eA k.ex.length k.eC,.slice A l.length c] 281 (0,0))/\
  RJ (w5.setCell ⟨bp,3,none⟩ (.slice A' n c')) base bp k A' (fH l m' first) c'/\Kp [83,281] w4 (w5.setCell ⟨bp,3,none⟩ (.slice A' n c')):=by
 have h5:=hk _ _ _ _ h.heap (by decide)
 have hks:Kp [281] w5 (w5.setCell ⟨bp,3,none⟩ (.slice A' n c')):=Kp.set h5 (by simp) _ _
 have hkk:Kp [83,281] w4 (w5.setCell ⟨bp,3,none⟩ (.slice A' n c')):=(hk.mono (by simp)).trans (hks.mono (by simp))
 have hw:=(zL l m' first).2
 have hln:=TY l m' first
 rw[hw]at ho
 have hown:kI (w5.setCell ⟨bp,3,none⟩ (.slice A' n c')) base (.slice A' (fH l m' first).length c') (fH l m' first):=by
  refine⟨by rw[hln,<-hn];exact own_kp ho hks (by decide),fun x hx=>?_⟩
  rcases mU.1 hx with rfl|hx
  ·exact hm.kp hkk (by decide) (by decide) (by decide)
  ·exact(h.own.mods.each x hx).kp hkk (by decide) (by decide) (by decide)
 refine⟨h5,⟨?_,⟨own_kp h.own.ex hkk (by decide),hown⟩,⟨Reads.of_own hown.row,by rw[hln];unfold big;omega,fun x hx=>?_⟩,h.low⟩,hkk⟩
 ·rw[hln,<-hn]
  exact heap_setCell_same w5 bp 3 _ _ (.slice A' n c') h5
 ·rcases mU.1 hx with rfl|hx
  ·exact(hm.kp hkk (by decide) (by decide) (by decide)).ok ⟨rfl,rfl,rfl,rfl,rfl,rfl,rfl⟩ hmo
  ·exact((h.own.mods.each x hx).kp hkk (by decide) (by decide) (by decide)).ok ⟨rfl,rfl,rfl,rfl,rfl,rfl,rfl⟩ (h.ok.each x hx)
theorem G8 (base bp:Nat)(k:Krn)(A:Option Addr)(c:Nat)(l:List Plc)(m:Mod)(first:Int)(w:World)(h:RJ w base bp k A l c)(hm:m.ok w)(he:aL m=0)(h8:l.length<=8):
  Calls Tryz.prog 250 #[.pointer (some ⟨bp,0,none⟩),m.v,.int .i64 first] w fun e w'=>(∃u,e=.returned u)/\(∃A' c' m',gI m' m/\RJ w' base bp k A' (fH l m' first) c')/\Kp [83,281] w w'/\Below base w w':=by
 obtain⟨w0,hw0⟩:=Nm (w.alloc (.cells #[.string m.name,.int .i64 m.major,.int .i64 m.minor,.string m.text,.slice m.eA m.ex.length m.eC,.slice m.iA m.im.length m.iC,.slice m.pA m.pa.length m.pC] 70))
 obtain⟨x0,hx0⟩:=Nm (w0.alloc (.cells #[.int .i64 first] 3))
 have hz0:w0.heap.size=w.heap.size+1:=by subst hw0;simp
 have hb0:Below w.heap.size w w0:=hw0▸ZB
 have hbx:Below w0.heap.size w0 x0:=hx0▸ZB
 have hM0:w0.heap[w.heap.size]? =some (.cells #[.string m.name,.int .i64 m.major,.int .i64 m.minor,.string m.text,.slice m.eA m.ex.length m.eC,.slice m.iA m.im.length m.iC,.slice m.pA m.pa.length m.pC] 70 (0,0)):=by rw[hw0];exact heap_alloc_new w _
 have hMx:=(hbx.block w.heap.size (by omega)).trans hM0
 have hBx:Boxed x0 (w.heap.size+1) 3 (.int .i64 first):=by rw[<-hz0];exact hx0▸Boxed.new _ _ _
 have hb1:=hb0.trans (hbx.mono hb0.size)
 have hzx:x0.heap.size=w.heap.size+2:=by rw[hx0];simp;omega
 have hP0:=h.below hb1
 obtain⟨hbp,p0,p1,p2,p3,pf⟩:=dI hP0
 have HQ:=Hp (UO A c l 270 #[.pointer (some ⟨w.heap.size+1,0,none⟩)] (fun p=>decide (first<p.first)) x0 (enters_of Tryz.func270 (by kernel_rfl) rfl) hP0.ok.row hP0.ok.len
  (fun x _ W hb=>NG x first (w.heap.size+1) W (dX hBx hb (by omega)).cell (by have:=hb.size;omega)))
 have cO:=Hp (fun W(hb:Below w.heap.size w W)=>Ei m W (hm.below hb) (xQ he))
 have HOK:=Hp hm
 have HB:=Hp hb1
 have HP:=Hp hP0
 have HMX:=Hp hMx
 have HBX:=Hp hBx
 have HSB:=Hp h.size
 have hw0':=hw0.symm
 have hx0':=hx0.symm
 obtain⟨hput,_⟩:=zL l m first
 have HPUT:=Hp hput
 have HPA:=Hp (show putAt l first=if idxOf (fun p:Plc=>decide (first<p.first)) l<0 then l.length else(idxOf (fun p:Plc=>decide (first<p.first)) l).toNat from rfl)
 obtain⟨ix,hix⟩:=Nm (idxOf (fun p:Plc=>decide (first<p.first)) l)
 rw[<-hix]at HQ HPA
 obtain⟨pa,hpa⟩:=Nm (putAt l first)
 have HPAE:=Hp hpa
 rw[<-hpa]at HPA HPUT
 clear hw0 hx0 hb0 hbx hM0 hMx hBx hb1 hP0 hm he h p0 p1 p2 hput hix hpa
 have HH:=Hp h8
 clear h8
 go_enter Tryz.func250,Tryz.ntmps250
 go_wp2_with fail
 refine(HQ.out).mono ?_;rintro e w2 ⟨rfl,hb2⟩
 have HP2:=Hp (HP.below hb2)
 have HB2:=Hp (HB.trans (hb2.mono HB.size))
 have hM2:=(hb2.block w.heap.size (ZL HMX.out)).trans HMX.out
 have HBX2:=Hp (dX HBX hb2 (ZL HBX))
 obtain⟨m0,m1,m2,m3,m4,m5,m6⟩:=RF hM2
 obtain⟨hbp2,_,_,_,q3,qf⟩:=dI HP2.out
 have k0:=HBX2.cell
 clear hb2 hM2 HQ hbp p3 pf
 have HLOW:=Hp HP.low
 by_cases t:ix<0
 ·have hpn:pa=l.length:=by have:=HPA.out;rwa [if_pos t]at this
  have t':decide (ix<0)=true:=decide_eq_true t
  go_wp2_with fail
  go_upto_region 4 with fail
  rw[<-hpn]
  clear hpn t t' HPA
  go_region_law (first
   |(go_simp;go_at_call 125;(with_reducible refine(cO.out _ HB2.out.drew).mono ?_);rintro e w3 ⟨⟨m',rfl,hs3,ho3⟩,hb3⟩;obtain⟨j3,j0,ja,HPA3,HMA3,HV3,HNE3,HSA3⟩:=QG HP2.out HBX2.out hb3 m' ho3;have HS3:=Hp hs3;have HB3:=Hp (HB2.out.drew.trans (hb3.mono HB2.out.size));clear hb3 ho3 hs3)
   |(go_simp;go_at_call 271;(with_reducible refine(BH base A c l.length pa w3.heap.size l ⟨m',first⟩ _ (HPA3.out _).own.mods.row rfl HPUT.out (HSA3.out _) (GY1 HH.out (by decide)) HV3.out HNE3.out).mono ?_);rintro e w5 ⟨⟨A',c',rfl,ho5⟩,hk5,hb5⟩;obtain⟨h5,hn5,hkk5⟩:=QF (HPA3.out _) (HMA3.out _) ((HMA3.out _).ok HS3.out HOK.out) hk5 (HPAE.out▸ho5) rfl HH.out;have z3:=heap_cell h5 3;have zf:=heap_free h5 3;simp only[GZ2,GZ0,GZ1]at z3;have HN5:=Hp hn5;have HK5:=Hp (Kp.trans (Kp.trans (Kp.of_below HB3.out) (Kp.alloc (Kp.refl _ _) _)) hkk5);have HB5:=Hp (((HB3.out.mono HSB.out).trans ((GZ4 w3.heap.size w3).alloc (GZ3 _) _ |>.mono (GY1 HSB.out HB3.out.size))).trans hb5);clear h5 hn5 hkk5 ho5 hk5 hb5))
  all_goals(
   go_wp2_with fail
   go_end0
   exact⟨⟨_,rfl⟩,⟨A',c',m',HS3.out,HN5.out⟩,HK5.out,HB5.setCell (p:=⟨bp,3,none⟩) HLOW.out _⟩)
 ·have hpn:ix=pa:=by have:=HPA.out;rw[if_neg t]at this;omega
  have t':decide (ix<0)=false:=GY7 t
  go_wp2_with fail
  go_upto_region 4 with fail
  try rw[hpn]
  clear hpn t t' HPA
  go_region_law (first
   |(go_simp;go_at_call 125;(with_reducible refine(cO.out _ HB2.out.drew).mono ?_);rintro e w3 ⟨⟨m',rfl,hs3,ho3⟩,hb3⟩;obtain⟨j3,j0,ja,HPA3,HMA3,HV3,HNE3,HSA3⟩:=QG HP2.out HBX2.out hb3 m' ho3;have HS3:=Hp hs3;have HB3:=Hp (HB2.out.drew.trans (hb3.mono HB2.out.size));clear hb3 ho3 hs3)
   |(go_simp;go_at_call 271;(with_reducible refine(BH base A c l.length pa w3.heap.size l ⟨m',first⟩ _ (HPA3.out _).own.mods.row rfl HPUT.out (HSA3.out _) (GY1 HH.out (by decide)) HV3.out HNE3.out).mono ?_);rintro e w5 ⟨⟨A',c',rfl,ho5⟩,hk5,hb5⟩;obtain⟨h5,hn5,hkk5⟩:=QF (HPA3.out _) (HMA3.out _) ((HMA3.out _).ok HS3.out HOK.out) hk5 (HPAE.out▸ho5) rfl HH.out;have z3:=heap_cell h5 3;have zf:=heap_free h5 3;simp only[GZ2,GZ0,GZ1]at z3;have HN5:=Hp hn5;have HK5:=Hp (Kp.trans (Kp.trans (Kp.of_below HB3.out) (Kp.alloc (Kp.refl _ _) _)) hkk5);have HB5:=Hp (((HB3.out.mono HSB.out).trans ((GZ4 w3.heap.size w3).alloc (GZ3 _) _ |>.mono (GY1 HSB.out HB3.out.size))).trans hb5);clear h5 hn5 hkk5 ho5 hk5 hb5))
  all_goals(
   go_wp2_with fail
   go_end0
   exact⟨⟨_,rfl⟩,⟨A',c',m',HS3.out,HN5.out⟩,HK5.out,HB5.setCell (p:=⟨bp,3,none⟩) HLOW.out _⟩)
end
section
open Go.RowKit Go.Lib
theorem Qa {w4 w5:World}{base bp g:Nat}{k:Krn}{A A':Option Addr}{l:List Plc}{c c' n:Nat}{nm:ByteArray}{j:Nat}(h:RJ w4 base bp k A l c)(hj:idxOf (named nm) l=j)(hg:∃cs,w4.heap[g]? =some (.cells cs 83 (0,0)))(hbg:base<=g)(hk:Only g w4 w5)(ho:aP w5 base (.slice A' n c') (l.eraseIdx j))(hn:n+1=l.length):
  w5.heap[bp]? =some (.cells #[.int .i64 k.major,.int .i64 k.minor,.slice k.eA k.ex.length k.eC,.slice A l.length c] 281 (0,0))/\
  RJ (w5.setCell ⟨bp,3,none⟩ (.slice A' n c')) base bp k A' (Rc l nm) c'/\Kp [83,281] w4 (w5.setCell ⟨bp,3,none⟩ (.slice A' n c'))/\Below base w4 (w5.setCell ⟨bp,3,none⟩ (.slice A' n c')):=by
 obtain⟨cs,hgc⟩:=hg
 have hk1:Kp [83] w4 w5:=hk.kp hgc (by simp)
 have h5:=hk1 _ _ _ _ h.heap (by decide)
 have hks:Kp [281] w5 (w5.setCell ⟨bp,3,none⟩ (.slice A' n c')):=Kp.set h5 (by simp) _ _
 have hkk:Kp [83,281] w4 (w5.setCell ⟨bp,3,none⟩ (.slice A' n c')):=(hk1.mono (by simp)).trans (hks.mono (by simp))
 obtain⟨hjl,_⟩:=U5 hj
 have hrl:Rc l nm=l.eraseIdx j:=by unfold Rc;rw[hj,Int.toNat_natCast]
 have hln:(l.eraseIdx j).length=n:=by rw[List.length_eraseIdx_of_lt hjl];omega
 have hlb:=h.ok.len
 rw[hrl]
 have hown:kI (w5.setCell ⟨bp,3,none⟩ (.slice A' n c')) base (.slice A' (l.eraseIdx j).length c') (l.eraseIdx j):=
  ⟨by rw[hln];exact own_kp ho hks (by decide),fun x hx=>(h.own.mods.each x (List.mem_of_mem_eraseIdx hx)).kp hkk (by decide) (by decide) (by decide)⟩
 refine⟨h5,⟨?_,⟨own_kp h.own.ex hkk (by decide),hown⟩,⟨Reads.of_own hown.row,by rw[hln];omega,fun x hx=>?_⟩,h.low⟩,hkk,?_⟩
 ·rw[hln]
  exact heap_setCell_same w5 bp 3 _ _ (.slice A' n c') h5
 ·exact((h.own.mods.each x (List.mem_of_mem_eraseIdx hx)).kp hkk (by decide) (by decide) (by decide)).ok ⟨rfl,rfl,rfl,rfl,rfl,rfl,rfl⟩ (h.ok.each x (List.mem_of_mem_eraseIdx hx))
 ·have hgl:=(ZL hgc)
  exact((hk.below (GY2 hgl)).mono hbg).setCell (p:=⟨bp,3,none⟩) h.low _
theorem DK (base bp:Nat)(k:Krn)(A:Option Addr)(c:Nat)(l:List Plc)(nm:ByteArray)(j:Nat)(w:World)(h:RJ w base bp k A l c)(hj:idxOf (named nm) l=j)(h8:l.length<=8):
  Calls Tryz.prog 248 #[.pointer (some ⟨bp,0,none⟩),.string nm] w fun e w'=>e=.returned (.int .i64 (dH l nm))/\(∃A' c',RJ w' base bp k A' (Rc l nm) c')/\Kp [83,281] w w'/\Below base w w':=by
 obtain⟨hjl,hfa⟩:=nK hj
 obtain⟨n,hn⟩:∃n,n+1=l.length:=⟨l.length -1,by omega⟩
 obtain⟨g,hA,hgb,hgl,hgc,_⟩:=aP.at_ h.own.mods.row hjl
 subst hA
 obtain⟨cur,hbg,hg,h1,h2,h3,h4⟩:=Cw h.own.mods.row rfl
 obtain⟨_,_,_,_,p3,_⟩:=dI h
 have HP:=Hp h
 have HJ:=Hp hj
 have HN:=Hp hn
 have c1:=Hp (SY (some ⟨g,0,none⟩) c l nm w h.ok.row h.ok.len)
 rw[hj]at c1
 have cD:=Hp (fun W(hb:Below w.heap.size w W)=>Ir base g c n j l W cur ((hb.block g hgl).trans hg) h3 h4 hbg hn (by omega) (by omega) (by omega) h2)
 have HAT:=Hp (fun W(hb:Below w.heap.size w W)=>RS h.ok.row hb j hjl)
 have HGC:=Hp hgc
 have HBG:=Hp hgb
 have hw1:IntKind.i64.wrap ((j:Int)+1)=(j:Int)+1:=by rw[IntKind.wrap_i64];omega
 have hjn:(j:Int)<(n:Int)+1:=by omega
 have hAD:(⟨g,0,none⟩:Addr).add (j*8)=⟨g,j*8,none⟩:=by rw[Addr.add_lit,Nat.zero_add]
 have HFA:=Hp hfa
 obtain⟨fa,hfa'⟩:=Nm (dH l nm)
 rw[<-hfa']at HFA ⊢
 have HGL:=Hp hgl
 rw[<-hn]at p3 c1
 clear h hj hgc hgb hbg hg h1 h2 h3 h4 hfa hfa' h8 hgl hn
 go_enter Tryz.func248,Tryz.ntmps248
 go_wp2_with fail
 refine(c1.out).mono ?_;rintro e w2 ⟨rfl,hb2⟩
 have HP2:=Hp (HP.below hb2)
 obtain⟨_,_,_,_,q3,_⟩:=dI HP2.out
 rw[<-HN.out]at q3
 obtain⟨ad,ea,_,_,_,_,_,_,_,_,m7⟩:=HAT.out w2 hb2
 obtain rfl:=GY3 ea
 rw[hAD]at m7
 rw[<-HFA.out]at m7
 have HB2:=Hp hb2
 clear p3 c1
 go_wp2_with fail
 refine(cD.out _ HB2.out).mono ?_;rintro e w4 ⟨rfl,ho4,hon4⟩
 obtain⟨t1,t2,t3,t4⟩:=Qa HP2.out HJ.out (by obtain⟨cs,hcs⟩:=HGC.out;exact⟨cs,(HB2.block g HGL.out).trans hcs⟩) HBG.out hon4 ho4 HN.out
 have z3:=heap_cell t1 3
 have zf:=heap_free t1 3
 simp only[GZ2,GZ0,GZ1]at z3
 have T2:=Hp t2
 have T3:=Hp t3
 have T4:=Hp t4
 clear t1 t2 t3 t4 ho4 hon4 q3 m7
 go_wp2_with fail
 go_ret
 exact⟨rfl,⟨_,_,T2.out⟩,(Kp.of_below HB2.out).trans T3.out,(HB2.mono HP.size).trans T4.out⟩
def qV (w:World)(base bp:Nat)(k:Krn)(E:Int)(L:List Plc)(e:Ending)(w':World):Prop:=
 e=.returned (.int .i64 E)/\(E=0->∃A' c' L',aD L'=aD L/\RJ w' base bp k A' L' c')/\Kp [83,281] w w'/\Below base w w'
theorem He (base bp:Nat)(k:Krn)(A:Option Addr)(c:Nat)(l:List Plc)(m:Mod)(w:World)(h:RJ w base bp k A l c)(hm:m.ok w)(he:aL m=0)(hr:RY l=0):
  Calls Tryz.prog 246 #[.pointer (some ⟨bp,0,none⟩),m.v] w (qV w base bp k (if fM (aH m) (RI l)<0 then 8 else 0) (fH l m (fM (aH m) (RI l)))):=by
 obtain⟨w0,hw0⟩:=Nm (w.alloc (.cells #[.string m.name,.int .i64 m.major,.int .i64 m.minor,.string m.text,.slice m.eA m.ex.length m.eC,.slice m.iA m.im.length m.iC,.slice m.pA m.pa.length m.pC] 70))
 have hb0:Below w.heap.size w w0:=hw0▸ZB
 have hM0:w0.heap[w.heap.size]? =some (.cells #[.string m.name,.int .i64 m.major,.int .i64 m.minor,.string m.text,.slice m.eA m.ex.length m.eC,.slice m.iA m.im.length m.iC,.slice m.pA m.pa.length m.pC] 70 (0,0)):=by rw[hw0];exact heap_alloc_new w _
 have hP0:=h.below hb0
 obtain⟨hbp,_,_,_,p3,_⟩:=dI hP0
 obtain⟨m0,m1,m2,m3,m4,m5,m6⟩:=RF hM0
 have hbl:w.heap.size<w0.heap.size:=(ZL hM0)
 have HP0:=Hp hP0
 have HM0:=Hp hM0
 have HB0:=Hp hb0
 have HSB:=Hp h.size
 have HE:=Hp he
 have cM:=Hp (fun W=>qG m W hm.text)
 have HMO:=Hp (fun W(hb:Below w.heap.size w W)=>hm.below hb)
 have h8:=(cZ hr).1
 have H8:=Hp h8
 have cF:=Hp (fun W(hb:Below w0.heap.size w0 W)=>PU A c l (aH m) W (hP0.ok.below hb) hr)
 obtain⟨q,hq⟩:=Nm (fM (aH m) (RI l))
 rw[<-hq]at cF ⊢
 obtain⟨mm,hmm⟩:=Nm (aH m)
 rw[<-hmm]at cM cF
 obtain⟨E,hE⟩:∃E:Int,E=if q<0 then 8 else 0:=⟨_,rfl⟩
 rw[<-hE]
 have HEE:=Hp hE
 obtain⟨L,hL⟩:=Nm (fH l m q)
 rw[<-hL]
 have HLL:=Hp hL
 have hw0':=hw0.symm
 have HBL:=Hp hbl
 clear hw0 hb0 hM0 hP0 h hm he hr h8 hq hmm hE hL
 have HCH:=Hp (show fI w0 (fun W'=>Below w0.heap.size w0 W'/\W'.cell? ⟨w.heap.size,0,none⟩=some (.string m.name)/\W'.cell? ⟨w.heap.size,1,none⟩=some (.int .i64 m.major)/\W'.cell? ⟨w.heap.size,2,none⟩=some (.int .i64 m.minor)/\W'.cell? ⟨w.heap.size,3,none⟩=some (.string m.text)/\W'.cell? ⟨w.heap.size,4,none⟩=some (.slice m.eA m.ex.length m.eC)/\W'.cell? ⟨w.heap.size,5,none⟩=some (.slice m.iA m.im.length m.iC)/\W'.cell? ⟨w.heap.size,6,none⟩=some (.slice m.pA m.pa.length m.pC)/\W'.cell? ⟨bp,3,none⟩=some (.slice A l.length c)) from dE (by repeat' first|(with_reducible exact bC.cell (by first|omega|(simp;omega)|(simp only[aA];omega)))|refine bC.and ?_ ?_))
 have HC0:=Hp (HCH.now ⟨GZ4 _ _,by assumption,by assumption,by assumption,by assumption,by assumption,by assumption,by assumption,by assumption⟩)
 have HCD:=Hp HCH.D
 have HCS:=Hp HCH.S
 have HCA:=Hp HCH.A
 have HCX:=Hp HCH.X
 have HCL:=Hp HCH.L
 go_enter Tryz.func246,Tryz.ntmps246
 go_wp2_with fail
 go_region_held3 (fun W'=>Below w0.heap.size w0 W'/\W'.cell? ⟨w.heap.size,0,none⟩=some (.string m.name)/\W'.cell? ⟨w.heap.size,1,none⟩=some (.int .i64 m.major)/\W'.cell? ⟨w.heap.size,2,none⟩=some (.int .i64 m.minor)/\W'.cell? ⟨w.heap.size,3,none⟩=some (.string m.text)/\W'.cell? ⟨w.heap.size,4,none⟩=some (.slice m.eA m.ex.length m.eC)/\W'.cell? ⟨w.heap.size,5,none⟩=some (.slice m.iA m.im.length m.iC)/\W'.cell? ⟨w.heap.size,6,none⟩=some (.slice m.pA m.pa.length m.pC)/\W'.cell? ⟨bp,3,none⟩=some (.slice A l.length c)) (first|exact HC0.out|exact HCD.out _ HC0.out|exact HCS.out _ _ (by assumption) (by assumption)|exact HCS.out _ _ HC0.out (by assumption)|exact HCS.out _ _ (HCD.out _ HC0.out) (by assumption)|exact HCS.out _ _ (HCD.out _ (by assumption)) (by assumption)|exact HCD.out _ (by assumption)|exact HCA.out _ _ (by assumption)|exact HCA.out _ _ HC0.out|exact HCA.out _ _ (HCD.out _ HC0.out)|exact HCD.out _ (HCA.out _ _ (by assumption))|exact HCA.out _ _ (HCS.out _ _ HC0.out (by assumption))|exact HCA.out _ _ (HCS.out _ _ (HCD.out _ HC0.out) (by assumption))|exact HCX.out _ _ _ _ (GZ3 _) (by assumption)|exact HCX.out _ _ _ _ (GZ3 _) (HCS.out _ _ (HCA.out _ _ HC0.out) (by assumption))|exact HCX.out _ _ _ _ (GZ3 _) (HCS.out _ _ (HCD.out _ (HCA.out _ _ HC0.out)) (by assumption))|assumption) (first|(go_at_call 164;(with_reducible refine(cM.out _).mono ?_);rintro e w3 ⟨rfl,hb3⟩)|(go_at_call 190;(with_reducible refine(cF.out _ (HCL.out _ (by first|assumption|exact HCS.out _ _ (by assumption) (by assumption)|exact HCS.out _ _ HC0.out (by assumption)|exact HCS.out _ _ (HCD.out _ HC0.out) (by assumption)))).mono ?_);rintro e w4 ⟨rfl,hb4⟩))
 have HB4:=Hp (HCL.out w4 (by assumption))
 have HP4:=Hp (HP0.below HB4)
 have HBW:=Hp (HB0.trans (HB4.mono HB0.size))
 obtain⟨n0,n1,n2,n3,n4,n5,n6⟩:=RF ((HB4.block w.heap.size HBL.out).trans HM0.out)
 have cP:=Hp (G8 base bp k A c l m q w4 HP4.out (HMO.out w4 HBW.out) HE.out H8.out)
 clear hb4 HC0 HCD HCS HCA HCX HCL
 by_cases t:q<0
 ·have hE8:E=8:=by have:=HEE.out;rwa [if_pos t]at this
  subst hE8
  have t':decide (q<0)=true:=decide_eq_true t
  clear t
  go_wp2_with fail
  go_ret
  exact⟨rfl,fun e=>absurd e (by decide),Kp.of_below HBW.out,HBW.mono HSB.out⟩
 ·have hE0:E=0:=by have:=HEE.out;rwa [if_neg t]at this
  subst hE0
  have t':decide (q<0)=false:=GY7 t
  clear t
  go_wp2_with fail
  refine(cP.out).mono ?_;rintro e w5 ⟨⟨u,rfl⟩,⟨A',c',m',hs5,hp5⟩,hk5,hb5⟩
  have HS5:=Hp hs5
  have HP5:=Hp hp5
  have HK5:=Hp hk5
  have HB5:=Hp hb5
  clear hs5 hp5 hk5 hb5
  go_wp2_with fail
  go_ret
  refine⟨rfl,fun _=>⟨A',c',fH l m' q,?_,HP5.out⟩,(Kp.of_below HBW.out).trans HK5.out,(HBW.mono HSB.out).trans HB5.out⟩
  rw[HLL.out,kU,kU,iL HS5.out]
theorem qV.after {w w4:World}{base bp:Nat}{k:Krn}{E:Int}{L:List Plc}(hk:Kp [83,281] w w4)(hb:Below base w w4):∀e w',qV w4 base bp k E L e w'->qV w base bp k E L e w':=
 fun _ _ ⟨h1,h2,h3,h4⟩=>⟨h1,h2,hk.trans h3,hb.trans h4⟩
end
end Go.Proofs.YtjiedaialianmaaGreat
