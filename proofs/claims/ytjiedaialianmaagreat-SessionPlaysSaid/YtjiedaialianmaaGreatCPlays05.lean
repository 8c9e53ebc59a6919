import Derived.Test.YtjiedaialianmaaGreatCPlays03
set_option maxRecDepth 100000
set_option maxHeartbeats 4000000
namespace Go.Proofs.YtjiedaialianmaaGreat
section
open Go.RowKit
theorem Jq {f:List ByteArray}{l:List Ded}{j:Nat}(h:j<l.length):bT f (l.take (j+1))=fB (bT f (l.take j)) l[j] (fun _=>255):=by
 rw[List.take_succ_eq_append_getElem h,mM];rfl
theorem Gg (f:Fl)(A:Option Addr)(c:Nat)(l:List Ded)(w:World)(h:f.ok w)(hf:bP f.bl=0)(hd:∀d∈l,eB f.bl.length d=0)(hl:ES w A l):
  Calls Tryz.prog 77 #[f.v,.slice A l.length c] w fun e w'=>Below w.heap.size w w'/\∃(m:Option Addr)(g:Nat),e=.returned (.agg #[.slice m f.bl.length g])/\f.bl.length<=g/\dA w' w.heap.size (.slice m f.bl.length g) (bT f.bl l):=by
 have a2:=(fP.1 hf).1
 obtain⟨x,C⟩:=Nm (w.alloc (.cells #[.slice f.a f.bl.length f.c] 29))
 obtain⟨f0,N,S⟩:=Ui C
 obtain⟨Z,B⟩:=Nm (x.alloc (.cells #[.slice none 0 0] 29))
 obtain⟨_,hR,M,I⟩:=jG B
 have k0:=(I.cell (p:=⟨w.heap.size,0,none⟩) (by simp;omega)).trans f0
 have s:=Hp (S.trans (I.mono (by omega)))
 have cC:=Hp (Co f.a f.bl f.c Z (h.row.below s.out).row (by omega) (by omega))
 have a9:=Hp N
 have O:=C.symm
 have c0:=B.symm
 have HR:=Hp hR
 have a8:=Hp M
 have HF:=Hp hf
 have HD:=Hp hd
 have Y:=Hp hl.row
 have Q:=hl.len
 unfold big at Q
 obtain⟨n,hn⟩:=Nm f.bl.length
 unfold Fl.v
 rw[<-hn]at cC k0 O a2 HD ⊢
 have HN:=Hp hn
 clear C B S I f0 hR M hf hd hl h hn N
 go_enter Tryz.func77,Tryz.ntmps77
 go_wp2_with (
  go_at_call 149
  refine(cC.out).mono ?_
  rintro e u ⟨o,A3,c3,rfl,a4,ho⟩
  obtain⟨w4,z⟩:=Nm (u.alloc (.cells #[.slice A3 n c3] 29))
  obtain⟨_,T,a1,H⟩:=jG z
  have b9:=z.symm
  have b7:=Hp (o.trans (H.mono o.size))
  have b5:=Hp (ho.below H (GZ3 _))
  have b1:=Hp T
  have U:=Hp o.size
  clear z a1 o H T ho)
 go_loopw [14] (fun i wr=>∃(j:Nat)(m:Option Addr)(g:Nat),j<=l.length/\i=.int .i64 j/\wr.heap[u.heap.size]? =some (.cells #[.slice m n g] 29 (0,0))/\n<=g/\dA wr Z.heap.size (.slice m n g) (bT f.bl (l.take j))/\Below Z.heap.size Z wr) (fun i _=>l.length -(intOf i).toNat)
 case atStart=>exact⟨0,A3,c3,by omega,rfl,b1.out,a4,b5.out,b7.out⟩
 case round=>
  obtain⟨j,m,g,hj,rfl,J,a5,hO,t⟩:=hrel
  have y0:=cell_of_heap J 0
  have yf:=aQ J 0
  simp only[GZ2,GZ0]at y0
  have HY:=Hp J
  have HO:=Hp hO
  have HB:=Hp t
  have HX:=Hp (s.trans (t.mono s.size))
  by_cases b:j<l.length
  ·have c1:(j:Int)<l.length:=by omega
   obtain⟨ad,rfl,c4,h0,h1,h2⟩:=QW Y.out HX.out j b
   obtain⟨w5,y⟩:=Nm (wr.alloc (.cells #[.int .i64 (l[j]'b).kind,.int .i64 (l[j]'b).at_,.int .i64 (l[j]'b).value] 60))
   obtain⟨d0,d1,d2,a0,k⟩:=uE y
   have K:u.heap.size<wr.heap.size:=(ZL J)
   have y5:=(k.cell (p:=⟨u.heap.size,0,none⟩) K).trans y0
   have R:∀d∈l.take j,eB f.bl.length d=0:=fun d hd=>by rw[<-HN.out];exact HD.out d (List.mem_of_mem_take hd)
   obtain⟨E,D⟩:=qQ HF.out R
   have b4:=Hp (hO.below k (GZ3 _))
   have cT:=Hp (J7 m g (bT f.bl (l.take j)) (l[j]'b).kind (l[j]'b).at_ (l[j]'b).value 150 #[] (fun _=>255) w5 (fun _ _=>by kernel_rfl) (b4.texts E) E (by rw[D,<-HN.out];exact HD.out _ (GZ9 b))
    (fun i W _ _=>by rw[Array.append_empty];exact MG i W) (fun _=>by omega))
   rw[D,<-HN.out]at cT
   have HT:=Hp (Jq (f:=f.bl) b)
   obtain⟨G,hG⟩:=Nm (bT f.bl (l.take (j+1)))
   have HG:=Hp hG
   change Hid (Calls _ _ _ _ fun e w'=>_/\∃m g,_/\_/\dA w' _ _ (fB (bT f.bl (l.take j)) l[j] (fun _=>255)))at cT
   rw[<-HT.out,<-hG]at cT
   have b8:=y.symm
   have b0:=Hp ((k.block _ K).trans J)
   have L:=Hp (t.trans (k.mono t.size))
   have b2:=Hp (show u.heap.size<w5.heap.size by omega)
   have c5:=Hp t.size
   clear y J hO t K k R E D hG a0
   go_wp2_with (
    go_at_call 98
    refine(cT.out).mono ?_
    rintro e w6 ⟨F,A6,c6,rfl,a3,P⟩
    have q:=(F.block _ b2.out).trans b0.out
    have y6:=cell_of_heap q 0
    have c2:=aQ q 0
    simp only[GZ2,GZ0]at y6
    have V:=Hp q
    have b3:=Hp P
    have b6:=Hp (L.trans (F.mono L.size))
    have a7:=Hp L.size
    clear q P F)
   go_roundw
   case rel=>
    refine⟨j+1,A6,c6,by omega,by go_num,?_,a3,?_,?_⟩
    ·exact heap_setCell_same w6 u.heap.size 0 _ _ (.slice A6 n c6) V.out
    ·rw[<-HG.out]
     exact(b3.eT V.out (by decide) 0 _).more a7.out
    ·exact b6.setCell (p:=⟨u.heap.size,0,none⟩) U.out _
   case measure=>(simp[intOf];try omega)
  ·have HE:=Hp (show bT f.bl (l.take j)=bT f.bl l by rw[List.take_of_length_le (by omega)])
   have r:wr.heap[x.heap.size]? =some (.cells #[.slice none 0 0] 29 (0,0)):=(t.block _ (by have:=a8.out;omega)).trans HR.out
   have v0:=cell_of_heap r 0
   have vf:=aQ r 0
   simp only[GZ2,GZ0]at v0
   have X:=Hp r
   clear J hO t r
   go_wp2_with fail
   have a6:(wr.setCell ⟨x.heap.size,0,none⟩ (.slice m n g)).heap[x.heap.size]? =some (.cells #[.slice m n g] 29 (0,0)):=
    heap_setCell_same wr x.heap.size 0 _ _ (.slice m n g) X.out
   refine bodyPost_ret (results_cell_row rfl _ _ x.heap.size 29 _ (0,0) _ rfl a6 Tryz.underlying29 rfl Tryz.jI) rfl ?_
   refine⟨HX.setCell (p:=⟨x.heap.size,0,none⟩) (by have:=a9.out;simp;omega) _,_,_,rfl,a5,?_⟩
   rw[<-HE.out]
   exact(HO.eT X.out (by decide) 0 _).more s.size
end
section
open Go.RowKit
def Bu (e:Int)(l:List ByteArray):List ByteArray:=if e=0 then l else[]
theorem SK {e:Int}{l:List ByteArray}(h:e=0):Bu e l=l:=if_pos h
theorem AQ {e:Int}{l:List ByteArray}(h:e≠0):Bu e l=[]:=if_neg h
theorem AY (w:World)(b:Nat):dA w b (.slice F5.a F5.bl.length F5.c) F5.bl:=dA.nil w b
theorem EL {d:Func}{p u:Tmp}(h:d.results=#[.cell p 29,.tmp u]){a:Array Value}{W:World}{R:Nat}{v old:Value}{Q:Ending->World->Prop}
  (f:a.getD p undef=.pointer (some ⟨R,0,none⟩)) (g:W.heap[R]? =some (.cells #[old] 29 (0,0)))
  (i:Q (.returned (.tuple #[.agg #[v],a.getD u undef])) (W.setCell ⟨R,0,none⟩ v)):bodyPost Tryz.prog d Q .ret ⟨a,[]⟩ (W.setCell ⟨R,0,none⟩ v):=by
 have c:(W.setCell ⟨R,0,none⟩ v).heap[R]? =some (.cells #[v] 29 (0,0)):=heap_setCell_same W R 0 _ _ v g
 have b:a[p]?.getD undef=.pointer (some ⟨R,0,none⟩):=by simpa using f
 have e:(results d a).run Tryz.prog (W.setCell ⟨R,0,none⟩ v)=.ok (.tuple #[.agg #[v],a.getD u undef]) (W.setCell ⟨R,0,none⟩ v):=by
  simp[results,h,b,asAddr,run_loadVar_row _ R 29 29 #[v] (0,0) _ c Tryz.underlying29 rfl Tryz.jI]
 exact bodyPost_ret e rfl i
end
section
open Go.RowKit
theorem dA.Qb {w:World}{g:Nat}{cs:List Value}{l:List ByteArray}{n:Nat}{a:Nat}(h:w.heap[g]? =some (.cells cs.toArray 9 (0,0)))(b:cs=l.map Value.string)(c:n=l.length)(e:l.length<=1000000)(d:a<=g):dA w a (.slice (some ⟨g,0,none⟩) n n) l:=by
 subst b c
 refine⟨by simp,.inr ⟨g,l.length,(l.map Value.string).toArray,rfl,d,h,GZ3 _,by simp only[maxLen];omega,by simp,?_⟩⟩
 simp[List.take_of_length_le]
theorem J6 (s:ByteArray)(c:Nat)(T:1<=c)(S:c<=32)(A:Addr)(x:Nat)(w:World)(O:w.cell? A=some (.string s)):
  Calls Tryz.prog 147 #[.slice (some A) 1 x,.int .i64 c] w fun e M=>Below w.heap.size w M/\∃A':Option Addr,e=.returned (.slice A' c c)/\dA M w.heap.size (.slice A' c c) (List.replicate c s):=by
 have n:=run_make_row' (P:=Tryz.prog) 27 9 (.string ⟨#[]⟩) 16 Tryz.underlying27 Tryz.zQ rfl .i64 .i64 c (by omega) (by omega)
 rw[Hu s c]at n
 have cM:=Hp (fun W=>Om c S W)
 have q1:IntKind.u64.wrap (c:Int)=c:=IntWalk.u64_in _ (by omega)
 have q2:IntKind.i64.wrap (c:Int)=c:=IntWalk.i64_in _ (by omega)
 have t1:¬((c:Int)<0):=by omega
 have t2:¬((9223372036854775807:Int)<c):=by omega
 obtain⟨K,a⟩:=Nm (w.alloc (.cells (filled s c 0).toArray 9))
 have o:K.heap[w.heap.size]? =some (.cells (filled s c 0).toArray 9 (0,0)):=by rw[a];exact heap_alloc_new _ _
 have g:Below w.heap.size w K:=by rw[a];exact ZB
 have l:=(g.cell (p:=A) (oG O)).trans O
 have h:=a.symm
 have B:=Hp o
 have a2:=Hp g
 have y:=Hp l
 have HZ:(Tryz.prog.info? 9).map (·.size)=some 1:=by kernel_rfl
 clear a o g O l
 go_enter Tryz.func147,Tryz.ntmps147
 have F:=Hp (show[Value.string s].length=Nat.min 1 c from(Nat.min_eq_left T).symm)
 have E:=Hp (show∀(j:Nat)v,[Value.string s][j]? =some v->K.cell? (A.add j)=some v from
  fun j v d=>by
   cases j with
   |zero=>rw[add_zero_,y.out];simpa using d
   |succ j=>simp at d)
 have D:=Hp (show 0+[Value.string s].length<=(filled s c 0).length from by rw[tV (Nat.zero_le _)];simpa using T)
 have C:=Hp (show∀v∈[Value.string s],v.oneCell'=true from by intro v G;simp at G;subst G;rfl)
 go_upto_region 9 with(first
  |(go_at_call 211;refine(cM.out _).mono ?_;rintro e M ⟨rfl,rfl⟩)
  |(refine wpList_copy_splice rfl (.tmp 31) (.tmp 32) 27 27 rfl 9 Tryz.underlying27 HZ (some ⟨w.heap.size,0,none⟩) (some A) c c 1 x rfl rfl w.heap.size 0 (filled s c 0) 9 B.out [.string s] F.out (fun _=>⟨rfl,A,rfl,E.out⟩) D.out C.out w.heap.size w a2.out (GZ3 _) ?_
    intro w2 z t
    have u:w2.heap[w.heap.size]? =some (.cells (filled s c 1).toArray 9 (0,0)):=by have:=z.out;rwa [show[Value.string s]=List.replicate 1 (.string s) from rfl,sV s c 0 1 (by omega)]at this
    have Y:=Hp u
    have a1:=Hp t
    clear z u t))
 clear F E D C n B y h
 go_loopw [8] (fun i wr=>∃k:Nat,1<=k/\k<=c/\i=.int .i64 k/\wr.heap[w.heap.size]? =some (.cells (filled s c k).toArray 9 (0,0))/\Below w.heap.size w wr) (fun i _=>c -(intOf i).toNat)
 case atStart=>exact⟨1,GZ3 _,T,rfl,Y.out,a1.out⟩
 case round=>
  obtain⟨k,R,Q,rfl,q,I⟩:=hrel
  have HG:=Hp q
  have HB:=Hp I
  by_cases a8:k<c
  ·have a4:(k:Int)<c:=by omega
   have a5:¬(k=c):=by omega
   have a3:¬(c=k):=by omega
   obtain⟨m,H⟩:=Nm (Nat.min k (c -k))
   have b:k+m<=c:=by have:Nat.min k (c -k)<=c -k:=Nat.min_le_right _ _;omega
   have a7:1<=m:=by rw[H];exact Nat.le_min.2 ⟨R,by omega⟩
   have a6:m<=k:=by rw[H];exact Nat.min_le_left _ _
   have F:=Hp (show(List.replicate m (Value.string s)).length=Nat.min k (c -k) by rw[List.length_replicate,H])
   have E:=Hp (show∀(j:Nat)v,(List.replicate m (Value.string s))[j]? =some v->wr.drew.cell? ((⟨w.heap.size,0,none⟩:Addr).add j)=some v from fun j v d=>by
    rw[List.getElem?_replicate]at d
    split at d
    ·next a9=>
     have e:(⟨w.heap.size,0,none⟩:Addr).add j=⟨w.heap.size,j,none⟩:=by unfold Addr.add;split<;>simp_all
     have hc:=cell_of_heap (show wr.drew.heap[w.heap.size]? =_ from q) j
     rw[e,hc,<-d]
     simp only[GZ2]
     exact Ie s c k j (by omega)
    ·cases d)
   have D:=Hp (show k+(List.replicate m (Value.string s)).length<=(filled s c k).length by rw[tV Q,List.length_replicate];exact b)
   have C:=Hp (show∀v∈List.replicate m (Value.string s),v.oneCell'=true from by intro v G;rw[List.eq_of_mem_replicate G];rfl)
   have V:=Hp (show wr.drew.heap[w.heap.size]? =some (.cells (filled s c k).toArray 9 (0,0)) from q)
   have Z:=Hp (show Below w.heap.size w wr.drew from below_drewN I 1)
   obtain⟨L,J⟩:=Nm (List.replicate m (Value.string s))
   have b0:L.length=m:=by rw[J];simp
   have U:=Hp (show splice (filled s c k) k L=filled s c (k+m) by rw[J];exact sV s c k m b)
   rw[<-J]at F E D C
   clear q I H J
   go_upto_region 9 with fail
   go_region_law (refine step_copy_splice rfl (.tmp 41) (.tmp 44) 27 27 rfl 9 Tryz.underlying27 HZ (some ⟨w.heap.size,k,none⟩) (some ⟨w.heap.size,0,none⟩) (c -k) (c -k) k c (by simp[Act.eval,Act.put]) (by simp[Act.eval,Act.put]) w.heap.size k (filled s c k) 9 V.out L F.out (fun _=>⟨rfl,_,rfl,E.out⟩) D.out C.out w.heap.size w Z.out (GZ3 _) ?_;intro w4 f r)
   have N:IntKind.i64.wrap ((k:Int)+(m:Int))=((k+m:Nat):Int):=by rw[IntWalk.i64_in _ (by omega)];omega
   rw[U.out]at f
   have X:=Hp f.out
   have a0:=Hp r
   clear f r
   go_simp
   go_wp2_with fail
   go_roundw
   case rel=>exact⟨k+m,by omega,b,by first|rfl|(rw[N])|(simp only[N])|(simp[N]),X.out,a0.out⟩
   case measure=>(simp[intOf];try omega)
  ·obtain rfl:k=c:=by omega
   clear q I
   go_wp2_with fail
   go_ret
   refine⟨HB.out,_,rfl,?_⟩
   exact dA.Qb (cs:=filled s k k) HG.out (by simp[filled]) (by simp) (by simp;omega) (GZ3 _)
def uX (b:Int):Int:=if 1<=b/\b<=32 then 0 else 3
theorem P5 (b:Int)(w:World):
  Calls Tryz.prog 74 #[.int .i64 b] w fun e D=>Below w.heap.size w D/\∃H:Fl,e=.returned (.tuple #[H.v,.int .i64 (uX b)])/\Rt D w.heap.size H (Bu (uX b) (List.replicate b.toNat blank)):=by
 obtain⟨U,a⟩:=Nm (w.alloc (.cells #[.slice none 0 0] 29))
 obtain⟨N,t,l,f⟩:=jG a
 have F:=a.symm
 have y:=Hp t
 have i:=Hp f
 have q:=Hp l
 obtain⟨E,j⟩:=Nm (uX b)
 rw[<-j]
 unfold uX at j
 by_cases k:1<=b/\b<=32
 ·rw[if_pos k]at j
  subst j
  obtain⟨c,rfl⟩:∃c:Nat,b=c:=⟨b.toNat,by omega⟩
  obtain⟨M,L⟩:=k
  have P:1<=c:=by omega
  have x:c<=32:=by omega
  obtain⟨B,G⟩:=Nm blank
  have I:=Hp (fun W=>Lc W)
  rw[<-G]at I ⊢
  have O:=Hp (fun A u W h=>J6 B c P x A u W h)
  have R:=Hp x
  clear a t f N G M L x l
  go_enter Tryz.func74,Tryz.ntmps74
  go_wp2_with (first
   |(go_at_call 148;refine(I.out _).mono ?_;rintro e K ⟨rfl,o⟩
     have g:=Hp o
     clear o)
   |(go_at_call 147;refine(O.out _ _ _ (by rw[World.cell?_alloc_new];rfl)).mono ?_;rintro e T ⟨n,C,rfl,m⟩
     have s:=Hp (g.trans (((GZ4 _ K).alloc (GZ3 _) (.cells #[.string B] 9)).trans (n.mono (by simp)) |>.mono g.size))
     have d:=(s.block _ (by have:=q.out;omega)).trans y.out
     have J:=cell_of_heap d 0
     have S:=aQ d 0
     simp only[GZ2,GZ0]at J
     have r:=Hp d
     have z:=Hp (m.more (show w.heap.size<=_ by have:=g.size;have:=q.out;simp;omega))
     clear d m n))
  all_goals first
   |(refine EL rfl rfl r.out ?_
     refine⟨(i.trans (s.mono i.size)).setCell (p:=⟨w.heap.size,0,none⟩) (GZ3 _) _,⟨List.replicate c B,C,c⟩,?_,?_,?_,?_⟩
     ·show _=Ending.returned (.tuple #[.agg #[.slice C (List.replicate c B).length c],_]);rw[List.length_replicate];rfl
     ·show dA _ _ (.slice C (List.replicate c B).length c) _
      rw[List.length_replicate]
      exact z.eT r.out (by decide) 0 _
     ·show(List.replicate c B).length<=c
      rw[List.length_replicate];exact GZ3 _
     ·rw[SK rfl];rfl)
   |exact absurd R.out (by simp at*;omega)
 ·rw[if_neg k]at j
  subst j
  have Q:=Hp k
  clear k a f t
  have V:=aQ y.out 0
  go_enter Tryz.func74,Tryz.ntmps74
  go_wp2_with fail
  all_goals first
   |(refine EL rfl rfl y.out ?_;exact⟨i.setCell (p:=⟨w.heap.size,0,none⟩) (GZ3 _) _,F5,rfl,AY _ _,GZ3 _,(AQ (by decide)).symm⟩)
   |exact absurd Q.out (by simp at*;omega)
end
section
open Go.RowKit
def BK (w:World)(S:List UInt8)(e:Ending)(a:World):Prop:=
 Below w.heap.size w a/\(match Re S with
  |none=>e=.returned (.tuple #[.pointer none,.bool false])
  |some p=>∃B,w.heap.size<=B/\e=.returned (.tuple #[.pointer (some ⟨B,0,none⟩),.bool true])/\JSt a B (ofBytes S) p.1 p.2.1 p.2.2)
def N7 (B L:Nat)(w:World):Nat:=match w.cell? ⟨B,1,none⟩with|some (.int _ n)=>L -n.toNat|_=>0
theorem Bj {B L i:Nat}{w:World}(h:w.cell? ⟨B,1,none⟩=some (.int .i64 i)):N7 B L w=L -i:=by
 unfold N7;rw[h];simp
theorem AL {S E:List UInt8}{R:List ByteArray}{e:Nat}{p:List ByteArray×Nat}(h:eU S E R e=some p)(a:e<=S.length):p.2<=S.length/\p.1.length<=R.length+1:=by
 unfold eU at h
 split at h
 ·injection h with h;subst h;exact⟨a,Nat.le_succ _⟩
 ·split at h
  ·cases h
  ·next b=>
   injection h with h;subst h
   exact⟨by simp only;omega,by simp⟩
theorem GJ {w:World}{B:Nat}{S:ByteArray}{i:Nat}{R:List ByteArray}{e:Nat}(h:JSt w B S i R e):JSt (w.setCell ⟨B,1,none⟩ (.int .i64 ((i:Int)+1))) B S (i+1) R e:=by
 obtain⟨A,c,a,b⟩:=h
 rw[show(i:Int)+1=((i+1:Nat):Int) by omega]
 exact⟨A,c,heap_setCell_same w B 1 _ _ _ a,b.eT a (by decide) 1 _⟩
theorem Pf {w:World}{B:Nat}{S:ByteArray}{i:Nat}{R:List ByteArray}{e:Nat}(h:JSt w B S i R e)(b:Nat):JSt (w.setCell ⟨B,3,none⟩ (.int .i64 (b:Int))) B S i R b:=by
 obtain⟨A,c,a,d⟩:=h
 exact⟨A,c,heap_setCell_same w B 3 _ _ _ a,d.eT a (by decide) 3 _⟩
theorem Gu (f:Fl)(w:World)(h:f.ok w)(hf:bP f.bl=0):Calls Tryz.prog 96 #[f.v] w (BK w (flat f.bl)):=by
 obtain⟨w1,X⟩:=Nm (w.alloc (.cells #[.slice f.a f.bl.length f.c] 29))
 obtain⟨f0,d5,Z⟩:=Ui X
 have d4:=X.symm
 have c4:=Hp Z
 have cA:=Hp (LB f w1 (h.below Z) hf)
 have a0:=fG hf
 have c7:=(fP.1 hf).1
 obtain⟨g,b1⟩:=Nm (flat f.bl)
 rw[<-b1]at cA a0 ⊢
 obtain⟨S,hS⟩:=Nm (ofBytes g)
 have a9:S.size=g.length:=by rw[hS,gJ]
 have b0:bytesOf S=g:=by rw[hS,iZ]
 rw[<-hS]at cA
 have HS:=Hp hS
 have T:=Hp b0
 obtain⟨L,hL⟩:=Nm g.length
 rw[<-hL]at a0 a9
 have HL:=Hp hL
 have b5:=Hp a9
 have d8:L<=4096:=by omega
 unfold Fl.v
 clear X Z h hf b1 hS b0 hL a0 c7
 go_enter Tryz.func96,Tryz.ntmps96
 go_wp2_with (
  go_at_call 167
  refine(cA.out).mono ?_
  rintro e j ⟨rfl,a7⟩
  obtain⟨V,K⟩:=Nm (j.alloc (.cells #[.string S,.int .i64 0,.slice none 0 0,.int .i64 0] 154))
  have d3:=K.symm
  have b3:JSt V j.heap.size S 0 [] 0:=⟨none,0,K▸heap_alloc_new _ _,dA.nil _ _⟩
  have a6:Below j.heap.size j V:=K▸ZB
  have c1:=Hp b3
  have I:=Hp (c4.trans (a7.mono c4.size))
  have c2:=Hp (I.trans (a6.mono I.size))
  clear K b3 a7 a6)
 go_loopw [3] (fun p wr=>p=.bool false/\∃(i:Nat)(R:List ByteArray)(e:Nat),JSt wr j.heap.size S i R e/\Below j.heap.size V wr/\fV g (L+1 -i) i R e=fV g (L+1) 0 [] 0/\5*i<=L/\e<=L/\R.length<=i) (fun _ wr=>N7 j.heap.size L wr)
 case atStart=>exact⟨rfl,0,[],0,c1.out,GZ4 _ _,rfl,by omega,by omega,GZ3 _⟩
 case round=>
  obtain⟨rfl,i,R,e,C,hb,d,h5,a5,d7⟩:=hrel
  have HJ:=Hp C
  obtain⟨A,c,C,hO⟩:=C
  have s0:=cell_of_heap C 0
  have s1:=cell_of_heap C 1
  have s2:=cell_of_heap C 2
  have s3:=cell_of_heap C 3
  have f1:=aQ C 1
  have f3:=aQ C 3
  simp only[GZ2,GZ0,GZ1]at s0 s1 s2 s3
  have c8:=Hp d
  have HB:=Hp hb
  have c9:=Hp C
  have HO:=Hp hO
  have b8:=Hp (Bj (L:=L) s1)
  have J:=Hp (fun n(h:5*(i+1)<=S.size)=>Dy j.heap.size S i (wr.drewN n) s0 h (by rw[b5.out];omega))
  rw[T.out]at J
  have v1:IntKind.i64.wrap ((i:Int)+1)=(i:Int)+1:=IntWalk.i64_in _ (by omega)
  have v2:IntKind.i64.wrap (5*((i:Int)+1))=5*((i:Int)+1):=IntWalk.i64_in _ (by omega)
  have a8:S.size=L:=b5.out
  have cB:=Hp (fun b n(h:b=(((iG (RV g i):Nat):Int)==0))=>Jp (ofBytes (RV g i)) b (wr.drewN n) (by rw[gJ];unfold RV;rw[GY6];unfold big;omega) (by rw[iZ];exact h))
  rw[a8]at J
  clear C hO hb d
  go_upto_region 2 with fail
  go_cut [31] from 10 to 31 (fun c wx=>c=.bool (decide (lV g i))/\wx.heap=wr.heap/\Below wr.heap.size wr wx)
  case first=>
   by_cases r:5*(i+1)<=L
   ·have t1:decide (5*((i:Int)+1)<=(L:Int))=true:=decide_eq_true (by omega)
    obtain⟨b,O⟩:∃b,b=(((iG (RV g i):Nat):Int)==0):=⟨_,rfl⟩
    have HG:=Hp (show decide (lV g i)=!b by
     by_cases M:iG (RV g i)=0
     ·rw[O,M];exact GY7 (fun h=>h.2 M)
     ·rw[decide_eq_true (show lV g i from⟨by rw[<-HL.out];exact r,M⟩),O];simp[M])
    have d0:=Hp O
    have HN:=Hp (fun n=>(show Below wr.heap.size wr (wr.drewN n) from below_drewN (GZ4 _ _) n))
    clear O
    go_quiet ((first|(go_at_call 171;exact Calls.quiet_of_same (J.out _ r))|(go_at_call 170;exact Calls.quiet_of_same (cB.out b _ d0.out))))
    go_wp2_with fail
    go_meet
    exact⟨by rw[HG.out],rfl,HN.out _⟩
   ·have t1:decide (5*((i:Int)+1)<=(L:Int))=false:=GY7 (by omega)
    have HG:=Hp (show decide (lV g i)=false from GY7 (fun h=>r (by rw[HL.out];exact h.1)))
    have HN:=Hp (fun n=>(show Below wr.heap.size wr (wr.drewN n) from below_drewN (GZ4 _ _) n))
    go_quiet (fail)
    go_wp2_with fail
    go_meet
    exact⟨by rw[HG.out],rfl,HN.out _⟩
  case rest=>
   obtain⟨rfl,hh,Y⟩:=hcut
   obtain⟨B,rfl⟩:=Nm wc
   have x:=Hp (show B.heap[j.heap.size]? =some (.cells #[.string S,.int .i64 i,.slice A R.length c,.int .i64 e] 154 (0,0)) by rw[hh];exact c9.out)
   have b7:=Hp (show dA B (j.heap.size+1) (.slice A R.length c) R from HO.below Y (GZ3 _))
   have U:=Hp (show JSt B j.heap.size S i R e from⟨A,c,x.out,b7.out⟩)
   have t0:=cell_of_heap x.out 0
   have t1:=cell_of_heap x.out 1
   have t3:=cell_of_heap x.out 3
   have g1:=aQ x.out 1
   have g3:=aQ x.out 3
   simp only[GZ2,GZ0,GZ1]at t0 t1 t3
   have d9:j.heap.size<V.heap.size:=(ZL (show V.heap[j.heap.size]? =_ from c1.choose_spec.choose_spec.1))
   have z:=Hp (HB.trans (Y.mono (by have:=HB.size;omega)))
   have HX:=Hp (show L+1 -i=(L -i)+1 by omega)
   have F:=c8.out
   rw[HX.out,fQ]at F
   have q:=Hp F
   clear hh Y s0 s1 s2 s3 f1 f3 J cB F v1 v2
   by_cases s:lV g i
   ·rw[decide_eq_true s]
    have d:=q.out
    rw[if_pos s]at d
    have r:5*(i+1)<=L:=by rw[HL.out];exact s.1
    obtain⟨E,hE⟩:=Nm (RV g i)
    have b4:E.length=5:=by rw[hE];exact TS s.1
    have J:=Hp (Dy j.heap.size S i B t0 (by omega) (by omega))
    rw[T.out,<-hE]at J
    rw[<-hE]at d
    obtain⟨EB,P⟩:=Nm (ofBytes E)
    have o:EB.size=5:=by rw[P,gJ,b4]
    have k:bytesOf EB=E:=by rw[P,iZ]
    rw[<-P]at J
    have N:i<L:=by omega
    have d6:(i:Int)<=4096:=by omega
    have b9:=Hp N
    clear s hE P b4
    by_cases h4:E.getD 4 0≠0
    ·have l:eU g E R e=some (R,e):=by unfold eU;rw[if_pos h4]
     rw[l]at d
     change fV g (L -i) (i+1) R e=_ at d
     have a3:=Hp (show fV g (L+1 -(i+1)) (i+1) R e=fV g (L+1) 0 [] 0 by rw[show L+1 -(i+1)=L -i by omega];exact d)
     have cR:=Hp (fun W=>LV j.heap.size EB W o (by rw[k];exact h4))
     have G:=Hp (GJ U)
     have a2:=Hp r
     clear h4 l d k o q r N
     go_wp2_with (first|(go_at_call 171;refine(J.out).mono ?_;rintro e w' ⟨rfl,rfl⟩)|(go_at_call 172;refine(cR.out _).mono ?_;rintro e w' ⟨rfl,rfl⟩))
     go_roundw
     case rel=>exact⟨rfl,i+1,R,e,G.out,z.setCell (p:=⟨j.heap.size,1,none⟩) (GZ3 _) _,a3.out,a2.out,a5,by omega⟩
     case measure=>
      rw[b8.out]
      obtain⟨A',c',a1,_⟩:=G.out
      have:=cell_of_heap a1 1
      simp only[GZ2,GZ0,GZ1]at this
      rw[Bj (i:=i+1) this]
      have:=b9.out
      omega
    ·have Q:E.getD 4 0=0:=by
      by_cases h:E.getD 4 0=0
      ·exact h
      ·exact absurd h h4
     cases l:eU g E R e with
     |none=>
      rw[l]at d
      have a4:=Hp (show Re g=none by
       unfold Re
       rw[<-HL.out,<-d])
      have cR:=Hp (Mw j.heap.size S EB i A c R e B o (by omega) x.out (by rw[k];exact Q) (by rw[k,T.out];exact l))
      clear h4 Q l d k o q r N
      go_wp2_with (first|(go_at_call 171;refine(J.out).mono ?_;rintro e w' ⟨rfl,rfl⟩)|(go_at_call 172;refine(cR.out).mono ?_;rintro e c6 ⟨rfl,y⟩))
      go_ret2
      unfold BK
      rw[a4.out]
      exact⟨c2.trans ((z.trans (y.mono (by have:=z.size;omega))).mono I.size),rfl⟩
     |some p=>
      rw[l]at d
      change fV g (L -i) (i+1) p.1 p.2=_ at d
      have a3:=Hp (show fV g (L+1 -(i+1)) (i+1) p.1 p.2=fV g (L+1) 0 [] 0 by rw[show L+1 -(i+1)=L -i by omega];exact d)
      have b6:=Hp (AL l (by rw[<-HL.out];exact a5))
      have cR:=Hp (Oo j.heap.size S EB i R e B o (by omega) (by omega) (by omega) U.out (by rw[k];exact Q) p (by rw[k,T.out];exact l))
      have a2:=Hp r
      clear h4 Q l d k o q r N
      go_wp2_with (first
       |(go_at_call 171;refine(J.out).mono ?_;rintro e w' ⟨rfl,rfl⟩)
       |(go_at_call 172;refine(cR.out).mono ?_;rintro e c6 ⟨rfl,y,m⟩
         have G:=Hp (GJ m)
         obtain⟨e1,e0,m,b2⟩:=m
         have u1:=cell_of_heap m 1
         have uf:=aQ m 1
         simp only[GZ2,GZ0,GZ1]at u1
         have c3:=Hp (z.trans y)
         clear m b2 y))
      go_roundw
      case rel=>exact⟨rfl,i+1,p.1,p.2,G.out,c3.setCell (p:=⟨j.heap.size,1,none⟩) (GZ3 _) _,a3.out,a2.out,by have:=b6.out.1;rw[<-HL.out]at this;exact this,by have:=b6.out.2;omega⟩
      case measure=>
       rw[b8.out]
       obtain⟨A',c',a1,_⟩:=G.out
       have:=cell_of_heap a1 1
       simp only[GZ2,GZ0,GZ1]at this
       rw[Bj (i:=i+1) this]
       have:=b9.out
       omega
   ·rw[GY7 s]
    have d:=q.out
    rw[if_neg s]at d
    have a4:=Hp (show Re g=some (i,R,max e (iG (g.take (L -5*i)))) by
     unfold Re
     rw[<-HL.out,<-d])
    obtain⟨t,ht⟩:=Nm (L -5*i)
    have HT:=Hp ht
    have q1:IntKind.i64.wrap (5*(i:Int))=5*(i:Int):=IntWalk.i64_in _ (by omega)
    have q2:IntKind.i64.wrap ((L:Int) -5*(i:Int))=(t:Int):=by rw[IntWalk.i64_in _ (by omega)];omega
    have q3:(0:Int)<=(t:Int):=by omega
    have q4:(t:Int)<=(L:Int):=by omega
    obtain⟨D,hD⟩:=Nm (ofBytes (g.take t))
    have hx:S.extract 0 t=D:=by
     have:=uK g 0 t
     rw[Nat.zero_add,List.drop_zero,<-hD]at this
     rw[<-this,HS.out]
    have cU:=Hp (fun W=>Ha D W (by rw[hD,gJ,GY6];unfold big;omega))
    rw[hD,iZ]at cU
    rw[<-hD]at cU
    obtain⟨u,M⟩:=Nm (iG (g.take t))
    rw[<-M]at cU
    have H:=a4.out
    rw[<-ht,<-M]at H
    have c0:=Hp H
    have HU:=Hp (show u<=L by rw[M];exact GY1 (xK _ _) (by rw[GY6];omega))
    clear s d H M hD ht q
    go_upto_region 6 with fail
    go_quiet (fail)
    go_upto_region 7 with fail
    have d1:=Hp (show JSt (B.drewN nq) j.heap.size S i R e from U.out)
    have d2:=Hp (show Below j.heap.size V (B.drewN nq) from below_drewN z.out nq)
    have y3:(B.drewN nq).cell? ⟨j.heap.size,3,none⟩=some (.int .i64 e):=t3
    have yf:(B.drewN nq).frozen? ⟨j.heap.size,3,none⟩=false:=g3
    clear t0 t1 t3 g1 g3 x b7 U z
    generalize B.drewN nq=wA at*
    have c5:=Hp (show JSt (wA.setCell ⟨j.heap.size,3,none⟩ (.int .i64 (max (e:Int) (u:Int)))).drew j.heap.size S i R (max e u)/\Below j.heap.size V (wA.setCell ⟨j.heap.size,3,none⟩ (.int .i64 (max (e:Int) (u:Int)))).drew from by
     rw[show max (e:Int) (u:Int)=((max e u:Nat):Int) by omega]
     exact⟨Pf d1.out (max e u),(d2.setCell (p:=⟨j.heap.size,3,none⟩) (GZ3 _) _).drew⟩)
    go_region_law ((go_simp;go_at_call 173;with_reducible refine(cU.out _).mono ?_;rintro e w' ⟨rfl,rfl⟩))
    all_goals(
     go_wp2_with fail
     go_ret2
     unfold BK
     rw[c0.out]
     refine⟨c2.trans (c5.out.2.mono I.size),j.heap.size,I.size,rfl,?_⟩
     rw[<-HS.out]
     exact c5.out.1)
end
section
open Go.RowKit
theorem MC {P:Program}{e src dst:TypeId}(f:P.underlying src=some (.slice e))(j:P.underlying e=some (.int .u8))(k:P.underlying dst=some .string)(W:World)(d c b a:Int):
  (convert src dst (.slice (some ⟨W.heap.size,0,none⟩) 4 4)).run P (W.alloc (.cells #[.int .u8 d,.int .u8 c,.int .u8 b,.int .u8 a] e)).drew=.ok (.string (ofBytes [UInt8.ofNat d.toNat,UInt8.ofNat c.toNat,UInt8.ofNat b.toNat,UInt8.ofNat a.toNat])) (W.alloc (.cells #[.int .u8 d,.int .u8 c,.int .u8 b,.int .u8 a] e)).drew:=
 run_convert_bytes_arg (P:=P) (W.alloc (.cells #[.int .u8 d,.int .u8 c,.int .u8 b,.int .u8 a] e)).drew src e f j W.heap.size 0 4 4 [d,c,b,a] rfl (fun i g=>by
  have h:(W.alloc (.cells #[.int .u8 d,.int .u8 c,.int .u8 b,.int .u8 a] e)).drew.heap[W.heap.size]? =some (.cells #[.int .u8 d,.int .u8 c,.int .u8 b,.int .u8 a] e (0,0)):=heap_alloc_new _ _
  rw[cell_of_heap h (0+i)]
  match i,g with
  |0,_|1,_|2,_|3,_=>rfl) dst k
theorem Dm (f:Fl)(w:World)(h:f.ok w)(g:bP f.bl=0)(d:Re (flat f.bl)=none):Calls Tryz.prog 96 #[f.v] w fun e a=>e=.returned (.tuple #[.pointer none,.bool false])/\Below w.heap.size w a:=by
 refine(Gu f w h g).mono fun e a c=>?_
 obtain⟨i,b⟩:=c
 rw[d]at b
 exact⟨b,i⟩
theorem ED (f:Fl)(w:World)(h:f.ok w)(g:bP f.bl=0)(k:Nat)(r:List ByteArray)(e:Nat)(d:Re (flat f.bl)=some (k,r,e)):Calls Tryz.prog 96 #[f.v] w fun j a=>Below w.heap.size w a/\∃B,w.heap.size<=B/\j=.returned (.tuple #[.pointer (some ⟨B,0,none⟩),.bool true])/\JSt a B (ofBytes (flat f.bl)) k r e:=by
 refine(Gu f w h g).mono fun e a c=>?_
 obtain⟨i,b⟩:=c
 rw[d]at b
 exact⟨i,b⟩
theorem GA {S:List UInt8}:∀{n i:Nat}{r:List ByteArray}{e k:Nat}{b:List ByteArray}{a:Nat},fV S n i r e=some (k,b,a)->e<=S.length->a<=S.length
 |0,i,r,e,k,b,a,h,he=>by
  simp only[fV,Option.some.injEq,Prod.mk.injEq]at h
  obtain⟨_,_,rfl⟩:=h
  exact he
 |n+1,i,r,e,k,b,a,h,he=>by
  rw[fQ]at h
  split at h
  ·cases c:eU S (RV S i) r e with
   |none=>rw[c]at h;cases h
   |some p=>rw[c]at h;exact GA (n:=n) h (AL c he).1
  ·injection h with h
   injection h with _ h2
   injection h2 with _ h3
   omega
theorem Tj.Ms {S:List UInt8}{k:Nat}{r:List ByteArray}{a e:Nat}(h:Tj S k r a e):e<=S.length:=by
 rw[h.end_]
 have c:=GA h.scan (Nat.zero_le _)
 have b:iG (S.take (S.length -5*k))<=S.length:=GY1 (xK _ _) (by rw[GY6];omega)
 omega
theorem Ky (a:Nat):jM a (bytesOf ⟨#[0]⟩)=[⟨1,(a:Int),0⟩]:=by
 show jM a [0]=_
 unfold jM
 rw[if_neg (by decide)];rfl
theorem PL (f:Fl)(s:ByteArray)(w:World)(h:f.ok w)(hf:bP f.bl=0)(h1:1<=s.size)(h8:s.size<=800):
  Calls Tryz.prog 95 #[f.v,.string s] w (vD w (TG (flat f.bl) s.size) (if TG (flat f.bl) s.size=0 then aW f.bl (bytesOf s)else[])):=by
 obtain⟨w1,C⟩:=Nm (w.alloc (.cells #[.slice f.a f.bl.length f.c] 29))
 obtain⟨f0,e3,d⟩:=Ui C
 have a0:=C.symm
 have A:=Hp d
 have y:=fG hf
 have b5:=(fP.1 hf).1
 cases O:Re (flat f.bl)with
 |none=>
  have X:=Hp (Dm f w1 (h.below d) hf O)
  have hE:TG (flat f.bl) s.size=4:=by unfold TG;rw[O]
  rw[hE,if_neg (by decide)]
  clear C d h hf O b5 y hE
  go_enter Tryz.func95,Tryz.ntmps95
  go_wp2_with (go_at_call 96;refine(X.out).mono ?_;rintro e L ⟨rfl,g⟩)
  go_ret2
  exact vD.nil (A.trans (g.mono A.size))
 |some p=>
  obtain⟨k,r,e⟩:=p
  have X:=ED f w1 (h.below d) hf k r e O
  obtain⟨e0,ho⟩:=xM O
  have D:=ho.many
  have a1:=ho.Ms
  obtain⟨EA,b⟩:=Nm (TG (flat f.bl) s.size)
  obtain⟨DA,j⟩:=Nm (aW f.bl (bytesOf s))
  rw[<-b,<-j]
  unfold TG at b
  unfold aW at j
  rw[O]at b j
  simp only at b j
  rw[y]at b D a1
  obtain⟨n,hn⟩:=Nm f.bl.length
  unfold Fl.v at X ⊢
  rw[<-hn]at b j y D b5 f0 a0 X a1 ⊢
  obtain⟨S,hS⟩:=Nm (ofBytes (flat f.bl))
  have F:S.size=128*n:=by rw[hS,gJ,y]
  rw[<-hS]at X
  have CL:=Hp X
  obtain⟨N,G⟩:∃N:Int,N=128*(n:Int) -5*((k:Int)+1):=⟨_,rfl⟩
  have b9:=Hp G
  have Y:=Hp (RB s)
  clear C d h hf O hS ho X y hn
  go_enter Tryz.func95,Tryz.ntmps95
  go_upto_region 4 with(
   go_at_call 96
   refine(CL.out).mono ?_
   rintro e' L ⟨g,B,hB,rfl,i⟩
   have e9:=Hp i
   obtain⟨A2,c2,i,c5⟩:=i
   have s0:=cell_of_heap i 0
   have s1:=cell_of_heap i 1
   have s3:=cell_of_heap i 3
   have a8:=(ZL i)
   simp only[GZ2,GZ0,GZ1]at s0 s1 s3
   have b8:=Hp (A.trans (g.mono A.size))
   have f1:=Hp (show w.heap.size<=B by have:=A.size;omega)
   have d5:=Hp (show B<L.heap.size from a8)
   clear g i c5 a8 hB)
  have v1:IntKind.i64.wrap ((k:Int)+1)=(k:Int)+1:=IntWalk.i64_in _ (by omega)
  have v2:IntKind.i64.wrap (5*((k:Int)+1))=5*((k:Int)+1):=IntWalk.i64_in _ (by omega)
  have v3:IntKind.i64.wrap (128*(n:Int) -5*((k:Int)+1))=N:=by rw[IntWalk.i64_in _ (by omega)];exact b9.symm
  have v4:(S.size:Int)=128*(n:Int):=by rw[F];omega
  go_cut [8] from 17 to 28 (fun v wx=>v=.int .i64 N/\wx.heap=L.heap/\Below L.heap.size L wx)
  case first=>
   clear G F b
   go_quiet (fail)
   have HN:=Hp (show Below L.heap.size L (L.drewN nq) from below_drewN (GZ4 _ _) nq)
   go_wp2_with fail
   go_meet
   exact⟨rfl,rfl,HN.out⟩
  case rest=>
   obtain⟨rfl,hh,o⟩:=hcut
   obtain⟨l,rfl⟩:=Nm wc
   have t3:l.cell? ⟨B,3,none⟩=some (.int .i64 e):=(World.cell?_of_block (a:=⟨B,3,none⟩) (by rw[hh])).trans s3
   have K:=Hp (b8.trans (o.mono b8.size))
   have M:B<l.heap.size:=by have:=d5.out;have:=o.size;omega
   have b4: -5<=N/\N<=4096:=by have:=b9.out;omega
   obtain⟨e8,e7⟩:=b4
   clear v1 v2 v3 v4 s0 s1 s3 hh o
   by_cases hr:128*n<e+s.size+5+5*(k+1)
   ·rw[if_pos hr]at b
    have hc:N -5<(e:Int)+s.size:=by omega
    subst b
    clear G F hr D
    go_wp2_with fail
    go_ret2
    exact vD.nil K.out
   ·rw[if_neg hr]at b
    obtain⟨q,hq⟩:=Nm (128*n -5*(k+1))
    have a9:N=(q:Int):=by omega
    subst a9
    have hc:¬((q:Int) -5<(e:Int)+s.size):=by omega
    subst b
    rw[<-hq]at j
    have e4:q<=4096:=by omega
    obtain⟨m,hm⟩:=Nm s.size
    have e6:e<=4096:=by omega
    obtain⟨w4,t⟩:=Nm (l.alloc (.cells #[.slice none 0 0] 214))
    have a4:PSt w4 l.heap.size []:=⟨none,0,t▸heap_alloc_new _ _,World.ownsRow_nil _ _ _ _⟩
    have R:Below l.heap.size l w4:=t▸ZB
    have e2:=t.symm
    have W:=VO l.heap.size e s [] w4 (by omega) (by omega) (by simp) a4
    rw[List.nil_append]at W
    have e1:=Hp W
    have t4:=(R.cell (p:=⟨B,3,none⟩) M).trans t3
    have d8:=Hp (K.trans (R.mono K.size))
    have J:=Hp (show w.heap.size<=l.heap.size from K.size)
    have c8:=Hp (show l.heap.size<w4.heap.size by rw[t];simp)
    have HQ:=Hp hq
    have e5:m<=800:=by omega
    have d3:=Hp j
    have HM:=Hp hm
    clear G F hr D t a4 R W hq j hm
    go_upto_region 9 with(
     go_at_call 169
     refine(e1.out).mono ?_
     rintro e' w5 ⟨E,a3,u,rfl⟩
     have t5:=(E.cell (p:=⟨B,3,none⟩) M).trans t4
     have d0:=Hp a3
     have d7:=Hp (d8.trans (E.mono J))
     have c6:=Hp (show l.heap.size<w5.heap.size by have:=c8.out;have:=E.size;omega)
     clear E a3)
    obtain⟨b0,T⟩:=Nm (e % 256)
    obtain⟨b1,d⟩:=Nm (e / 256 % 256)
    obtain⟨b2,g⟩:=Nm (s.size % 256)
    obtain⟨b3,o⟩:=Nm (s.size / 256 % 256)
    have c0:IntKind.u8.wrap (e:Int)=(b0:Int):=by rw[IntKind.wrap_u8',T];omega
    have c1:IntKind.u8.wrap ((e:Int) / 256)=(b1:Int):=by rw[IntKind.wrap_u8',d];omega
    have c2:IntKind.u8.wrap (s.size:Int)=(b2:Int):=by rw[IntKind.wrap_u8',g];omega
    have c3:IntKind.u8.wrap ((s.size:Int) / 256)=(b3:Int):=by rw[IntKind.wrap_u8',o];omega
    obtain⟨H,hH⟩:=Nm (ofBytes (Sw e s.size))
    have Q:=MC (P:=Tryz.prog) (src:=135) (dst:=9) Tryz.underlying135 Tryz.underlying5 Tryz.underlying9 w5 (b0:Int) (b1:Int) (b2:Int) (b3:Int)
    simp only[Int.toNat_natCast]at Q
    have a7:ofBytes [UInt8.ofNat b0,UInt8.ofNat b1,UInt8.ofNat b2,UInt8.ofNat b3]=H:=by rw[hH,T,d,g,o];rfl
    rw[a7]at Q
    have b6:=Hp (show PSt (w5.alloc (.cells #[.int .u8 (b0:Int),.int .u8 (b1:Int),.int .u8 (b2:Int),.int .u8 (b3:Int)] 5)).drew l.heap.size (jM e (bytesOf s)) from
     d0.below ((ZB).drew) (GZ3 _))
    have V:=VO l.heap.size q H (jM e (bytesOf s)) _ (by rw[hH,gJ];exact GY2 (by decide:4<5000)) (by omega) (by have:=iH e (bytesOf s);rw[Y.out]at this;omega) b6.out
    have d2:=Hp (show bytesOf H=Sw e s.size by rw[hH,iZ])
    rw[d2.out]at V
    have c4:=Hp V
    have b7:=Hp (show Below l.heap.size w5 (w5.alloc (.cells #[.int .u8 (b0:Int),.int .u8 (b1:Int),.int .u8 (b2:Int),.int .u8 (b3:Int)] 5)).drew from((GZ4 _ _).alloc (GY2 c6.out) _).drew)
    clear T d g o hH a7 V
    go_cut [8] from 48 to 70 (fun v wx=>v=.int .i64 (q:Int)/\PSt wx l.heap.size (jM e (bytesOf s)++jM q (Sw e s.size))/\Below w.heap.size w wx)
    case first=>
     go_region_law ((go_simp;go_at_call 169;with_reducible refine(c4.out).mono ?_;rintro e' w6 ⟨x,z,u6,rfl⟩;have c9:=Hp z;have Z:=Hp (d7.out.trans ((b7.out.trans x).mono J.out));clear x z))
     all_goals(
      go_wp2_with fail
      go_meet
      exact⟨rfl,c9.out,Z.out⟩)
    case rest=>
     obtain⟨rfl,z,x⟩:=hcut
     obtain⟨w6,rfl⟩:=Nm wc
     have I:=VO l.heap.size (q+4) ⟨#[0]⟩ _ w6 (by decide) (by omega) (by
      have h1:=iH e (bytesOf s)
      have h2:=iH q (Sw e s.size)
      rw[Y.out]at h1
      have:(Sw e s.size).length=4:=rfl
      rw[GZ8];omega) z
     rw[Ky,show((q+4:Nat):Int)=(q:Int)+5 -1 by omega]at I
     obtain⟨D7,U⟩:=Nm (jM e (bytesOf s)++jM q (Sw e s.size)++[⟨1,(q:Int)+5 -1,0⟩])
     rw[<-U]at I
     have d4:=Hp U
     have d9:=Hp I
     have Z:=Hp x
     clear U I z x Q c0 c1 c2 c3 b6 c4 b7
     go_wp2_with (
      go_at_call 169
      (with_reducible refine(d9.out).mono ?_)
      rintro e' w7 ⟨a2,⟨A7,c7,a6,a5⟩,u7,rfl⟩
      have z7:=cell_of_heap a6 0
      simp only[GZ2,GZ0]at z7
      have d1:=Hp a5
      have d6:=Hp (Z.trans (a2.mono J))
      clear a6 a5 a2)
     go_ret2
     refine⟨d6.out,A7,c7,D7,rfl,mZ.more d1.out (by have:=J.out;omega),?_⟩
     rw[d4.out,d3.out];unfold CU
     rw[Y.out,show((q+4:Nat):Int)=(q:Int)+5 -1 by omega]
end
end Go.Proofs.YtjiedaialianmaaGreat
