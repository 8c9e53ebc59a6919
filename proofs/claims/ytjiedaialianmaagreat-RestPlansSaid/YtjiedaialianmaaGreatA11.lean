import Derived.Test.YtjiedaialianmaaGreatA08
import Derived.Test.YtjiedaialianmaaGreatA09
set_option maxRecDepth 100000
set_option maxHeartbeats 8000000
namespace Go.Proofs.YtjiedaialianmaaGreat
section
open Go.RowKit Go.Lib
theorem PI (l:List Exp):∀u∈l.flatMap Exp.cells,u.oneCell'=true:=by
 intro u b
 obtain⟨x,_,a⟩:=List.mem_flatMap.1 b
 simp only[Exp.cells,List.mem_cons,List.not_mem_nil,or_false]at a
 rcases a with rfl|rfl<;>rfl
theorem U6 (A:Option Addr)(c:Nat)(l:List Exp)(w:World)(h:Row Exp.cells 2 w A l)(z:l.length<=1000000):
  Calls Tryz.prog 152 #[.slice A l.length c] w fun e o=>(∃g d,e=.returned (.slice g l.length d)/\ExpOwn o w.heap.size (.slice g l.length d) l)/\Below w.heap.size w o:=by
 have q:∀(w:World)(a:Option Addr)(n c i d:Nat),(binOp .eql 22 (.slice a n c) (.slice none i d)).run Tryz.prog w=.ok (.bool a.isNone) w:=fun w a n c i d=>Lib.run_eql_slice_nil w _ _ a n c i d Tryz.underlying22
 cases A with
 |none=>
  have u:l=[]:=by
   cases l with
   |nil=>rfl
   |cons x r=>obtain⟨a,e,_⟩:=h.2 (by simp);cases e
  subst u
  clear h
  go_enter Tryz.func152,Tryz.ntmps152
  go_wp2
  go_ret
  exact⟨⟨none,0,rfl,World.ownsRow_nil w _ _ _⟩,GZ4 _ _⟩
 |some ad=>
  obtain⟨s,t,m,k,j⟩:=info_parts Tryz.infoExp
  have H:=Hp (show Reads (w.alloc (.cells #[] 159)) (w.heap.size+1) 2 (some ad) l.length (l.flatMap Exp.cells) by
   have:=h.below ((GZ4 _ _).alloc (GZ3 _) (.cells #[] 159))
   unfold Row at this
   simpa using this)
  clear h
  go_enter Tryz.func152,Tryz.ntmps152
  go_wp2_with (at_builtin;refine eO (w.alloc (.cells #[] 159)) rfl _ _ 22 rfl w.heap.size 159 s (.agg #[.string ⟨#[]⟩,.int .i64 0]) 2 24 Tryz.underlying22 t m k j rfl (by decide) _ _ _ rfl (World.ownsRow_made w #[] 0 (GZ3 _) (Nat.zero_le _) rfl) (w.heap.size+1) (some ad) l.length c (l.flatMap Exp.cells) rfl H.out (PI l) (by unfold maxLen;omega) (by omega) (by simp) ?_;intro y v b f _)
  go_ret
  obtain⟨g,d,p⟩:=bG b
  rw[Nat.zero_add]at p
  subst p
  exact⟨⟨g,d,rfl,by unfold ExpOwn;simpa using b⟩,((GZ4 _ w).alloc (GZ3 _) _).grown f (by simp) (iW (World.ownsRow_made w #[] 0 (GZ3 _) (Nat.zero_le _) rfl (e:=159) (size:=2)))⟩
theorem PY (l:List Imp):∀u∈l.flatMap Imp.cells,u.oneCell'=true:=by
 intro u b
 obtain⟨x,_,a⟩:=List.mem_flatMap.1 b
 simp only[Imp.cells,List.mem_cons,List.not_mem_nil,or_false]at a
 rcases a with rfl|rfl|rfl|rfl<;>rfl
theorem Ea (A:Option Addr)(c:Nat)(l:List Imp)(w:World)(h:Row Imp.cells 4 w A l)(z:l.length<=1000000):
  Calls Tryz.prog 193 #[.slice A l.length c] w fun e o=>(∃g d,e=.returned (.slice g l.length d)/\ImpOwn o w.heap.size (.slice g l.length d) l)/\Below w.heap.size w o:=by
 have q:∀(w:World)(a:Option Addr)(n c i d:Nat),(binOp .eql 67 (.slice a n c) (.slice none i d)).run Tryz.prog w=.ok (.bool a.isNone) w:=fun w a n c i d=>Lib.run_eql_slice_nil w _ _ a n c i d Tryz.underlying67
 cases A with
 |none=>
  have u:l=[]:=by
   cases l with
   |nil=>rfl
   |cons x r=>obtain⟨a,e,_⟩:=h.2 (by simp);cases e
  subst u
  clear h
  go_enter Tryz.func193,Tryz.ntmps193
  go_wp2
  go_ret
  exact⟨⟨none,0,rfl,World.ownsRow_nil w _ _ _⟩,GZ4 _ _⟩
 |some ad=>
  obtain⟨s,t,m,k,j⟩:=info_parts Tryz.infoImp
  have H:=Hp (show Reads (w.alloc (.cells #[] 173)) (w.heap.size+1) 4 (some ad) l.length (l.flatMap Imp.cells) by
   have:=h.below ((GZ4 _ _).alloc (GZ3 _) (.cells #[] 173))
   unfold Row at this
   simpa using this)
  clear h
  go_enter Tryz.func193,Tryz.ntmps193
  go_wp2_with (at_builtin;refine eO (w.alloc (.cells #[] 173)) rfl _ _ 67 rfl w.heap.size 173 s (.agg #[.string ⟨#[]⟩,.string ⟨#[]⟩,.int .i64 0,.int .i64 0]) 4 48 Tryz.underlying67 t m k j rfl (by decide) _ _ _ rfl (World.ownsRow_made w #[] 0 (GZ3 _) (Nat.zero_le _) rfl) (w.heap.size+1) (some ad) l.length c (l.flatMap Imp.cells) rfl H.out (PY l) (by unfold maxLen;omega) (by omega) (by simp) ?_;intro y v b f _)
  go_ret
  obtain⟨g,d,p⟩:=bG b
  rw[Nat.zero_add]at p
  subst p
  exact⟨⟨g,d,rfl,by unfold ImpOwn;simpa using b⟩,((GZ4 _ w).alloc (GZ3 _) _).grown f (by simp) (iW (World.ownsRow_made w #[] 0 (GZ3 _) (Nat.zero_le _) rfl (e:=173) (size:=4)))⟩
theorem P6 (l:List Pat):∀u∈l.flatMap Pat.cells,u.oneCell'=true:=by
 intro u b
 obtain⟨x,_,a⟩:=List.mem_flatMap.1 b
 simp only[Pat.cells,List.mem_cons,List.not_mem_nil,or_false]at a
 rcases a with rfl|rfl|rfl|rfl<;>rfl
theorem EM (A:Option Addr)(c:Nat)(l:List Pat)(w:World)(h:Row Pat.cells 4 w A l)(z:l.length<=1000000):
  Calls Tryz.prog 194 #[.slice A l.length c] w fun e o=>(∃g d,e=.returned (.slice g l.length d)/\PatOwn o w.heap.size (.slice g l.length d) l)/\Below w.heap.size w o:=by
 have q:∀(w:World)(a:Option Addr)(n c i d:Nat),(binOp .eql 68 (.slice a n c) (.slice none i d)).run Tryz.prog w=.ok (.bool a.isNone) w:=fun w a n c i d=>Lib.run_eql_slice_nil w _ _ a n c i d Tryz.underlying68
 cases A with
 |none=>
  have u:l=[]:=by
   cases l with
   |nil=>rfl
   |cons x r=>obtain⟨a,e,_⟩:=h.2 (by simp);cases e
  subst u
  clear h
  go_enter Tryz.func194,Tryz.ntmps194
  go_wp2
  go_ret
  exact⟨⟨none,0,rfl,World.ownsRow_nil w _ _ _⟩,GZ4 _ _⟩
 |some ad=>
  obtain⟨s,t,m,k,j⟩:=info_parts Tryz.infoPat
  have H:=Hp (show Reads (w.alloc (.cells #[] 180)) (w.heap.size+1) 4 (some ad) l.length (l.flatMap Pat.cells) by
   have:=h.below ((GZ4 _ _).alloc (GZ3 _) (.cells #[] 180))
   unfold Row at this
   simpa using this)
  clear h
  go_enter Tryz.func194,Tryz.ntmps194
  go_wp2_with (at_builtin;refine eO (w.alloc (.cells #[] 180)) rfl _ _ 68 rfl w.heap.size 180 s (.agg #[.int .i64 0,.int .i64 0,.int .i64 0,.int .i64 0]) 4 32 Tryz.underlying68 t m k j rfl (by decide) _ _ _ rfl (World.ownsRow_made w #[] 0 (GZ3 _) (Nat.zero_le _) rfl) (w.heap.size+1) (some ad) l.length c (l.flatMap Pat.cells) rfl H.out (P6 l) (by unfold maxLen;omega) (by omega) (by simp) ?_;intro y v b f _)
  go_ret
  obtain⟨g,d,p⟩:=bG b
  rw[Nat.zero_add]at p
  subst p
  exact⟨⟨g,d,rfl,by unfold PatOwn;simpa using b⟩,((GZ4 _ w).alloc (GZ3 _) _).grown f (by simp) (iW (World.ownsRow_made w #[] 0 (GZ3 _) (Nat.zero_le _) rfl (e:=180) (size:=4)))⟩
end
section
open Go.RowKit Go.Lib
theorem Tryz.PG :(Tryz.prog.info? 70).map (·.size)=some 7:=by kernel_rfl
structure Mod.own (m:Mod)(w:World)(base:Nat):Prop where
 ex:ExpOwn w base (.slice m.eA m.ex.length m.eC) m.ex
 im:ImpOwn w base (.slice m.iA m.im.length m.iC) m.im
 pa:PatOwn w base (.slice m.pA m.pa.length m.pC) m.pa
section
variable {m m':Mod} {w w':World} {base base':Nat}
theorem RH {size n:Nat}{e:TypeId}{v:Value}{c:List Value}(h:w.ownsRow base e size v n c)(d:base'<=base):w.ownsRow base' e size v n c:=by
 refine⟨h.1,?_⟩
 rcases h.2 with f|⟨g,b,a,k,j,i⟩
 ·exact .inl f
 ·exact .inr ⟨g,b,a,k,GY1 d j,i⟩
theorem aO {size n:Nat}{e:TypeId}{v:Value}{a:List Value}(h:w.ownsRow base e size v n a)(b:Below w.heap.size w w'):w'.ownsRow base e size v n a:=own_same h fun g _ c=>b.block g c
theorem Mod.own.kp {ts:List TypeId}(h:m.own w base)(a:Kp ts w w')(d:159 ∉ ts)(c:173 ∉ ts)(b:180 ∉ ts):m.own w' base:=⟨own_kp h.ex a d,own_kp h.im a c,own_kp h.pa a b⟩
theorem Mod.own.below (h:m.own w base)(a:Below w.heap.size w w'):m.own w' base:=⟨aO h.ex a,aO h.im a,aO h.pa a⟩
theorem Mod.own.le (h:m.own w base)(a:base'<=base):m.own w base':=⟨RH h.ex a,RH h.im a,RH h.pa a⟩
theorem Mod.own.ok (h:m.own w base)(u:gI m m')(a:m'.ok w'):m.ok w:=by
 obtain⟨D,F,E,t,J,G,A,L,K,I,H,C,B⟩:=m
 obtain⟨n,p,o,z,v,q,j,y,x,s,r,l,k⟩:=m'
 obtain⟨i,g,f,e,d,c,b⟩:=u
 simp only at i g f e d c b
 subst i g f e d c b
 exact mk_ok h.ex h.im h.pa ⟨a.ex.2.1,a.ex.2.2,a.im.2.1,a.im.2.2,a.pa.2,a.name,a.text⟩
end
theorem VH {W:World}{b:Nat}{i g f e d c a:Value}{t:TypeId}(h:W.heap[b]? =some (.cells #[i,g,f,e,d,c,a] t (0,0))):
  Hid (W.heap[b]? =some (.cells #[i,g,f,e,d,c,a] t (0,0)))/\W.cell? ⟨b,0,none⟩=some i/\W.cell? ⟨b,1,none⟩=some g/\W.cell? ⟨b,2,none⟩=some f/\W.cell? ⟨b,3,none⟩=some e/\W.cell? ⟨b,4,none⟩=some d/\W.cell? ⟨b,5,none⟩=some c/\W.cell? ⟨b,6,none⟩=some a/\W.frozen? ⟨b,4,none⟩=false/\W.frozen? ⟨b,5,none⟩=false/\W.frozen? ⟨b,6,none⟩=false:=
 ⟨Hp h,heap_cell h 0,heap_cell h 1,heap_cell h 2,heap_cell h 3,heap_cell h 4,heap_cell h 5,heap_cell h 6,heap_free h 4,heap_free h 5,heap_free h 6⟩
def J8 (m:Mod)(w:World)(W:World):Prop:=∃(a:World)(g:Option Addr)(d:Nat)(f:Option Addr)(c:Nat)(e:Option Addr)(b:Nat),
 W=((a.setCell ⟨w.heap.size,4,none⟩ (.slice g m.ex.length d)).setCell ⟨w.heap.size,5,none⟩ (.slice f m.im.length c)).setCell ⟨w.heap.size,6,none⟩ (.slice e m.pa.length b)/\
 ExpOwn a (w.heap.size+2) (.slice g m.ex.length d) m.ex/\ImpOwn a (w.heap.size+2) (.slice f m.im.length c) m.im/\PatOwn a (w.heap.size+2) (.slice e m.pa.length b) m.pa/\Below w.heap.size w a/\
 a.heap[w.heap.size]? =some (.cells #[.string m.name,.int .i64 m.major,.int .i64 m.minor,.string m.text,.slice m.eA m.ex.length m.eC,.slice m.iA m.im.length m.iC,.slice m.pA m.pa.length m.pC] 70 (0,0))/\a.heap[w.heap.size+1]? =some (.cells #[.string ⟨#[]⟩,.int .i64 0,.int .i64 0,.string ⟨#[]⟩,.slice none 0 0,.slice none 0 0,.slice none 0 0] 70 (0,0))
theorem Ei (m:Mod)(w:World)(h:m.ok w)(P:m.ex.length<=1000000/\m.im.length<=1000000/\m.pa.length<=1000000):
  Calls Tryz.prog 125 #[m.v] w fun e w'=>(∃m',e=.returned m'.v/\gI m' m/\m'.own w' w.heap.size)/\Below w.heap.size w w':=by
 obtain⟨C,c⟩:=Nm (w.alloc (.cells #[.string m.name,.int .i64 m.major,.int .i64 m.minor,.string m.text,.slice m.eA m.ex.length m.eC,.slice m.iA m.im.length m.iC,.slice m.pA m.pa.length m.pC] 70))
 obtain⟨O,b⟩:=Nm (C.alloc (.cells #[.string ⟨#[]⟩,.int .i64 0,.int .i64 0,.string ⟨#[]⟩,.slice none 0 0,.slice none 0 0,.slice none 0 0] 70))
 have I:C.heap[w.heap.size]? =some (.cells #[.string m.name,.int .i64 m.major,.int .i64 m.minor,.string m.text,.slice m.eA m.ex.length m.eC,.slice m.iA m.im.length m.iC,.slice m.pA m.pa.length m.pC] 70 (0,0)):=by rw[c];exact heap_alloc_new w _
 have R:C.heap.size=w.heap.size+1:=by rw[c];simp
 have p:O.heap[w.heap.size]? =some (.cells #[.string m.name,.int .i64 m.major,.int .i64 m.minor,.string m.text,.slice m.eA m.ex.length m.eC,.slice m.iA m.im.length m.iC,.slice m.pA m.pa.length m.pC] 70 (0,0)):=by rw[b,heap_alloc_old C _ (by omega)];exact I
 have f:O.heap[w.heap.size+1]? =some (.cells #[.string ⟨#[]⟩,.int .i64 0,.int .i64 0,.string ⟨#[]⟩,.slice none 0 0,.slice none 0 0,.slice none 0 0] 70 (0,0)):=by rw[b,<-R];exact heap_alloc_new C _
 have hz:O.heap.size=w.heap.size+2:=by rw[b];simp;omega
 have H:Below w.heap.size w O:=by rw[b,c];exact(ZB).alloc (by simp) _
 have H0:=Hp H
 have HB:=Hp p
 have Q:=Hp f
 have K:=Hp hz
 have c1:=Hp (fun W(o:Below w.heap.size w W)=>U6 m.eA m.eC m.ex W (h.ex.1.below o) P.1)
 have c2:=Hp (fun W(o:Below w.heap.size w W)=>Ea m.iA m.iC m.im W (h.im.1.below o) P.2.1)
 have c3:=Hp (fun W(o:Below w.heap.size w W)=>EM m.pA m.pC m.pa W (h.pa.1.below o) P.2.2)
 have E:=c.symm
 have D:=b.symm
 have X:=heap_cell p 4
 have V:=heap_cell p 5
 have U:=heap_cell p 6
 simp only[GZ2,GZ0,GZ1]at X V U
 clear c b I p f hz H h P
 go_enter Tryz.func125,Tryz.ntmps125
 go_upto_region 1 with fail
 go_cut [3] from 4 to 14 (fun _ wx=>J8 m w wx)
 case first=>
  go_region_with (first
   |(go_at_call 152;(with_reducible refine(c1.out _ H0.out.drew).mono ?_);rintro e w1 ⟨⟨B,s,rfl,a⟩,l⟩
     have a0:=Hp a
     have d:=Hp l
     have y:=Hp (H0.drew.trans (l.mono (by have:=K.out;simp;omega)))
     obtain⟨N,_,_,_,_,_,b5,b6,_,_,_⟩:=VH ((l.block w.heap.size (by have:=K.out;simp;omega)).trans HB.out)
     clear a l)
   |(go_at_call 193;(with_reducible refine(c2.out _ y.out).mono ?_);rintro e w2 ⟨⟨A,r,rfl,G⟩,k⟩
     have Z:=Hp G
     have n:=Hp k
     have x:=Hp (y.trans (k.mono y.size))
     obtain⟨M,_,_,_,_,_,_,d6,_,_,_⟩:=VH ((k.block w.heap.size (ZL N.out)).trans N.out)
     clear G k)
   |(go_at_call 194;(with_reducible refine(c3.out _ x.out).mono ?_);rintro e i ⟨⟨z,q,rfl,F⟩,j⟩
     have Y:=Hp F
     have t:=Hp j
     obtain⟨a2,_,_,_,_,e4,e5,e6,j4,j5,j6⟩:=VH ((j.block w.heap.size (ZL M.out)).trans M.out)
     have u:=Hp (x.trans (j.mono x.size))
     have L:=Hp (show J8 m w (((i.setCell ⟨w.heap.size,4,none⟩ (.slice B m.ex.length s)).setCell ⟨w.heap.size,5,none⟩ (.slice A m.im.length r)).setCell ⟨w.heap.size,6,none⟩ (.slice z m.pa.length q)) from
      ⟨i,B,s,A,r,z,q,rfl,RH (aO (aO a0.out n.out) t.out) (Nat.le_of_eq K.symm),RH (aO Z.out t.out) (GY1 (Nat.le_of_eq K.symm) d.size),RH Y.out (GY1 (Nat.le_of_eq K.symm) (GY1 d.size n.size)),u.out,a2.out,
       (t.block _ (GY0 (ZL Q.out) (GY1 d.size n.size))).trans ((n.block _ (GY0 (ZL Q.out) d.size)).trans ((d.block _ (ZL Q.out)).trans Q.out))⟩)
     clear F j))
  all_goals(
   have hm:J8 m w (((i.setCell ⟨w.heap.size,4,none⟩ (.slice B m.ex.length s)).setCell ⟨w.heap.size,5,none⟩ (.slice A m.im.length r)).setCell ⟨w.heap.size,6,none⟩ (.slice z m.pa.length q)):=L.out
   clear b5 b6 d6 e4 e5 e6 j4 j5 j6 X V U
   go_wp2_with fail
   go_meet
   exact hm)
 case rest=>
  obtain⟨i,B,s,A,r,z,q,rfl,T,J,h3,o,p,f⟩:=hcut
  have u:=Hp o
  have H1:=Hp T
  have H2:=Hp J
  have H3:=Hp h3
  obtain⟨a7,e0,e1,e2,e3,e4,e5,e6,j4,j5,j6⟩:=VH p
  obtain⟨a1,r0,r1,r2,r3,r4,r5,r6,q4,q5,q6⟩:=VH f
  have q0:=heap_free f 0
  have q1:=heap_free f 1
  have q2:=heap_free f 2
  have q3:=heap_free f 3
  have a3:w.heap.size+2<=i.heap.size:=by have:=(ZL f);omega
  clear T J h3 o p f X V U c1 c2 c3 E D
  go_wp2_with fail
  obtain⟨W,hW⟩:∃W,W=((i.setCell ⟨w.heap.size,4,none⟩ (.slice B m.ex.length s)).setCell ⟨w.heap.size,5,none⟩ (.slice A m.im.length r)).setCell ⟨w.heap.size,6,none⟩ (.slice z m.pa.length q):=⟨_,rfl⟩
  have a:Only w.heap.size i W:=hW▸((Only.set 4 _).trans (Only.set 5 _)).trans (Only.set 6 _)
  rw[<-hW]
  obtain⟨hg,ho⟩:=set7 ((a.block (w.heap.size+1) (by omega) (by omega)).trans a1.out) (.string m.name) (.int .i64 m.major) (.int .i64 m.minor) (.string m.text) (.slice B m.ex.length s) (.slice A m.im.length r) (.slice z m.pa.length q)
  refine bodyPost_ret (results_cell_row rfl _ _ (w.heap.size+1) 70 _ (0,0) _ rfl hg Tryz.underlying70 rfl Tryz.PG) rfl ?_
  have S:∀g,w.heap.size+2<=g->g<i.heap.size->_=i.heap[g]?:=fun g T J=>(ho.block g (GY0 J a.size) (by omega)).trans (a.block g J (by omega))
  refine⟨⟨⟨m.name,m.major,m.minor,m.text,m.ex,m.im,m.pa,B,s,A,r,z,q⟩,rfl,⟨rfl,rfl,rfl,rfl,rfl,rfl,rfl⟩,⟨RH (own_same H1.out S) (by omega),RH (own_same H2.out S) (by omega),RH (own_same H3.out S) (by omega)⟩⟩,(u.trans (a.below (by omega))).trans ((ho.below (by have:=a.size;omega)).mono (by omega))⟩
end
section
open Go.RowKit
def MB (W:World)(g:Nat)(d:ByteArray)(f e:Int)(tx:ByteArray)(c b a:Value):Prop:=W.heap[g]? =some (.cells #[.string d,.int .i64 f,.int .i64 e,.string tx,c,b,a] 70 (0,0))
theorem Rd.kp {ts:List TypeId}{B:Nat}{b:Rest}{w a:World}(h:Rd B b w)(d:Kp ts w a)(c:188 ∉ ts):Rd B b a:=d _ _ _ _ h c
theorem NQ (B bR d b:Nat)(i:Rest)(L tx:ByteArray)(N M:Int)(p J I:Value)(v:List Exp)(w:World)(hR:Rd B i w)(Y:Boxed w bR 186 (.pointer (some ⟨B,0,none⟩)))(hM:MB w d L N M tx p J I)(hE:ExpOwn w b p v)
  (hl:(left i).length<=big) (c3:v.length<=1000) (a8:B<b) (a7:d<b) (c5:b<=w.heap.size):
  Calls Tryz.prog 131 #[.pointer (some ⟨bR,0,none⟩),.pointer (some ⟨d,0,none⟩)] w fun e t=>(∃u,e=.returned u)/\
   Rd B (gF i).2 t/\Kp [188,70,159] w t/\w.heap.size<=t.heap.size/\(∀k,k<b->k≠B->k≠d->t.heap[k]? =w.heap[k]?)/\(t.os=w.os/\t.tape=w.tape/\t.output=w.output)/\∃V,MB t d L N M tx V J I/\ExpOwn t b V (v++[(gF i).1]):=by
 have E:=hl
 have c0:=Hp (fun W hW=>rJ B i W hW E)
 have D:(left (nam i).2).length<=big:=dB _ (dB 1 E)
 have R:=Hp (fun W hW=>eY B (nam i).2 2 W hW D (by omega) (by omega))
 change Hid (∀W,_->Calls _ _ #[_,.int .i64 2] W _)at R
 have a6:(left (aI 2 (nam i).2).2).length<=big:=dB 2 D
 have hx:gF i=(⟨sof (nam i).1,(aI 2 (nam i).2).1⟩,(aI 2 (nam i).2).2):=rfl
 rw[hx]
 obtain⟨S,P⟩:∃a,a=(aI 2 (nam i).2).1:=⟨_,rfl⟩
 rw[<-P]at R ⊢
 obtain⟨a3,y⟩:∃s,s=(aI 2 (nam i).2).2:=⟨_,rfl⟩
 rw[<-y]at R ⊢
 obtain⟨G,Q⟩:=Nm (sof (nam i).1)
 rw[<-Q]at c0 ⊢
 obtain⟨a4,z⟩:∃s,s=(nam i).2:=⟨_,rfl⟩
 rw[<-z]at c0 R
 have HB:=Hp Y
 have HM:=Hp hM
 have HE:=Hp hE
 have c6:=Y.lt
 have HR:=Hp hR
 have qw:=Y.cell
 have a9:B≠d:=heap_ne (show w.heap[B]? =_ from hR) (show w.heap[d]? =_ from hM) (by decide)
 clear hx hl hR Y hM hE Q z E P y D a6
 go_enter Tryz.func131,Tryz.ntmps131
 go_wp2_with fail
 refine(c0.out _ HR.out).mono ?_
 rintro e u0 ⟨rfl,h0,n⟩
 have X:=Hp (n.kp HR.out (ts:=[188]) (by simp))
 have z0:=n.size
 have L0:=Hp (fun k(o:k<b)(q:k≠B)=>n.block k (by omega) q)
 obtain⟨r,j⟩:=Nm (u0.alloc (.cells #[.string G,.int .i64 0] 159))
 have b2:=Hp j.symm
 have b0:∀k,k<u0.heap.size->r.heap[k]? =u0.heap[k]?:=fun k o=>j▸heap_alloc_old u0 _ o
 have X0:=Hp (show r.heap[u0.heap.size]? =some (.cells #[.string G,.int .i64 0] 159 (0,0)) from j▸heap_alloc_new _ _)
 have K0:=Hp (show Kp [188,159] w r from j▸((X.out.alloc _).mono (by simp)))
 have R0:=Hp (show Rd B a4 r from(b0 B h0.lt).trans h0)
 have O0:=Hp (show r.os=w.os/\r.tape=w.tape/\r.output=w.output from j▸⟨n.os,n.tape,n.output⟩)
 have N0:=Hp (fun k(o:k<b)(q:k≠B)=>(b0 k (by omega)).trans (L0.out k o q))
 have qu:=(box_kp HB.out X.out (by decide)).cell
 have a5:=(box_kp HB.out K0.out (by decide)).cell
 have M0:=Hp (show MB r d L N M tx p J I from K0.out _ _ _ _ HM.out (by decide))
 have E0:=Hp (show ExpOwn r b p v from(j▸((own_kp HE.out X.out (by decide)).alloc _)))
 have A:p.ownBlock≠some u0.heap.size:=fun h=>by
  have:=(own_kp HE.out X.out (by decide)).lt _ h
  omega
 have b3:=Hp A
 have b9:u0.heap.size<r.heap.size:=(ZL X0.out)
 have b7:bR<u0.heap.size:=by omega
 have c4:b<=u0.heap.size:=by omega
 clear h0 n j b0 qw A a5
 go_wp2_with fail
 rw[b2.out]
 refine(R.out _ R0.out).mono ?_
 rintro e u1 ⟨rfl,q,m⟩
 have k1:=Hp (m.kp R0.out (ts:=[188]) (by simp))
 have z1:=m.size
 have x:=Hp (k1.out _ _ _ _ X0.out (by decide))
 have b4:=Hp (show ExpOwn u1 b p v from own_kp E0.out k1.out (by decide))
 have K:=heap_cell x.out 1
 have b5:=heap_free x.out 1
 simp only[GZ2,GZ1,GZ0]at K
 obtain⟨c,f⟩:=Nm (u1.setCell ⟨u0.heap.size,1,none⟩ (.int .i64 S))
 have b6:=f.symm
 have a2:c.heap.size=u1.heap.size:=by subst f;simp
 have s1:∀k,k≠u0.heap.size->c.heap[k]? =u1.heap[k]?:=fun k o=>by rw[f];exact Below.heap_setCell _ _ _ _ o
 have X1:=Hp (show c.heap[u0.heap.size]? =some (.cells #[.string G,.int .i64 S] 159 (0,0)) from by rw[f,heap_setCell_same u1 _ 1 _ _ _ x.out];rfl)
 have T:Kp [188,159] u1 c:=f▸Kp.set x.out (by simp) 1 _
 have K1:=Hp (show Kp [188,159] w c from(K0.trans (k1.mono (by simp))).trans T)
 have R1:=Hp (show Rd B a3 c from(s1 B (by omega)).trans q)
 have M1:=Hp (show MB c d L N M tx p J I from K1.out _ _ _ _ HM.out (by decide))
 have E1:=Hp (show ExpOwn c b p v from f▸ownsRow_setCell_other b4.out b3.out _)
 have N1:=Hp (fun k(o:k<b)(q:k≠B)=>(s1 k (by omega)).trans ((m.block k (by omega) q).trans (N0.out k o q)))
 have O1:=Hp (show c.os=w.os/\c.tape=w.tape/\c.output=w.output from f▸⟨m.os.trans O0.out.1,m.tape.trans O0.out.2.1,m.output.trans O0.out.2.2⟩)
 have c2:=(box_kp HB.out K1.out (by decide)).cell
 have b8:u0.heap.size<c.heap.size:=by omega
 clear q m f s1 a2 T
 have m4:=heap_cell (show c.heap[d]? =_ from M1.out) 4
 have x0:=heap_cell X1.out 0
 have x1:=heap_cell X1.out 1
 simp only[GZ2,GZ1,GZ0]at m4 x0 x1
 have c7:b<=c.heap.size:=by omega
 have Z5:=Hp (show w.heap.size<=c.heap.size by omega)
 go_wp2_with (at_builtin;refine append_Exp c rfl _ _ rfl b p v ⟨G,S⟩ rfl rfl E1.out (by omega) (by omega) ?_;intro V C l F;have U:=Hp l;obtain⟨g,b1,rfl⟩:=ownsRow_succ (show C.ownsRow b _ 2 V (v.length+1) _ by have h:=l;unfold ExpOwn at h;simpa using h);have H:=Hp F;have O:some d≠p.ownBlock:=(fun h=>by have:=(E1.lt d h.symm).1;omega);have Z:=Hp (show MB C d L N M tx p J I from(F.block d (by simp;omega) O).trans ((heap_alloc_old c _ (by omega)).trans M1.out));have p7:=heap_cell (show C.heap[d]? =_ from Z.out) 4;have f7:=heap_free (show C.heap[d]? =_ from Z.out) 4;simp only[GZ2,GZ1,GZ0]at p7;clear l F O)
 go_end0
 have K7:=Hp (show Kp [188,70,159] w C from((K1.alloc _).trans (Kp.grown (ts:=[188,159]) H.out (fun g hg=>by
  obtain⟨c',fz,h⟩:=own_kind (E1.alloc (.cells #[.string G,.int .i64 S] 159)) g hg
  exact⟨_,_,_,h,by simp⟩))).mono (by simp))
 have B7:=Hp (fun k(o:k<b)=>(H.block k (by simp;omega) (fun h=>by have:=(E1.lt k h.symm).1;omega)).trans (heap_alloc_old c (.cells #[.string G,.int .i64 S] 159) (show k<c.heap.size by omega)))
 have S7:=H.size
 refine⟨⟨_,rfl⟩,?_,K7.trans (Kp.set (show C.heap[d]? =_ from Z.out) (by simp) 4 _),?_,?_,?_,.slice (some ⟨g,0,none⟩) (v.length+1) b1,?_,?_⟩
 ·exact(Below.heap_setCell _ _ _ _ a9).trans ((B7.out B a8).trans R1.out)
 ·simp at S7 ⊢
  have:=Z5.out
  omega
 ·intro k o q h2
  rw[Below.heap_setCell _ _ _ _ h2,B7.out k o]
  exact N1.out k o q
 ·exact⟨H.os.trans O1.out.1,H.tape.trans O1.out.2.1,H.output.trans O1.out.2.2⟩
 ·unfold MB
  rw[heap_setCell_same C d 4 _ _ _ Z.out]
  rfl
 ·exact ownsRow_setCell_below U.out a7 _
theorem MX (B bR f b:Nat)(c:Rest)(Q tx:ByteArray)(S R:Int)(P j O:Value)(y:List Imp)(w:World)(hR:Rd B c w)(hB:Boxed w bR 186 (.pointer (some ⟨B,0,none⟩)))(hM:MB w f Q S R tx P j O)(hE:ImpOwn w b j y)
  (hl:(left c).length<=big) (f3:y.length<=1000) (d2:B<b) (d1:f<b) (f5:b<=w.heap.size):
  Calls Tryz.prog 132 #[.pointer (some ⟨bR,0,none⟩),.pointer (some ⟨f,0,none⟩)] w fun e D=>(∃u,e=.returned u)/\
   Rd B (Ro c).2 D/\Kp [188,70,173] w D/\w.heap.size<=D.heap.size/\(∀k,k<b->k≠B->k≠f->D.heap[k]? =w.heap[k]?)/\(D.os=w.os/\D.tape=w.tape/\D.output=w.output)/\∃v',MB D f Q S R tx P v' O/\ImpOwn D b v' (y++[(Ro c).1]):=by
 have X:=hl
 have c0:=Hp (fun W Z=>rJ B c W Z X)
 have V:(left (nam c).2).length<=big:=dB _ (dB 1 X)
 have c1:=Hp (fun W Z=>rJ B (nam c).2 W Z V)
 have U:(left (nam (nam c).2).2).length<=big:=dB _ (dB 1 V)
 have c2:=Hp (fun W Z=>eY B (nam (nam c).2).2 1 W Z U (by omega) (by omega))
 change Hid (∀W,_->Calls _ _ #[_,.int .i64 1] W _)at c2
 have T:(left (aI 1 (nam (nam c).2).2).2).length<=big:=dB 1 U
 have c3:=Hp (fun W Z=>eY B (aI 1 (nam (nam c).2).2).2 1 W Z T (by omega) (by omega))
 change Hid (∀W,_->Calls _ _ #[_,.int .i64 1] W _)at c3
 have d0:(left (aI 1 (aI 1 (nam (nam c).2).2).2).2).length<=big:=dB 1 T
 have hx:Ro c=(⟨sof (nam c).1,sof (nam (nam c).2).1,(aI 1 (nam (nam c).2).2).1,(aI 1 (aI 1 (nam (nam c).2).2).2).1⟩,(aI 1 (aI 1 (nam (nam c).2).2).2).2):=rfl
 rw[hx]
 obtain⟨a3,a9⟩:∃a,a=(aI 1 (aI 1 (nam (nam c).2).2).2).1:=⟨_,rfl⟩
 rw[<-a9]at c3 ⊢
 obtain⟨c5,H⟩:∃s,s=(aI 1 (aI 1 (nam (nam c).2).2).2).2:=⟨_,rfl⟩
 rw[<-H]at c3 ⊢
 obtain⟨a2,b1⟩:∃a,a=(aI 1 (nam (nam c).2).2).1:=⟨_,rfl⟩
 rw[<-b1]at c2 ⊢
 obtain⟨c6,I⟩:∃s,s=(aI 1 (nam (nam c).2).2).2:=⟨_,rfl⟩
 rw[<-I]at c2 c3
 obtain⟨a1,b2⟩:=Nm (sof (nam (nam c).2).1)
 rw[<-b2]at c1 ⊢
 obtain⟨c7,J⟩:∃s,s=(nam (nam c).2).2:=⟨_,rfl⟩
 rw[<-J]at c1 c2
 obtain⟨M,b3⟩:=Nm (sof (nam c).1)
 rw[<-b3]at c0 ⊢
 obtain⟨c8,K⟩:∃s,s=(nam c).2:=⟨_,rfl⟩
 rw[<-K]at c0 c1
 have HB:=Hp hB
 have HM:=Hp hM
 have HE:=Hp hE
 have f6:=hB.lt
 have HR:=Hp hR
 have qw:=hB.cell
 have d3:B≠f:=heap_ne (show w.heap[B]? =_ from hR) (show w.heap[f]? =_ from hM) (by decide)
 clear hx hl hR hB hM hE b3 K X b2 J V b1 I U a9 H T d0
 go_enter Tryz.func132,Tryz.ntmps132
 go_wp2_with fail
 refine(c0.out _ HR.out).mono ?_
 rintro e u0 ⟨rfl,h0,x⟩
 have k0:=Hp (x.kp HR.out (ts:=[188]) (by simp))
 have z0:=x.size
 have L0:=Hp (fun k(d:k<b)(o:k≠B)=>x.block k (by omega) o)
 obtain⟨C,p⟩:=Nm (u0.alloc (.cells #[.string M,.string ⟨#[]⟩,.int .i64 0,.int .i64 0] 173))
 have d5:=Hp p.symm
 have b0:∀k,k<u0.heap.size->C.heap[k]? =u0.heap[k]?:=fun k d=>p▸heap_alloc_old u0 _ d
 have X0:=Hp (show C.heap[u0.heap.size]? =some (.cells #[.string M,.string ⟨#[]⟩,.int .i64 0,.int .i64 0] 173 (0,0)) from p▸heap_alloc_new _ _)
 have K0:=Hp (show Kp [188,173] w C from p▸((k0.out.alloc _).mono (by simp)))
 have R0:=Hp (show Rd B c8 C from(b0 B h0.lt).trans h0)
 have O0:=Hp (show C.os=w.os/\C.tape=w.tape/\C.output=w.output from p▸⟨x.os,x.tape,x.output⟩)
 have N0:=Hp (fun k(d:k<b)(o:k≠B)=>(b0 k (by omega)).trans (L0.out k d o))
 have qu:=(box_kp HB.out k0.out (by decide)).cell
 have c9:=(box_kp HB.out K0.out (by decide)).cell
 have M0:=Hp (show MB C f Q S R tx P j O from K0.out _ _ _ _ HM.out (by decide))
 have E0:=Hp (show ImpOwn C b j y from(p▸((own_kp HE.out k0.out (by decide)).alloc _)))
 have L:j.ownBlock≠some u0.heap.size:=fun h=>by
  have:=(own_kp HE.out k0.out (by decide)).lt _ h
  omega
 have a4:=Hp L
 have e9:u0.heap.size<C.heap.size:=(ZL X0.out)
 have e5:bR<u0.heap.size:=by omega
 have f4:b<=u0.heap.size:=by omega
 clear h0 x p b0 qw L c9
 go_wp2_with fail
 rw[d5.out]
 refine(c1.out _ R0.out).mono ?_
 rintro e u1 ⟨rfl,o,v⟩
 have k1:=Hp (v.kp R0.out (ts:=[188]) (by simp))
 have z1:=v.size
 have G:=Hp (k1.out _ _ _ _ X0.out (by decide))
 have d8:=Hp (show ImpOwn u1 b j y from own_kp E0.out k1.out (by decide))
 have a7:=heap_cell G.out 1
 have e1:=heap_free G.out 1
 simp only[GZ2,GZ1,GZ0]at a7
 obtain⟨A,n⟩:=Nm (u1.setCell ⟨u0.heap.size,1,none⟩ (.string a1))
 have e4:=n.symm
 have c4:A.heap.size=u1.heap.size:=by subst n;simp
 have s1:∀k,k≠u0.heap.size->A.heap[k]? =u1.heap[k]?:=fun k d=>by rw[n];exact Below.heap_setCell _ _ _ _ d
 have X1:=Hp (show A.heap[u0.heap.size]? =some (.cells #[.string M,.string a1,.int .i64 0,.int .i64 0] 173 (0,0)) from by rw[n,heap_setCell_same u1 _ 1 _ _ _ G.out];rfl)
 have b6:Kp [188,173] u1 A:=n▸Kp.set G.out (by simp) 1 _
 have K1:=Hp (show Kp [188,173] w A from(K0.trans (k1.mono (by simp))).trans b6)
 have R1:=Hp (show Rd B c7 A from(s1 B (by omega)).trans o)
 have M1:=Hp (show MB A f Q S R tx P j O from K1.out _ _ _ _ HM.out (by decide))
 have E1:=Hp (show ImpOwn A b j y from n▸ownsRow_setCell_other d8.out a4.out _)
 have N1:=Hp (fun k(d:k<b)(o:k≠B)=>(s1 k (by omega)).trans ((v.block k (by omega) o).trans (N0.out k d o)))
 have O1:=Hp (show A.os=w.os/\A.tape=w.tape/\A.output=w.output from n▸⟨v.os.trans O0.out.1,v.tape.trans O0.out.2.1,v.output.trans O0.out.2.2⟩)
 have f2:=(box_kp HB.out K1.out (by decide)).cell
 have e8:u0.heap.size<A.heap.size:=by omega
 clear o v n s1 c4 b6
 go_wp2_with fail
 refine(c2.out _ R1.out).mono ?_
 rintro e u2 ⟨rfl,h2,t⟩
 have k2:=Hp (t.kp R1.out (ts:=[188]) (by simp))
 have z2:=t.size
 have F:=Hp (k2.out _ _ _ _ X1.out (by decide))
 have d7:=Hp (show ImpOwn u2 b j y from own_kp E1.out k2.out (by decide))
 have a6:=heap_cell F.out 2
 have e0:=heap_free F.out 2
 simp only[GZ2,GZ1,GZ0]at a6
 obtain⟨z,m⟩:=Nm (u2.setCell ⟨u0.heap.size,2,none⟩ (.int .i64 a2))
 have e3:=m.symm
 have b9:z.heap.size=u2.heap.size:=by subst m;simp
 have s2:∀k,k≠u0.heap.size->z.heap[k]? =u2.heap[k]?:=fun k d=>by rw[m];exact Below.heap_setCell _ _ _ _ d
 have X2:=Hp (show z.heap[u0.heap.size]? =some (.cells #[.string M,.string a1,.int .i64 a2,.int .i64 0] 173 (0,0)) from by rw[m,heap_setCell_same u2 _ 2 _ _ _ F.out];rfl)
 have b5:Kp [188,173] u2 z:=m▸Kp.set F.out (by simp) 2 _
 have K2:=Hp (show Kp [188,173] w z from(K1.trans (k2.mono (by simp))).trans b5)
 have R2:=Hp (show Rd B c6 z from(s2 B (by omega)).trans h2)
 have M2:=Hp (show MB z f Q S R tx P j O from K2.out _ _ _ _ HM.out (by decide))
 have E2:=Hp (show ImpOwn z b j y from m▸ownsRow_setCell_other d7.out a4.out _)
 have N2:=Hp (fun k(d:k<b)(o:k≠B)=>(s2 k (by omega)).trans ((t.block k (by omega) o).trans (N1.out k d o)))
 have O2:=Hp (show z.os=w.os/\z.tape=w.tape/\z.output=w.output from m▸⟨t.os.trans O1.out.1,t.tape.trans O1.out.2.1,t.output.trans O1.out.2.2⟩)
 have f1:=(box_kp HB.out K2.out (by decide)).cell
 have e7:u0.heap.size<z.heap.size:=by omega
 clear h2 t m s2 b9 b5
 go_wp2_with fail
 refine(c3.out _ R2.out).mono ?_
 rintro e u3 ⟨rfl,h3,r⟩
 have k3:=Hp (r.kp R2.out (ts:=[188]) (by simp))
 have z3:=r.size
 have E:=Hp (k3.out _ _ _ _ X2.out (by decide))
 have d6:=Hp (show ImpOwn u3 b j y from own_kp E2.out k3.out (by decide))
 have a5:=heap_cell E.out 3
 have d9:=heap_free E.out 3
 simp only[GZ2,GZ1,GZ0]at a5
 obtain⟨i,l⟩:=Nm (u3.setCell ⟨u0.heap.size,3,none⟩ (.int .i64 a3))
 have e2:=l.symm
 have b8:i.heap.size=u3.heap.size:=by subst l;simp
 have s3:∀k,k≠u0.heap.size->i.heap[k]? =u3.heap[k]?:=fun k d=>by rw[l];exact Below.heap_setCell _ _ _ _ d
 have X3:=Hp (show i.heap[u0.heap.size]? =some (.cells #[.string M,.string a1,.int .i64 a2,.int .i64 a3] 173 (0,0)) from by rw[l,heap_setCell_same u3 _ 3 _ _ _ E.out];rfl)
 have b4:Kp [188,173] u3 i:=l▸Kp.set E.out (by simp) 3 _
 have K3:=Hp (show Kp [188,173] w i from(K2.trans (k3.mono (by simp))).trans b4)
 have R3:=Hp (show Rd B c5 i from(s3 B (by omega)).trans h3)
 have M3:=Hp (show MB i f Q S R tx P j O from K3.out _ _ _ _ HM.out (by decide))
 have E3:=Hp (show ImpOwn i b j y from l▸ownsRow_setCell_other d6.out a4.out _)
 have N3:=Hp (fun k(d:k<b)(o:k≠B)=>(s3 k (by omega)).trans ((r.block k (by omega) o).trans (N2.out k d o)))
 have O3:=Hp (show i.os=w.os/\i.tape=w.tape/\i.output=w.output from l▸⟨r.os.trans O2.out.1,r.tape.trans O2.out.2.1,r.output.trans O2.out.2.2⟩)
 have f0:=(box_kp HB.out K3.out (by decide)).cell
 have e6:u0.heap.size<i.heap.size:=by omega
 clear h3 r l s3 b8 b4
 have m4:=heap_cell (show i.heap[f]? =_ from M3.out) 5
 have x0:=heap_cell X3.out 0
 have x1:=heap_cell X3.out 1
 have x2:=heap_cell X3.out 2
 have x3:=heap_cell X3.out 3
 simp only[GZ2,GZ1,GZ0]at m4 x0 x1 x2 x3
 have f8:b<=i.heap.size:=by omega
 have Z5:=Hp (show w.heap.size<=i.heap.size by omega)
 go_wp2_with (at_builtin;refine append_Imp i rfl _ _ rfl b j y ⟨M,a1,a2,a3⟩ rfl rfl E3.out (by omega) (by omega) ?_;intro v' N q Y;have b7:=Hp q;obtain⟨g,d4,rfl⟩:=ownsRow_succ (show N.ownsRow b _ 4 v' (y.length+1) _ by have h:=q;unfold ImpOwn at h;simpa using h);have HG:=Hp Y;have a8:some f≠j.ownBlock:=(fun h=>by have:=(E3.lt f h.symm).1;omega);have M7:=Hp (show MB N f Q S R tx P j O from(Y.block f (by simp;omega) a8).trans ((heap_alloc_old i _ (by omega)).trans M3.out));have p7:=heap_cell (show N.heap[f]? =_ from M7.out) 5;have f7:=heap_free (show N.heap[f]? =_ from M7.out) 5;simp only[GZ2,GZ1,GZ0]at p7;clear q Y a8)
 go_end0
 have K7:=Hp (show Kp [188,70,173] w N from((K3.alloc _).trans (Kp.grown (ts:=[188,173]) HG.out (fun g hg=>by
  obtain⟨c',fz,h⟩:=own_kind (E3.alloc (.cells #[.string M,.string a1,.int .i64 a2,.int .i64 a3] 173)) g hg
  exact⟨_,_,_,h,by simp⟩))).mono (by simp))
 have B7:=Hp (fun k(d:k<b)=>(HG.block k (by simp;omega) (fun h=>by have:=(E3.lt k h.symm).1;omega)).trans (heap_alloc_old i (.cells #[.string M,.string a1,.int .i64 a2,.int .i64 a3] 173) (show k<i.heap.size by omega)))
 have S7:=HG.size
 refine⟨⟨_,rfl⟩,?_,K7.trans (Kp.set (show N.heap[f]? =_ from M7.out) (by simp) 5 _),?_,?_,?_,.slice (some ⟨g,0,none⟩) (y.length+1) d4,?_,?_⟩
 ·exact(Below.heap_setCell _ _ _ _ d3).trans ((B7.out B d2).trans R3.out)
 ·simp at S7 ⊢
  have:=Z5.out
  omega
 ·intro k d o h2
  rw[Below.heap_setCell _ _ _ _ h2,B7.out k d]
  exact N3.out k d o
 ·exact⟨HG.os.trans O3.out.1,HG.tape.trans O3.out.2.1,HG.output.trans O3.out.2.2⟩
 ·unfold MB
  rw[heap_setCell_same N f 5 _ _ _ M7.out]
  rfl
 ·exact ownsRow_setCell_below b7.out d1 _
theorem OU (B bR f b:Nat)(c:Rest)(R tx:ByteArray)(T S:Int)(Q P j:Value)(y:List Pat)(w:World)(hR:Rd B c w)(hB:Boxed w bR 186 (.pointer (some ⟨B,0,none⟩)))(hM:MB w f R T S tx Q P j)(hE:PatOwn w b j y)
  (hl:(left c).length<=big) (f5:y.length<=1000) (d4:B<b) (d3:f<b) (f8:b<=w.heap.size):
  Calls Tryz.prog 133 #[.pointer (some ⟨bR,0,none⟩),.pointer (some ⟨f,0,none⟩)] w fun e D=>(∃u,e=.returned u)/\
   Rd B (fZ c).2 D/\Kp [188,70,180] w D/\w.heap.size<=D.heap.size/\(∀k,k<b->k≠B->k≠f->D.heap[k]? =w.heap[k]?)/\(D.os=w.os/\D.tape=w.tape/\D.output=w.output)/\∃v',MB D f R T S tx Q P v'/\PatOwn D b v' (y++[(fZ c).1]):=by
 have Z:=hl
 have c0:=Hp (fun W hW=>eY B c 1 W hW Z (by omega) (by omega))
 change Hid (∀W,_->Calls _ _ #[_,.int .i64 1] W _)at c0
 have Y:(left (aI 1 c).2).length<=big:=dB 1 Z
 have c1:=Hp (fun W hW=>eY B (aI 1 c).2 2 W hW Y (by omega) (by omega))
 change Hid (∀W,_->Calls _ _ #[_,.int .i64 2] W _)at c1
 have X:(left (aI 2 (aI 1 c).2).2).length<=big:=dB 2 Y
 have c2:=Hp (fun W hW=>eY B (aI 2 (aI 1 c).2).2 1 W hW X (by omega) (by omega))
 change Hid (∀W,_->Calls _ _ #[_,.int .i64 1] W _)at c2
 have V:(left (aI 1 (aI 2 (aI 1 c).2).2).2).length<=big:=dB 1 X
 have a9:=dZ 1 (aI 2 (aI 1 c).2).2 (by omega)
 have c3:=Hp (fun W hW=>eY B (aI 1 (aI 2 (aI 1 c).2).2).2 2 W hW V (by omega) (by omega))
 change Hid (∀W,_->Calls _ _ #[_,.int .i64 2] W _)at c3
 have d2:(left (aI 2 (aI 1 (aI 2 (aI 1 c).2).2).2).2).length<=big:=dB 2 V
 have hx:fZ c=(⟨(aI 1 c).1,(aI 2 (aI 1 c).2).1,(aI 1 (aI 2 (aI 1 c).2).2).1 -1,(aI 2 (aI 1 (aI 2 (aI 1 c).2).2).2).1⟩,(aI 2 (aI 1 (aI 2 (aI 1 c).2).2).2).2):=rfl
 rw[hx]
 obtain⟨a3,b2⟩:∃a,a=(aI 2 (aI 1 (aI 2 (aI 1 c).2).2).2).1:=⟨_,rfl⟩
 rw[<-b2]at c3 ⊢
 obtain⟨c7,H⟩:∃s,s=(aI 2 (aI 1 (aI 2 (aI 1 c).2).2).2).2:=⟨_,rfl⟩
 rw[<-H]at c3 ⊢
 obtain⟨a2,b3⟩:∃a,a=(aI 1 (aI 2 (aI 1 c).2).2).1:=⟨_,rfl⟩
 rw[<-b3]at c2 a9 ⊢
 obtain⟨N,U⟩:=Nm (a2 -1)
 have q2:IntKind.i64.wrap (a2 -1)=N:=by rw[U];exact IntWalk.i64_in _ (by omega)
 rw[<-U]
 obtain⟨c8,I⟩:∃s,s=(aI 1 (aI 2 (aI 1 c).2).2).2:=⟨_,rfl⟩
 rw[<-I]at c2 c3
 obtain⟨a1,b4⟩:∃a,a=(aI 2 (aI 1 c).2).1:=⟨_,rfl⟩
 rw[<-b4]at c1 ⊢
 obtain⟨c9,J⟩:∃s,s=(aI 2 (aI 1 c).2).2:=⟨_,rfl⟩
 rw[<-J]at c1 c2
 obtain⟨M,b5⟩:∃a,a=(aI 1 c).1:=⟨_,rfl⟩
 rw[<-b5]at c0 ⊢
 obtain⟨d0,K⟩:∃s,s=(aI 1 c).2:=⟨_,rfl⟩
 rw[<-K]at c0 c1
 have HB:=Hp hB
 have HM:=Hp hM
 have HE:=Hp hE
 have f9:=hB.lt
 have HR:=Hp hR
 have qw:=hB.cell
 have d5:B≠f:=heap_ne (show w.heap[B]? =_ from hR) (show w.heap[f]? =_ from hM) (by decide)
 clear hx hl hR hB hM hE b5 K Z b4 J Y b3 I X b2 H V d2 U a9
 go_enter Tryz.func133,Tryz.ntmps133
 go_wp2_with fail
 refine(c0.out _ HR.out).mono ?_
 rintro e u0 ⟨rfl,h0,x⟩
 have k0:=Hp (x.kp HR.out (ts:=[188]) (by simp))
 have z0:=x.size
 have L0:=Hp (fun k(d:k<b)(o:k≠B)=>x.block k (by omega) o)
 obtain⟨C,p⟩:=Nm (u0.alloc (.cells #[.int .i64 M,.int .i64 0,.int .i64 0,.int .i64 0] 180))
 have d7:=Hp p.symm
 have b0:∀k,k<u0.heap.size->C.heap[k]? =u0.heap[k]?:=fun k d=>p▸heap_alloc_old u0 _ d
 have X0:=Hp (show C.heap[u0.heap.size]? =some (.cells #[.int .i64 M,.int .i64 0,.int .i64 0,.int .i64 0] 180 (0,0)) from p▸heap_alloc_new _ _)
 have K0:=Hp (show Kp [188,180] w C from p▸((k0.out.alloc _).mono (by simp)))
 have R0:=Hp (show Rd B d0 C from(b0 B h0.lt).trans h0)
 have O0:=Hp (show C.os=w.os/\C.tape=w.tape/\C.output=w.output from p▸⟨x.os,x.tape,x.output⟩)
 have N0:=Hp (fun k(d:k<b)(o:k≠B)=>(b0 k (by omega)).trans (L0.out k d o))
 have qu:=(box_kp HB.out k0.out (by decide)).cell
 have d1:=(box_kp HB.out K0.out (by decide)).cell
 have M0:=Hp (show MB C f R T S tx Q P j from K0.out _ _ _ _ HM.out (by decide))
 have E0:=Hp (show PatOwn C b j y from(p▸((own_kp HE.out k0.out (by decide)).alloc _)))
 have L:j.ownBlock≠some u0.heap.size:=fun h=>by
  have:=(own_kp HE.out k0.out (by decide)).lt _ h
  omega
 have a5:=Hp L
 have f1:u0.heap.size<C.heap.size:=(ZL X0.out)
 have e7:bR<u0.heap.size:=by omega
 have f6:b<=u0.heap.size:=by omega
 clear h0 x p b0 qw L d1
 go_wp2_with fail
 rw[d7.out]
 refine(c1.out _ R0.out).mono ?_
 rintro e u1 ⟨rfl,o,v⟩
 have k1:=Hp (v.kp R0.out (ts:=[188]) (by simp))
 have z1:=v.size
 have G:=Hp (k1.out _ _ _ _ X0.out (by decide))
 have e0:=Hp (show PatOwn u1 b j y from own_kp E0.out k1.out (by decide))
 have a8:=heap_cell G.out 1
 have e3:=heap_free G.out 1
 simp only[GZ2,GZ1,GZ0]at a8
 obtain⟨A,n⟩:=Nm (u1.setCell ⟨u0.heap.size,1,none⟩ (.int .i64 a1))
 have e6:=n.symm
 have c6:A.heap.size=u1.heap.size:=by subst n;simp
 have s1:∀k,k≠u0.heap.size->A.heap[k]? =u1.heap[k]?:=fun k d=>by rw[n];exact Below.heap_setCell _ _ _ _ d
 have X1:=Hp (show A.heap[u0.heap.size]? =some (.cells #[.int .i64 M,.int .i64 a1,.int .i64 0,.int .i64 0] 180 (0,0)) from by rw[n,heap_setCell_same u1 _ 1 _ _ _ G.out];rfl)
 have b8:Kp [188,180] u1 A:=n▸Kp.set G.out (by simp) 1 _
 have K1:=Hp (show Kp [188,180] w A from(K0.trans (k1.mono (by simp))).trans b8)
 have R1:=Hp (show Rd B c9 A from(s1 B (by omega)).trans o)
 have M1:=Hp (show MB A f R T S tx Q P j from K1.out _ _ _ _ HM.out (by decide))
 have E1:=Hp (show PatOwn A b j y from n▸ownsRow_setCell_other e0.out a5.out _)
 have N1:=Hp (fun k(d:k<b)(o:k≠B)=>(s1 k (by omega)).trans ((v.block k (by omega) o).trans (N0.out k d o)))
 have O1:=Hp (show A.os=w.os/\A.tape=w.tape/\A.output=w.output from n▸⟨v.os.trans O0.out.1,v.tape.trans O0.out.2.1,v.output.trans O0.out.2.2⟩)
 have f4:=(box_kp HB.out K1.out (by decide)).cell
 have f0:u0.heap.size<A.heap.size:=by omega
 clear o v n s1 c6 b8
 go_wp2_with fail
 refine(c2.out _ R1.out).mono ?_
 rintro e u2 ⟨rfl,h2,t⟩
 have k2:=Hp (t.kp R1.out (ts:=[188]) (by simp))
 have z2:=t.size
 have F:=Hp (k2.out _ _ _ _ X1.out (by decide))
 have d9:=Hp (show PatOwn u2 b j y from own_kp E1.out k2.out (by decide))
 have a7:=heap_cell F.out 2
 have e2:=heap_free F.out 2
 simp only[GZ2,GZ1,GZ0]at a7
 obtain⟨z,m⟩:=Nm (u2.setCell ⟨u0.heap.size,2,none⟩ (.int .i64 N))
 have e5:=m.symm
 have c5:z.heap.size=u2.heap.size:=by subst m;simp
 have s2:∀k,k≠u0.heap.size->z.heap[k]? =u2.heap[k]?:=fun k d=>by rw[m];exact Below.heap_setCell _ _ _ _ d
 have X2:=Hp (show z.heap[u0.heap.size]? =some (.cells #[.int .i64 M,.int .i64 a1,.int .i64 N,.int .i64 0] 180 (0,0)) from by rw[m,heap_setCell_same u2 _ 2 _ _ _ F.out];rfl)
 have b7:Kp [188,180] u2 z:=m▸Kp.set F.out (by simp) 2 _
 have K2:=Hp (show Kp [188,180] w z from(K1.trans (k2.mono (by simp))).trans b7)
 have R2:=Hp (show Rd B c8 z from(s2 B (by omega)).trans h2)
 have M2:=Hp (show MB z f R T S tx Q P j from K2.out _ _ _ _ HM.out (by decide))
 have E2:=Hp (show PatOwn z b j y from m▸ownsRow_setCell_other d9.out a5.out _)
 have N2:=Hp (fun k(d:k<b)(o:k≠B)=>(s2 k (by omega)).trans ((t.block k (by omega) o).trans (N1.out k d o)))
 have O2:=Hp (show z.os=w.os/\z.tape=w.tape/\z.output=w.output from m▸⟨t.os.trans O1.out.1,t.tape.trans O1.out.2.1,t.output.trans O1.out.2.2⟩)
 have f3:=(box_kp HB.out K2.out (by decide)).cell
 have e9:u0.heap.size<z.heap.size:=by omega
 clear h2 t m s2 c5 b7
 go_wp2_with fail
 refine(c3.out _ R2.out).mono ?_
 rintro e u3 ⟨rfl,h3,r⟩
 have k3:=Hp (r.kp R2.out (ts:=[188]) (by simp))
 have z3:=r.size
 have E:=Hp (k3.out _ _ _ _ X2.out (by decide))
 have d8:=Hp (show PatOwn u3 b j y from own_kp E2.out k3.out (by decide))
 have a6:=heap_cell E.out 3
 have e1:=heap_free E.out 3
 simp only[GZ2,GZ1,GZ0]at a6
 obtain⟨i,l⟩:=Nm (u3.setCell ⟨u0.heap.size,3,none⟩ (.int .i64 a3))
 have e4:=l.symm
 have c4:i.heap.size=u3.heap.size:=by subst l;simp
 have s3:∀k,k≠u0.heap.size->i.heap[k]? =u3.heap[k]?:=fun k d=>by rw[l];exact Below.heap_setCell _ _ _ _ d
 have X3:=Hp (show i.heap[u0.heap.size]? =some (.cells #[.int .i64 M,.int .i64 a1,.int .i64 N,.int .i64 a3] 180 (0,0)) from by rw[l,heap_setCell_same u3 _ 3 _ _ _ E.out];rfl)
 have b6:Kp [188,180] u3 i:=l▸Kp.set E.out (by simp) 3 _
 have K3:=Hp (show Kp [188,180] w i from(K2.trans (k3.mono (by simp))).trans b6)
 have R3:=Hp (show Rd B c7 i from(s3 B (by omega)).trans h3)
 have M3:=Hp (show MB i f R T S tx Q P j from K3.out _ _ _ _ HM.out (by decide))
 have E3:=Hp (show PatOwn i b j y from l▸ownsRow_setCell_other d8.out a5.out _)
 have N3:=Hp (fun k(d:k<b)(o:k≠B)=>(s3 k (by omega)).trans ((r.block k (by omega) o).trans (N2.out k d o)))
 have O3:=Hp (show i.os=w.os/\i.tape=w.tape/\i.output=w.output from l▸⟨r.os.trans O2.out.1,r.tape.trans O2.out.2.1,r.output.trans O2.out.2.2⟩)
 have f2:=(box_kp HB.out K3.out (by decide)).cell
 have e8:u0.heap.size<i.heap.size:=by omega
 clear h3 r l s3 c4 b6
 have m4:=heap_cell (show i.heap[f]? =_ from M3.out) 6
 have x0:=heap_cell X3.out 0
 have x1:=heap_cell X3.out 1
 have x2:=heap_cell X3.out 2
 have x3:=heap_cell X3.out 3
 simp only[GZ2,GZ1,GZ0]at m4 x0 x1 x2 x3
 have g0:b<=i.heap.size:=by omega
 have Z5:=Hp (show w.heap.size<=i.heap.size by omega)
 go_wp2_with (at_builtin;refine append_Pat i rfl _ _ rfl b j y ⟨M,a1,N,a3⟩ rfl rfl E3.out (by omega) (by omega) ?_;intro v' O q a4;have b9:=Hp q;obtain⟨g,d6,rfl⟩:=ownsRow_succ (show O.ownsRow b _ 4 v' (y.length+1) _ by have h:=q;unfold PatOwn at h;simpa using h);have HG:=Hp a4;have b1:some f≠j.ownBlock:=(fun h=>by have:=(E3.lt f h.symm).1;omega);have M7:=Hp (show MB O f R T S tx Q P j from(a4.block f (by simp;omega) b1).trans ((heap_alloc_old i _ (by omega)).trans M3.out));have p7:=heap_cell (show O.heap[f]? =_ from M7.out) 6;have f7:=heap_free (show O.heap[f]? =_ from M7.out) 6;simp only[GZ2,GZ1,GZ0]at p7;clear q a4 b1)
 go_end0
 have K7:=Hp (show Kp [188,70,180] w O from((K3.alloc _).trans (Kp.grown (ts:=[188,180]) HG.out (fun g hg=>by
  obtain⟨c',fz,h⟩:=own_kind (E3.alloc (.cells #[.int .i64 M,.int .i64 a1,.int .i64 N,.int .i64 a3] 180)) g hg
  exact⟨_,_,_,h,by simp⟩))).mono (by simp))
 have B7:=Hp (fun k(d:k<b)=>(HG.block k (by simp;omega) (fun h=>by have:=(E3.lt k h.symm).1;omega)).trans (heap_alloc_old i (.cells #[.int .i64 M,.int .i64 a1,.int .i64 N,.int .i64 a3] 180) (show k<i.heap.size by omega)))
 have S7:=HG.size
 refine⟨⟨_,rfl⟩,?_,K7.trans (Kp.set (show O.heap[f]? =_ from M7.out) (by simp) 6 _),?_,?_,?_,.slice (some ⟨g,0,none⟩) (y.length+1) d6,?_,?_⟩
 ·exact(Below.heap_setCell _ _ _ _ d5).trans ((B7.out B d4).trans R3.out)
 ·simp at S7 ⊢
  have:=Z5.out
  omega
 ·intro k d o h2
  rw[Below.heap_setCell _ _ _ _ h2,B7.out k d]
  exact N3.out k d o
 ·exact⟨HG.os.trans O3.out.1,HG.tape.trans O3.out.2.1,HG.output.trans O3.out.2.2⟩
 ·unfold MB
  rw[heap_setCell_same O f 6 _ _ _ M7.out]
  rfl
 ·exact ownsRow_setCell_below b9.out d3 _
end
end Go.Proofs.YtjiedaialianmaaGreat
