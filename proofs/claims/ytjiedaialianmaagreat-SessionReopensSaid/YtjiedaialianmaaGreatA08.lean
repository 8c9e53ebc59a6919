import Derived.Test.YtjiedaialianmaaGreatA05
import Derived.Test.YtjiedaialianmaaGreatA06
set_option maxRecDepth 100000
set_option maxHeartbeats 8000000
namespace Go.Proofs.YtjiedaialianmaaGreat
section
open Go.RowKit Go.Lib
theorem PI (l:List Exp):∀u∈l.flatMap Exp.cells,u.oneCell'=true:=by
 intro u hu
 obtain⟨x,_,hx⟩:=List.mem_flatMap.1 hu
 simp only[Exp.cells,List.mem_cons,List.not_mem_nil,or_false]at hx
 rcases hx with rfl|rfl<;>rfl
theorem U6 (A:Option Addr)(c:Nat)(l:List Exp)(w:World)(h:Row Exp.cells 2 w A l)(hl:l.length<=1000000):
  Calls Tryz.prog 152 #[.slice A l.length c] w fun e w'=>(∃A' c',e=.returned (.slice A' l.length c')/\ExpOwn w' w.heap.size (.slice A' l.length c') l)/\Below w.heap.size w w':=by
 have q:∀(w:World)(a:Option Addr)(n c n' c':Nat),(binOp .eql 22 (.slice a n c) (.slice none n' c')).run Tryz.prog w=.ok (.bool a.isNone) w:=fun w a n c n' c'=>Lib.run_eql_slice_nil w _ _ a n c n' c' Tryz.underlying22
 cases A with
 |none=>
  have h0:l=[]:=by
   cases l with
   |nil=>rfl
   |cons x r=>obtain⟨a,e,_⟩:=h.2 (by simp);cases e
  subst h0
  clear h
  go_enter Tryz.func152,Tryz.ntmps152
  go_wp2
  go_ret
  exact⟨⟨none,0,rfl,World.ownsRow_nil w _ _ _⟩,GZ4 _ _⟩
 |some ad=>
  obtain⟨i0,hi,hz0,hz1,hz2⟩:=info_parts Tryz.infoExp
  have H:=Hp (show Reads (w.alloc (.cells #[] 159)) (w.heap.size+1) 2 (some ad) l.length (l.flatMap Exp.cells) by
   have:=h.below ((GZ4 _ _).alloc (GZ3 _) (.cells #[] 159))
   unfold Row at this
   simpa using this)
  clear h
  go_enter Tryz.func152,Tryz.ntmps152
  go_wp2_with (at_builtin;refine eO (w.alloc (.cells #[] 159)) rfl _ _ 22 rfl w.heap.size 159 i0 (.agg #[.string ⟨#[]⟩,.int .i64 0]) 2 24 Tryz.underlying22 hi hz0 hz1 hz2 rfl (by decide) _ _ _ rfl (World.ownsRow_made w #[] 0 (GZ3 _) (Nat.zero_le _) rfl) (w.heap.size+1) (some ad) l.length c (l.flatMap Exp.cells) rfl H.out (PI l) (by unfold maxLen;omega) (by omega) (by simp) ?_;intro v' w1 hown hgrow _)
  go_ret
  obtain⟨A',c',hv⟩:=bG hown
  rw[Nat.zero_add]at hv
  subst hv
  exact⟨⟨A',c',rfl,by unfold ExpOwn;simpa using hown⟩,((GZ4 _ w).alloc (GZ3 _) _).grown hgrow (by simp) (iW (World.ownsRow_made w #[] 0 (GZ3 _) (Nat.zero_le _) rfl (e:=159) (size:=2)))⟩
theorem PY (l:List Imp):∀u∈l.flatMap Imp.cells,u.oneCell'=true:=by
 intro u hu
 obtain⟨x,_,hx⟩:=List.mem_flatMap.1 hu
 simp only[Imp.cells,List.mem_cons,List.not_mem_nil,or_false]at hx
 rcases hx with rfl|rfl|rfl|rfl<;>rfl
theorem Ea (A:Option Addr)(c:Nat)(l:List Imp)(w:World)(h:Row Imp.cells 4 w A l)(hl:l.length<=1000000):
  Calls Tryz.prog 193 #[.slice A l.length c] w fun e w'=>(∃A' c',e=.returned (.slice A' l.length c')/\ImpOwn w' w.heap.size (.slice A' l.length c') l)/\Below w.heap.size w w':=by
 have q:∀(w:World)(a:Option Addr)(n c n' c':Nat),(binOp .eql 67 (.slice a n c) (.slice none n' c')).run Tryz.prog w=.ok (.bool a.isNone) w:=fun w a n c n' c'=>Lib.run_eql_slice_nil w _ _ a n c n' c' Tryz.underlying67
 cases A with
 |none=>
  have h0:l=[]:=by
   cases l with
   |nil=>rfl
   |cons x r=>obtain⟨a,e,_⟩:=h.2 (by simp);cases e
  subst h0
  clear h
  go_enter Tryz.func193,Tryz.ntmps193
  go_wp2
  go_ret
  exact⟨⟨none,0,rfl,World.ownsRow_nil w _ _ _⟩,GZ4 _ _⟩
 |some ad=>
  obtain⟨i0,hi,hz0,hz1,hz2⟩:=info_parts Tryz.infoImp
  have H:=Hp (show Reads (w.alloc (.cells #[] 173)) (w.heap.size+1) 4 (some ad) l.length (l.flatMap Imp.cells) by
   have:=h.below ((GZ4 _ _).alloc (GZ3 _) (.cells #[] 173))
   unfold Row at this
   simpa using this)
  clear h
  go_enter Tryz.func193,Tryz.ntmps193
  go_wp2_with (at_builtin;refine eO (w.alloc (.cells #[] 173)) rfl _ _ 67 rfl w.heap.size 173 i0 (.agg #[.string ⟨#[]⟩,.string ⟨#[]⟩,.int .i64 0,.int .i64 0]) 4 48 Tryz.underlying67 hi hz0 hz1 hz2 rfl (by decide) _ _ _ rfl (World.ownsRow_made w #[] 0 (GZ3 _) (Nat.zero_le _) rfl) (w.heap.size+1) (some ad) l.length c (l.flatMap Imp.cells) rfl H.out (PY l) (by unfold maxLen;omega) (by omega) (by simp) ?_;intro v' w1 hown hgrow _)
  go_ret
  obtain⟨A',c',hv⟩:=bG hown
  rw[Nat.zero_add]at hv
  subst hv
  exact⟨⟨A',c',rfl,by unfold ImpOwn;simpa using hown⟩,((GZ4 _ w).alloc (GZ3 _) _).grown hgrow (by simp) (iW (World.ownsRow_made w #[] 0 (GZ3 _) (Nat.zero_le _) rfl (e:=173) (size:=4)))⟩
theorem P6 (l:List Pat):∀u∈l.flatMap Pat.cells,u.oneCell'=true:=by
 intro u hu
 obtain⟨x,_,hx⟩:=List.mem_flatMap.1 hu
 simp only[Pat.cells,List.mem_cons,List.not_mem_nil,or_false]at hx
 rcases hx with rfl|rfl|rfl|rfl<;>rfl
theorem EM (A:Option Addr)(c:Nat)(l:List Pat)(w:World)(h:Row Pat.cells 4 w A l)(hl:l.length<=1000000):
  Calls Tryz.prog 194 #[.slice A l.length c] w fun e w'=>(∃A' c',e=.returned (.slice A' l.length c')/\PatOwn w' w.heap.size (.slice A' l.length c') l)/\Below w.heap.size w w':=by
 have q:∀(w:World)(a:Option Addr)(n c n' c':Nat),(binOp .eql 68 (.slice a n c) (.slice none n' c')).run Tryz.prog w=.ok (.bool a.isNone) w:=fun w a n c n' c'=>Lib.run_eql_slice_nil w _ _ a n c n' c' Tryz.underlying68
 cases A with
 |none=>
  have h0:l=[]:=by
   cases l with
   |nil=>rfl
   |cons x r=>obtain⟨a,e,_⟩:=h.2 (by simp);cases e
  subst h0
  clear h
  go_enter Tryz.func194,Tryz.ntmps194
  go_wp2
  go_ret
  exact⟨⟨none,0,rfl,World.ownsRow_nil w _ _ _⟩,GZ4 _ _⟩
 |some ad=>
  obtain⟨i0,hi,hz0,hz1,hz2⟩:=info_parts Tryz.infoPat
  have H:=Hp (show Reads (w.alloc (.cells #[] 180)) (w.heap.size+1) 4 (some ad) l.length (l.flatMap Pat.cells) by
   have:=h.below ((GZ4 _ _).alloc (GZ3 _) (.cells #[] 180))
   unfold Row at this
   simpa using this)
  clear h
  go_enter Tryz.func194,Tryz.ntmps194
  go_wp2_with (at_builtin;refine eO (w.alloc (.cells #[] 180)) rfl _ _ 68 rfl w.heap.size 180 i0 (.agg #[.int .i64 0,.int .i64 0,.int .i64 0,.int .i64 0]) 4 32 Tryz.underlying68 hi hz0 hz1 hz2 rfl (by decide) _ _ _ rfl (World.ownsRow_made w #[] 0 (GZ3 _) (Nat.zero_le _) rfl) (w.heap.size+1) (some ad) l.length c (l.flatMap Pat.cells) rfl H.out (P6 l) (by unfold maxLen;omega) (by omega) (by simp) ?_;intro v' w1 hown hgrow _)
  go_ret
  obtain⟨A',c',hv⟩:=bG hown
  rw[Nat.zero_add]at hv
  subst hv
  exact⟨⟨A',c',rfl,by unfold PatOwn;simpa using hown⟩,((GZ4 _ w).alloc (GZ3 _) _).grown hgrow (by simp) (iW (World.ownsRow_made w #[] 0 (GZ3 _) (Nat.zero_le _) rfl (e:=180) (size:=4)))⟩
end
section
open Go.RowKit Go.Lib
theorem Tryz.PG :(Tryz.prog.info? 70).map (·.size)=some 7:=by kernel_rfl
structure Mod.own (m:Mod)(w:World)(base:Nat):Prop where
 ex:ExpOwn w base (.slice m.eA m.ex.length m.eC) m.ex
 im:ImpOwn w base (.slice m.iA m.im.length m.iC) m.im
 pa:PatOwn w base (.slice m.pA m.pa.length m.pC) m.pa
section
variable {m m':Mod} {w w':World} {base base':Nat}
theorem RH {size n:Nat}{e:TypeId}{v:Value}{xs:List Value}(h:w.ownsRow base e size v n xs)(hb:base'<=base):w.ownsRow base' e size v n xs:=by
 refine⟨h.1,?_⟩
 rcases h.2 with h0|⟨g,cap,cur,e1,e2,e3⟩
 ·exact .inl h0
 ·exact .inr ⟨g,cap,cur,e1,GY1 hb e2,e3⟩
theorem aO {size n:Nat}{e:TypeId}{v:Value}{xs:List Value}(h:w.ownsRow base e size v n xs)(hb:Below w.heap.size w w'):w'.ownsRow base e size v n xs:=own_same h fun g _ h2=>hb.block g h2
theorem Mod.own.kp {ts:List TypeId}(h:m.own w base)(hk:Kp ts w w')(h1:159 ∉ ts)(h2:173 ∉ ts)(h3:180 ∉ ts):m.own w' base:=⟨own_kp h.ex hk h1,own_kp h.im hk h2,own_kp h.pa hk h3⟩
theorem Mod.own.below (h:m.own w base)(hb:Below w.heap.size w w'):m.own w' base:=⟨aO h.ex hb,aO h.im hb,aO h.pa hb⟩
theorem Mod.own.le (h:m.own w base)(hb:base'<=base):m.own w base':=⟨RH h.ex hb,RH h.im hb,RH h.pa hb⟩
theorem Mod.own.ok (h:m.own w base)(hs:gI m m')(hk:m'.ok w'):m.ok w:=by
 obtain⟨nm,mj,mn,t,ex,im,pa,eA,eC,iA,iC,pA,pC⟩:=m
 obtain⟨nm',mj',mn',t',ex',im',pa',eA',eC',iA',iC',pA',pC'⟩:=m'
 obtain⟨h1,h2,h3,h4,h5,h6,h7⟩:=hs
 simp only at h1 h2 h3 h4 h5 h6 h7
 subst h1 h2 h3 h4 h5 h6 h7
 exact mk_ok h.ex h.im h.pa ⟨hk.ex.2.1,hk.ex.2.2,hk.im.2.1,hk.im.2.2,hk.pa.2,hk.name,hk.text⟩
end
theorem VH {W:World}{b:Nat}{v0 v1 v2 v3 v4 v5 v6:Value}{t:TypeId}(h:W.heap[b]? =some (.cells #[v0,v1,v2,v3,v4,v5,v6] t (0,0))):
  Hid (W.heap[b]? =some (.cells #[v0,v1,v2,v3,v4,v5,v6] t (0,0)))/\W.cell? ⟨b,0,none⟩=some v0/\W.cell? ⟨b,1,none⟩=some v1/\W.cell? ⟨b,2,none⟩=some v2/\W.cell? ⟨b,3,none⟩=some v3/\W.cell? ⟨b,4,none⟩=some v4/\W.cell? ⟨b,5,none⟩=some v5/\W.cell? ⟨b,6,none⟩=some v6/\W.frozen? ⟨b,4,none⟩=false/\W.frozen? ⟨b,5,none⟩=false/\W.frozen? ⟨b,6,none⟩=false:=
 ⟨Hp h,heap_cell h 0,heap_cell h 1,heap_cell h 2,heap_cell h 3,heap_cell h 4,heap_cell h 5,heap_cell h 6,heap_free h 4,heap_free h 5,heap_free h 6⟩
def J8 (m:Mod)(w:World)(W:World):Prop:=∃(w3:World)(A1:Option Addr)(k1:Nat)(A2:Option Addr)(k2:Nat)(A3:Option Addr)(k3:Nat),
 W=((w3.setCell ⟨w.heap.size,4,none⟩ (.slice A1 m.ex.length k1)).setCell ⟨w.heap.size,5,none⟩ (.slice A2 m.im.length k2)).setCell ⟨w.heap.size,6,none⟩ (.slice A3 m.pa.length k3)/\
 ExpOwn w3 (w.heap.size+2) (.slice A1 m.ex.length k1) m.ex/\ImpOwn w3 (w.heap.size+2) (.slice A2 m.im.length k2) m.im/\PatOwn w3 (w.heap.size+2) (.slice A3 m.pa.length k3) m.pa/\Below w.heap.size w w3/\
 w3.heap[w.heap.size]? =some (.cells #[.string m.name,.int .i64 m.major,.int .i64 m.minor,.string m.text,.slice m.eA m.ex.length m.eC,.slice m.iA m.im.length m.iC,.slice m.pA m.pa.length m.pC] 70 (0,0))/\w3.heap[w.heap.size+1]? =some (.cells #[.string ⟨#[]⟩,.int .i64 0,.int .i64 0,.string ⟨#[]⟩,.slice none 0 0,.slice none 0 0,.slice none 0 0] 70 (0,0))
theorem Ei (m:Mod)(w:World)(h:m.ok w)(hl:m.ex.length<=1000000/\m.im.length<=1000000/\m.pa.length<=1000000):
  Calls Tryz.prog 125 #[m.v] w fun e w'=>(∃m',e=.returned m'.v/\gI m' m/\m'.own w' w.heap.size)/\Below w.heap.size w w':=by
 obtain⟨w0,hw0⟩:=Nm (w.alloc (.cells #[.string m.name,.int .i64 m.major,.int .i64 m.minor,.string m.text,.slice m.eA m.ex.length m.eC,.slice m.iA m.im.length m.iC,.slice m.pA m.pa.length m.pC] 70))
 obtain⟨x0,hx0⟩:=Nm (w0.alloc (.cells #[.string ⟨#[]⟩,.int .i64 0,.int .i64 0,.string ⟨#[]⟩,.slice none 0 0,.slice none 0 0,.slice none 0 0] 70))
 have hB0:w0.heap[w.heap.size]? =some (.cells #[.string m.name,.int .i64 m.major,.int .i64 m.minor,.string m.text,.slice m.eA m.ex.length m.eC,.slice m.iA m.im.length m.iC,.slice m.pA m.pa.length m.pC] 70 (0,0)):=by rw[hw0];exact heap_alloc_new w _
 have hz0:w0.heap.size=w.heap.size+1:=by rw[hw0];simp
 have hB:x0.heap[w.heap.size]? =some (.cells #[.string m.name,.int .i64 m.major,.int .i64 m.minor,.string m.text,.slice m.eA m.ex.length m.eC,.slice m.iA m.im.length m.iC,.slice m.pA m.pa.length m.pC] 70 (0,0)):=by rw[hx0,heap_alloc_old w0 _ (by omega)];exact hB0
 have hR:x0.heap[w.heap.size+1]? =some (.cells #[.string ⟨#[]⟩,.int .i64 0,.int .i64 0,.string ⟨#[]⟩,.slice none 0 0,.slice none 0 0,.slice none 0 0] 70 (0,0)):=by rw[hx0,<-hz0];exact heap_alloc_new w0 _
 have hz:x0.heap.size=w.heap.size+2:=by rw[hx0];simp;omega
 have hb0:Below w.heap.size w x0:=by rw[hx0,hw0];exact(ZB).alloc (by simp) _
 have H0:=Hp hb0
 have HB:=Hp hB
 have HR:=Hp hR
 have HZ:=Hp hz
 have c1:=Hp (fun W(hb:Below w.heap.size w W)=>U6 m.eA m.eC m.ex W (h.ex.1.below hb) hl.1)
 have c2:=Hp (fun W(hb:Below w.heap.size w W)=>Ea m.iA m.iC m.im W (h.im.1.below hb) hl.2.1)
 have c3:=Hp (fun W(hb:Below w.heap.size w W)=>EM m.pA m.pC m.pa W (h.pa.1.below hb) hl.2.2)
 have hw0':=hw0.symm
 have hx0':=hx0.symm
 have a4:=heap_cell hB 4
 have a5:=heap_cell hB 5
 have a6:=heap_cell hB 6
 simp only[GZ2,GZ0,GZ1]at a4 a5 a6
 clear hw0 hx0 hB0 hB hR hz hb0 h hl
 go_enter Tryz.func125,Tryz.ntmps125
 go_upto_region 1 with fail
 go_cut [3] from 4 to 14 (fun _ wx=>J8 m w wx)
 case first=>
  go_region_with (first
   |(go_at_call 152;(with_reducible refine(c1.out _ H0.out.drew).mono ?_);rintro e w1 ⟨⟨A1,k1,rfl,ho1⟩,hb1⟩
     have HO1:=Hp ho1
     have HK1:=Hp hb1
     have HB1:=Hp (H0.drew.trans (hb1.mono (by have:=HZ.out;simp;omega)))
     obtain⟨HC1,_,_,_,_,_,b5,b6,_,_,_⟩:=VH ((hb1.block w.heap.size (by have:=HZ.out;simp;omega)).trans HB.out)
     clear ho1 hb1)
   |(go_at_call 193;(with_reducible refine(c2.out _ HB1.out).mono ?_);rintro e w2 ⟨⟨A2,k2,rfl,ho2⟩,hb2⟩
     have HO2:=Hp ho2
     have HK2:=Hp hb2
     have HB2:=Hp (HB1.trans (hb2.mono HB1.size))
     obtain⟨HC2,_,_,_,_,_,_,d6,_,_,_⟩:=VH ((hb2.block w.heap.size (ZL HC1.out)).trans HC1.out)
     clear ho2 hb2)
   |(go_at_call 194;(with_reducible refine(c3.out _ HB2.out).mono ?_);rintro e w3 ⟨⟨A3,k3,rfl,ho3⟩,hb3⟩
     have HO3:=Hp ho3
     have HK3:=Hp hb3
     obtain⟨HC3,_,_,_,_,e4,e5,e6,j4,j5,j6⟩:=VH ((hb3.block w.heap.size (ZL HC2.out)).trans HC2.out)
     have HB3:=Hp (HB2.trans (hb3.mono HB2.size))
     have HMID:=Hp (show J8 m w (((w3.setCell ⟨w.heap.size,4,none⟩ (.slice A1 m.ex.length k1)).setCell ⟨w.heap.size,5,none⟩ (.slice A2 m.im.length k2)).setCell ⟨w.heap.size,6,none⟩ (.slice A3 m.pa.length k3)) from
      ⟨w3,A1,k1,A2,k2,A3,k3,rfl,RH (aO (aO HO1.out HK2.out) HK3.out) (Nat.le_of_eq HZ.symm),RH (aO HO2.out HK3.out) (GY1 (Nat.le_of_eq HZ.symm) HK1.size),RH HO3.out (GY1 (Nat.le_of_eq HZ.symm) (GY1 HK1.size HK2.size)),HB3.out,HC3.out,
       (HK3.block _ (GY0 (ZL HR.out) (GY1 HK1.size HK2.size))).trans ((HK2.block _ (GY0 (ZL HR.out) HK1.size)).trans ((HK1.block _ (ZL HR.out)).trans HR.out))⟩)
     clear ho3 hb3))
  all_goals(
   have hm:J8 m w (((w3.setCell ⟨w.heap.size,4,none⟩ (.slice A1 m.ex.length k1)).setCell ⟨w.heap.size,5,none⟩ (.slice A2 m.im.length k2)).setCell ⟨w.heap.size,6,none⟩ (.slice A3 m.pa.length k3)):=HMID.out
   clear b5 b6 d6 e4 e5 e6 j4 j5 j6 a4 a5 a6
   go_wp2_with fail
   go_meet
   exact hm)
 case rest=>
  obtain⟨w3,A1,k1,A2,k2,A3,k3,rfl,h1,h2,h3,hb,hB,hR⟩:=hcut
  have HB3:=Hp hb
  have H1:=Hp h1
  have H2:=Hp h2
  have H3:=Hp h3
  obtain⟨HCB,e0,e1,e2,e3,e4,e5,e6,j4,j5,j6⟩:=VH hB
  obtain⟨HCR,r0,r1,r2,r3,r4,r5,r6,q4,q5,q6⟩:=VH hR
  have q0:=heap_free hR 0
  have q1:=heap_free hR 1
  have q2:=heap_free hR 2
  have q3:=heap_free hR 3
  have hs3:w.heap.size+2<=w3.heap.size:=by have:=(ZL hR);omega
  clear h1 h2 h3 hb hB hR a4 a5 a6 c1 c2 c3 hw0' hx0'
  go_wp2_with fail
  obtain⟨W,hW⟩:∃W,W=((w3.setCell ⟨w.heap.size,4,none⟩ (.slice A1 m.ex.length k1)).setCell ⟨w.heap.size,5,none⟩ (.slice A2 m.im.length k2)).setCell ⟨w.heap.size,6,none⟩ (.slice A3 m.pa.length k3):=⟨_,rfl⟩
  have ho1:Only w.heap.size w3 W:=hW▸((Only.set 4 _).trans (Only.set 5 _)).trans (Only.set 6 _)
  rw[<-hW]
  obtain⟨hg,ho⟩:=set7 ((ho1.block (w.heap.size+1) (by omega) (by omega)).trans HCR.out) (.string m.name) (.int .i64 m.major) (.int .i64 m.minor) (.string m.text) (.slice A1 m.ex.length k1) (.slice A2 m.im.length k2) (.slice A3 m.pa.length k3)
  refine bodyPost_ret (results_cell_row rfl _ _ (w.heap.size+1) 70 _ (0,0) _ rfl hg Tryz.underlying70 rfl Tryz.PG) rfl ?_
  have hk:∀g,w.heap.size+2<=g->g<w3.heap.size->_=w3.heap[g]?:=fun g h1 h2=>(ho.block g (GY0 h2 ho1.size) (by omega)).trans (ho1.block g h2 (by omega))
  refine⟨⟨⟨m.name,m.major,m.minor,m.text,m.ex,m.im,m.pa,A1,k1,A2,k2,A3,k3⟩,rfl,⟨rfl,rfl,rfl,rfl,rfl,rfl,rfl⟩,⟨RH (own_same H1.out hk) (by omega),RH (own_same H2.out hk) (by omega),RH (own_same H3.out hk) (by omega)⟩⟩,(HB3.trans (ho1.below (by omega))).trans ((ho.below (by have:=ho1.size;omega)).mono (by omega))⟩
end
section
open Go.RowKit
def MB (W:World)(bM:Nat)(nm:ByteArray)(mj mn:Int)(tx:ByteArray)(vE vI vP:Value):Prop:=W.heap[bM]? =some (.cells #[.string nm,.int .i64 mj,.int .i64 mn,.string tx,vE,vI,vP] 70 (0,0))
theorem Rd.kp {ts:List TypeId}{B:Nat}{st:Rest}{w w':World}(h:Rd B st w)(hk:Kp ts w w')(ht:188 ∉ ts):Rd B st w':=hk _ _ _ _ h ht
theorem NQ (B bR bM base:Nat)(st:Rest)(nm tx:ByteArray)(mj mn:Int)(vE vI vP:Value)(es:List Exp)(w:World)(hR:Rd B st w)(hB:Boxed w bR 186 (.pointer (some ⟨B,0,none⟩)))(hM:MB w bM nm mj mn tx vE vI vP)(hE:ExpOwn w base vE es)
  (hl:(left st).length<=big) (hes:es.length<=1000) (hb1:B<base) (hb2:bM<base) (hbw:base<=w.heap.size):
  Calls Tryz.prog 131 #[.pointer (some ⟨bR,0,none⟩),.pointer (some ⟨bM,0,none⟩)] w fun e w'=>(∃u,e=.returned u)/\
   Rd B (gF st).2 w'/\Kp [188,70,159] w w'/\w.heap.size<=w'.heap.size/\(∀k,k<base->k≠B->k≠bM->w'.heap[k]? =w.heap[k]?)/\(w'.os=w.os/\w'.tape=w.tape/\w'.output=w.output)/\∃v',MB w' bM nm mj mn tx v' vI vP/\ExpOwn w' base v' (es++[(gF st).1]):=by
 have hl0:=hl
 have c0:=Hp (fun W hW=>rJ B st W hW hl0)
 have hl1:(left (nam st).2).length<=big:=dB _ (dB 1 hl0)
 have c1:=Hp (fun W hW=>eY B (nam st).2 2 W hW hl1 (by omega) (by omega))
 change Hid (∀W,_->Calls _ _ #[_,.int .i64 2] W _)at c1
 have hl2:(left (aI 2 (nam st).2).2).length<=big:=dB 2 hl1
 have hx:gF st=(⟨sof (nam st).1,(aI 2 (nam st).2).1⟩,(aI 2 (nam st).2).2):=rfl
 rw[hx]
 obtain⟨a1,ha1⟩:∃a,a=(aI 2 (nam st).2).1:=⟨_,rfl⟩
 rw[<-ha1]at c1 ⊢
 obtain⟨st2,hst2⟩:∃s,s=(aI 2 (nam st).2).2:=⟨_,rfl⟩
 rw[<-hst2]at c1 ⊢
 obtain⟨a0,ha0⟩:=Nm (sof (nam st).1)
 rw[<-ha0]at c0 ⊢
 obtain⟨st1,hst1⟩:∃s,s=(nam st).2:=⟨_,rfl⟩
 rw[<-hst1]at c0 c1
 have HB:=Hp hB
 have HM:=Hp hM
 have HE:=Hp hE
 have hbR:=hB.lt
 have HR:=Hp hR
 have qw:=hB.cell
 have hBM:B≠bM:=heap_ne (show w.heap[B]? =_ from hR) (show w.heap[bM]? =_ from hM) (by decide)
 clear hx hl hR hB hM hE ha0 hst1 hl0 ha1 hst2 hl1 hl2
 go_enter Tryz.func131,Tryz.ntmps131
 go_wp2_with fail
 refine(c0.out _ HR.out).mono ?_
 rintro e u0 ⟨rfl,h0,ho0⟩
 have k0:=Hp (ho0.kp HR.out (ts:=[188]) (by simp))
 have z0:=ho0.size
 have L0:=Hp (fun k(hk:k<base)(h1:k≠B)=>ho0.block k (by omega) h1)
 obtain⟨v0,hv0⟩:=Nm (u0.alloc (.cells #[.string a0,.int .i64 0] 159))
 have HV0:=Hp hv0.symm
 have b0:∀k,k<u0.heap.size->v0.heap[k]? =u0.heap[k]?:=fun k hk=>hv0▸heap_alloc_old u0 _ hk
 have X0:=Hp (show v0.heap[u0.heap.size]? =some (.cells #[.string a0,.int .i64 0] 159 (0,0)) from hv0▸heap_alloc_new _ _)
 have K0:=Hp (show Kp [188,159] w v0 from hv0▸((k0.out.alloc _).mono (by simp)))
 have R0:=Hp (show Rd B st1 v0 from(b0 B h0.lt).trans h0)
 have O0:=Hp (show v0.os=w.os/\v0.tape=w.tape/\v0.output=w.output from hv0▸⟨ho0.os,ho0.tape,ho0.output⟩)
 have N0:=Hp (fun k(hk:k<base)(h1:k≠B)=>(b0 k (by omega)).trans (L0.out k hk h1))
 have qu:=(box_kp HB.out k0.out (by decide)).cell
 have q0v:=(box_kp HB.out K0.out (by decide)).cell
 have M0:=Hp (show MB v0 bM nm mj mn tx vE vI vP from K0.out _ _ _ _ HM.out (by decide))
 have E0:=Hp (show ExpOwn v0 base vE es from(hv0▸((own_kp HE.out k0.out (by decide)).alloc _)))
 have hEne:vE.ownBlock≠some u0.heap.size:=fun h=>by
  have:=(own_kp HE.out k0.out (by decide)).lt _ h
  omega
 have HEN:=Hp hEne
 have y0z:u0.heap.size<v0.heap.size:=(ZL X0.out)
 have hbR2:bR<u0.heap.size:=by omega
 have hbx:base<=u0.heap.size:=by omega
 clear h0 ho0 hv0 b0 qw hEne q0v
 go_wp2_with fail
 rw[HV0.out]
 refine(c1.out _ R0.out).mono ?_
 rintro e u1 ⟨rfl,h1,ho1⟩
 have k1:=Hp (ho1.kp R0.out (ts:=[188]) (by simp))
 have z1:=ho1.size
 have XU1:=Hp (k1.out _ _ _ _ X0.out (by decide))
 have EU1:=Hp (show ExpOwn u1 base vE es from own_kp E0.out k1.out (by decide))
 have p0_1:=heap_cell XU1.out 1
 have p1_1:=heap_free XU1.out 1
 simp only[GZ2,GZ1,GZ0]at p0_1
 obtain⟨v1,hv1⟩:=Nm (u1.setCell ⟨u0.heap.size,1,none⟩ (.int .i64 a1))
 have hv1':=hv1.symm
 have zz1:v1.heap.size=u1.heap.size:=by subst hv1;simp
 have s1:∀k,k≠u0.heap.size->v1.heap[k]? =u1.heap[k]?:=fun k hk=>by rw[hv1];exact Below.heap_setCell _ _ _ _ hk
 have X1:=Hp (show v1.heap[u0.heap.size]? =some (.cells #[.string a0,.int .i64 a1] 159 (0,0)) from by rw[hv1,heap_setCell_same u1 _ 1 _ _ _ XU1.out];rfl)
 have KK1:Kp [188,159] u1 v1:=hv1▸Kp.set XU1.out (by simp) 1 _
 have K1:=Hp (show Kp [188,159] w v1 from(K0.trans (k1.mono (by simp))).trans KK1)
 have R1:=Hp (show Rd B st2 v1 from(s1 B (by omega)).trans h1)
 have M1:=Hp (show MB v1 bM nm mj mn tx vE vI vP from K1.out _ _ _ _ HM.out (by decide))
 have E1:=Hp (show ExpOwn v1 base vE es from hv1▸ownsRow_setCell_other EU1.out HEN.out _)
 have N1:=Hp (fun k(hk:k<base)(h1:k≠B)=>(s1 k (by omega)).trans ((ho1.block k (by omega) h1).trans (N0.out k hk h1)))
 have O1:=Hp (show v1.os=w.os/\v1.tape=w.tape/\v1.output=w.output from hv1▸⟨ho1.os.trans O0.out.1,ho1.tape.trans O0.out.2.1,ho1.output.trans O0.out.2.2⟩)
 have qv1:=(box_kp HB.out K1.out (by decide)).cell
 have y1z:u0.heap.size<v1.heap.size:=by omega
 clear h1 ho1 hv1 s1 zz1 KK1
 have m4:=heap_cell (show v1.heap[bM]? =_ from M1.out) 4
 have x0:=heap_cell X1.out 0
 have x1:=heap_cell X1.out 1
 simp only[GZ2,GZ1,GZ0]at m4 x0 x1
 have hb5:base<=v1.heap.size:=by omega
 have Z5:=Hp (show w.heap.size<=v1.heap.size by omega)
 go_wp2_with (at_builtin;refine append_Exp v1 rfl _ _ rfl base vE es ⟨a0,a1⟩ rfl rfl E1.out (by omega) (by omega) ?_;intro v' w7 hown7 hg7;have HOWN:=Hp hown7;obtain⟨g,cap,rfl⟩:=ownsRow_succ (show w7.ownsRow base _ 2 v' (es.length+1) _ by have h:=hown7;unfold ExpOwn at h;simpa using h);have HG:=Hp hg7;have hne:some bM≠vE.ownBlock:=(fun h=>by have:=(E1.lt bM h.symm).1;omega);have M7:=Hp (show MB w7 bM nm mj mn tx vE vI vP from(hg7.block bM (by simp;omega) hne).trans ((heap_alloc_old v1 _ (by omega)).trans M1.out));have p7:=heap_cell (show w7.heap[bM]? =_ from M7.out) 4;have f7:=heap_free (show w7.heap[bM]? =_ from M7.out) 4;simp only[GZ2,GZ1,GZ0]at p7;clear hown7 hg7 hne)
 go_end0
 have K7:=Hp (show Kp [188,70,159] w w7 from((K1.alloc _).trans (Kp.grown (ts:=[188,159]) HG.out (fun g hg=>by
  obtain⟨c',fz,h⟩:=own_kind (E1.alloc (.cells #[.string a0,.int .i64 a1] 159)) g hg
  exact⟨_,_,_,h,by simp⟩))).mono (by simp))
 have B7:=Hp (fun k(hk:k<base)=>(HG.block k (by simp;omega) (fun h=>by have:=(E1.lt k h.symm).1;omega)).trans (heap_alloc_old v1 (.cells #[.string a0,.int .i64 a1] 159) (show k<v1.heap.size by omega)))
 have S7:=HG.size
 refine⟨⟨_,rfl⟩,?_,K7.trans (Kp.set (show w7.heap[bM]? =_ from M7.out) (by simp) 4 _),?_,?_,?_,.slice (some ⟨g,0,none⟩) (es.length+1) cap,?_,?_⟩
 ·exact(Below.heap_setCell _ _ _ _ hBM).trans ((B7.out B hb1).trans R1.out)
 ·simp at S7 ⊢
  have:=Z5.out
  omega
 ·intro k hk h1 h2
  rw[Below.heap_setCell _ _ _ _ h2,B7.out k hk]
  exact N1.out k hk h1
 ·exact⟨HG.os.trans O1.out.1,HG.tape.trans O1.out.2.1,HG.output.trans O1.out.2.2⟩
 ·unfold MB
  rw[heap_setCell_same w7 bM 4 _ _ _ M7.out]
  rfl
 ·exact ownsRow_setCell_below HOWN.out hb2 _
theorem MX (B bR bM base:Nat)(st:Rest)(nm tx:ByteArray)(mj mn:Int)(vE vI vP:Value)(es:List Imp)(w:World)(hR:Rd B st w)(hB:Boxed w bR 186 (.pointer (some ⟨B,0,none⟩)))(hM:MB w bM nm mj mn tx vE vI vP)(hE:ImpOwn w base vI es)
  (hl:(left st).length<=big) (hes:es.length<=1000) (hb1:B<base) (hb2:bM<base) (hbw:base<=w.heap.size):
  Calls Tryz.prog 132 #[.pointer (some ⟨bR,0,none⟩),.pointer (some ⟨bM,0,none⟩)] w fun e w'=>(∃u,e=.returned u)/\
   Rd B (Ro st).2 w'/\Kp [188,70,173] w w'/\w.heap.size<=w'.heap.size/\(∀k,k<base->k≠B->k≠bM->w'.heap[k]? =w.heap[k]?)/\(w'.os=w.os/\w'.tape=w.tape/\w'.output=w.output)/\∃v',MB w' bM nm mj mn tx vE v' vP/\ImpOwn w' base v' (es++[(Ro st).1]):=by
 have hl0:=hl
 have c0:=Hp (fun W hW=>rJ B st W hW hl0)
 have hl1:(left (nam st).2).length<=big:=dB _ (dB 1 hl0)
 have c1:=Hp (fun W hW=>rJ B (nam st).2 W hW hl1)
 have hl2:(left (nam (nam st).2).2).length<=big:=dB _ (dB 1 hl1)
 have c2:=Hp (fun W hW=>eY B (nam (nam st).2).2 1 W hW hl2 (by omega) (by omega))
 change Hid (∀W,_->Calls _ _ #[_,.int .i64 1] W _)at c2
 have hl3:(left (aI 1 (nam (nam st).2).2).2).length<=big:=dB 1 hl2
 have c3:=Hp (fun W hW=>eY B (aI 1 (nam (nam st).2).2).2 1 W hW hl3 (by omega) (by omega))
 change Hid (∀W,_->Calls _ _ #[_,.int .i64 1] W _)at c3
 have hl4:(left (aI 1 (aI 1 (nam (nam st).2).2).2).2).length<=big:=dB 1 hl3
 have hx:Ro st=(⟨sof (nam st).1,sof (nam (nam st).2).1,(aI 1 (nam (nam st).2).2).1,(aI 1 (aI 1 (nam (nam st).2).2).2).1⟩,(aI 1 (aI 1 (nam (nam st).2).2).2).2):=rfl
 rw[hx]
 obtain⟨a3,ha3⟩:∃a,a=(aI 1 (aI 1 (nam (nam st).2).2).2).1:=⟨_,rfl⟩
 rw[<-ha3]at c3 ⊢
 obtain⟨st4,hst4⟩:∃s,s=(aI 1 (aI 1 (nam (nam st).2).2).2).2:=⟨_,rfl⟩
 rw[<-hst4]at c3 ⊢
 obtain⟨a2,ha2⟩:∃a,a=(aI 1 (nam (nam st).2).2).1:=⟨_,rfl⟩
 rw[<-ha2]at c2 ⊢
 obtain⟨st3,hst3⟩:∃s,s=(aI 1 (nam (nam st).2).2).2:=⟨_,rfl⟩
 rw[<-hst3]at c2 c3
 obtain⟨a1,ha1⟩:=Nm (sof (nam (nam st).2).1)
 rw[<-ha1]at c1 ⊢
 obtain⟨st2,hst2⟩:∃s,s=(nam (nam st).2).2:=⟨_,rfl⟩
 rw[<-hst2]at c1 c2
 obtain⟨a0,ha0⟩:=Nm (sof (nam st).1)
 rw[<-ha0]at c0 ⊢
 obtain⟨st1,hst1⟩:∃s,s=(nam st).2:=⟨_,rfl⟩
 rw[<-hst1]at c0 c1
 have HB:=Hp hB
 have HM:=Hp hM
 have HE:=Hp hE
 have hbR:=hB.lt
 have HR:=Hp hR
 have qw:=hB.cell
 have hBM:B≠bM:=heap_ne (show w.heap[B]? =_ from hR) (show w.heap[bM]? =_ from hM) (by decide)
 clear hx hl hR hB hM hE ha0 hst1 hl0 ha1 hst2 hl1 ha2 hst3 hl2 ha3 hst4 hl3 hl4
 go_enter Tryz.func132,Tryz.ntmps132
 go_wp2_with fail
 refine(c0.out _ HR.out).mono ?_
 rintro e u0 ⟨rfl,h0,ho0⟩
 have k0:=Hp (ho0.kp HR.out (ts:=[188]) (by simp))
 have z0:=ho0.size
 have L0:=Hp (fun k(hk:k<base)(h1:k≠B)=>ho0.block k (by omega) h1)
 obtain⟨v0,hv0⟩:=Nm (u0.alloc (.cells #[.string a0,.string ⟨#[]⟩,.int .i64 0,.int .i64 0] 173))
 have HV0:=Hp hv0.symm
 have b0:∀k,k<u0.heap.size->v0.heap[k]? =u0.heap[k]?:=fun k hk=>hv0▸heap_alloc_old u0 _ hk
 have X0:=Hp (show v0.heap[u0.heap.size]? =some (.cells #[.string a0,.string ⟨#[]⟩,.int .i64 0,.int .i64 0] 173 (0,0)) from hv0▸heap_alloc_new _ _)
 have K0:=Hp (show Kp [188,173] w v0 from hv0▸((k0.out.alloc _).mono (by simp)))
 have R0:=Hp (show Rd B st1 v0 from(b0 B h0.lt).trans h0)
 have O0:=Hp (show v0.os=w.os/\v0.tape=w.tape/\v0.output=w.output from hv0▸⟨ho0.os,ho0.tape,ho0.output⟩)
 have N0:=Hp (fun k(hk:k<base)(h1:k≠B)=>(b0 k (by omega)).trans (L0.out k hk h1))
 have qu:=(box_kp HB.out k0.out (by decide)).cell
 have q0v:=(box_kp HB.out K0.out (by decide)).cell
 have M0:=Hp (show MB v0 bM nm mj mn tx vE vI vP from K0.out _ _ _ _ HM.out (by decide))
 have E0:=Hp (show ImpOwn v0 base vI es from(hv0▸((own_kp HE.out k0.out (by decide)).alloc _)))
 have hEne:vI.ownBlock≠some u0.heap.size:=fun h=>by
  have:=(own_kp HE.out k0.out (by decide)).lt _ h
  omega
 have HEN:=Hp hEne
 have y0z:u0.heap.size<v0.heap.size:=(ZL X0.out)
 have hbR2:bR<u0.heap.size:=by omega
 have hbx:base<=u0.heap.size:=by omega
 clear h0 ho0 hv0 b0 qw hEne q0v
 go_wp2_with fail
 rw[HV0.out]
 refine(c1.out _ R0.out).mono ?_
 rintro e u1 ⟨rfl,h1,ho1⟩
 have k1:=Hp (ho1.kp R0.out (ts:=[188]) (by simp))
 have z1:=ho1.size
 have XU1:=Hp (k1.out _ _ _ _ X0.out (by decide))
 have EU1:=Hp (show ImpOwn u1 base vI es from own_kp E0.out k1.out (by decide))
 have p0_1:=heap_cell XU1.out 1
 have p1_1:=heap_free XU1.out 1
 simp only[GZ2,GZ1,GZ0]at p0_1
 obtain⟨v1,hv1⟩:=Nm (u1.setCell ⟨u0.heap.size,1,none⟩ (.string a1))
 have hv1':=hv1.symm
 have zz1:v1.heap.size=u1.heap.size:=by subst hv1;simp
 have s1:∀k,k≠u0.heap.size->v1.heap[k]? =u1.heap[k]?:=fun k hk=>by rw[hv1];exact Below.heap_setCell _ _ _ _ hk
 have X1:=Hp (show v1.heap[u0.heap.size]? =some (.cells #[.string a0,.string a1,.int .i64 0,.int .i64 0] 173 (0,0)) from by rw[hv1,heap_setCell_same u1 _ 1 _ _ _ XU1.out];rfl)
 have KK1:Kp [188,173] u1 v1:=hv1▸Kp.set XU1.out (by simp) 1 _
 have K1:=Hp (show Kp [188,173] w v1 from(K0.trans (k1.mono (by simp))).trans KK1)
 have R1:=Hp (show Rd B st2 v1 from(s1 B (by omega)).trans h1)
 have M1:=Hp (show MB v1 bM nm mj mn tx vE vI vP from K1.out _ _ _ _ HM.out (by decide))
 have E1:=Hp (show ImpOwn v1 base vI es from hv1▸ownsRow_setCell_other EU1.out HEN.out _)
 have N1:=Hp (fun k(hk:k<base)(h1:k≠B)=>(s1 k (by omega)).trans ((ho1.block k (by omega) h1).trans (N0.out k hk h1)))
 have O1:=Hp (show v1.os=w.os/\v1.tape=w.tape/\v1.output=w.output from hv1▸⟨ho1.os.trans O0.out.1,ho1.tape.trans O0.out.2.1,ho1.output.trans O0.out.2.2⟩)
 have qv1:=(box_kp HB.out K1.out (by decide)).cell
 have y1z:u0.heap.size<v1.heap.size:=by omega
 clear h1 ho1 hv1 s1 zz1 KK1
 go_wp2_with fail
 refine(c2.out _ R1.out).mono ?_
 rintro e u2 ⟨rfl,h2,ho2⟩
 have k2:=Hp (ho2.kp R1.out (ts:=[188]) (by simp))
 have z2:=ho2.size
 have XU2:=Hp (k2.out _ _ _ _ X1.out (by decide))
 have EU2:=Hp (show ImpOwn u2 base vI es from own_kp E1.out k2.out (by decide))
 have p0_2:=heap_cell XU2.out 2
 have p1_2:=heap_free XU2.out 2
 simp only[GZ2,GZ1,GZ0]at p0_2
 obtain⟨v2,hv2⟩:=Nm (u2.setCell ⟨u0.heap.size,2,none⟩ (.int .i64 a2))
 have hv2':=hv2.symm
 have zz2:v2.heap.size=u2.heap.size:=by subst hv2;simp
 have s2:∀k,k≠u0.heap.size->v2.heap[k]? =u2.heap[k]?:=fun k hk=>by rw[hv2];exact Below.heap_setCell _ _ _ _ hk
 have X2:=Hp (show v2.heap[u0.heap.size]? =some (.cells #[.string a0,.string a1,.int .i64 a2,.int .i64 0] 173 (0,0)) from by rw[hv2,heap_setCell_same u2 _ 2 _ _ _ XU2.out];rfl)
 have KK2:Kp [188,173] u2 v2:=hv2▸Kp.set XU2.out (by simp) 2 _
 have K2:=Hp (show Kp [188,173] w v2 from(K1.trans (k2.mono (by simp))).trans KK2)
 have R2:=Hp (show Rd B st3 v2 from(s2 B (by omega)).trans h2)
 have M2:=Hp (show MB v2 bM nm mj mn tx vE vI vP from K2.out _ _ _ _ HM.out (by decide))
 have E2:=Hp (show ImpOwn v2 base vI es from hv2▸ownsRow_setCell_other EU2.out HEN.out _)
 have N2:=Hp (fun k(hk:k<base)(h1:k≠B)=>(s2 k (by omega)).trans ((ho2.block k (by omega) h1).trans (N1.out k hk h1)))
 have O2:=Hp (show v2.os=w.os/\v2.tape=w.tape/\v2.output=w.output from hv2▸⟨ho2.os.trans O1.out.1,ho2.tape.trans O1.out.2.1,ho2.output.trans O1.out.2.2⟩)
 have qv2:=(box_kp HB.out K2.out (by decide)).cell
 have y2z:u0.heap.size<v2.heap.size:=by omega
 clear h2 ho2 hv2 s2 zz2 KK2
 go_wp2_with fail
 refine(c3.out _ R2.out).mono ?_
 rintro e u3 ⟨rfl,h3,ho3⟩
 have k3:=Hp (ho3.kp R2.out (ts:=[188]) (by simp))
 have z3:=ho3.size
 have XU3:=Hp (k3.out _ _ _ _ X2.out (by decide))
 have EU3:=Hp (show ImpOwn u3 base vI es from own_kp E2.out k3.out (by decide))
 have p0_3:=heap_cell XU3.out 3
 have p1_3:=heap_free XU3.out 3
 simp only[GZ2,GZ1,GZ0]at p0_3
 obtain⟨v3,hv3⟩:=Nm (u3.setCell ⟨u0.heap.size,3,none⟩ (.int .i64 a3))
 have hv3':=hv3.symm
 have zz3:v3.heap.size=u3.heap.size:=by subst hv3;simp
 have s3:∀k,k≠u0.heap.size->v3.heap[k]? =u3.heap[k]?:=fun k hk=>by rw[hv3];exact Below.heap_setCell _ _ _ _ hk
 have X3:=Hp (show v3.heap[u0.heap.size]? =some (.cells #[.string a0,.string a1,.int .i64 a2,.int .i64 a3] 173 (0,0)) from by rw[hv3,heap_setCell_same u3 _ 3 _ _ _ XU3.out];rfl)
 have KK3:Kp [188,173] u3 v3:=hv3▸Kp.set XU3.out (by simp) 3 _
 have K3:=Hp (show Kp [188,173] w v3 from(K2.trans (k3.mono (by simp))).trans KK3)
 have R3:=Hp (show Rd B st4 v3 from(s3 B (by omega)).trans h3)
 have M3:=Hp (show MB v3 bM nm mj mn tx vE vI vP from K3.out _ _ _ _ HM.out (by decide))
 have E3:=Hp (show ImpOwn v3 base vI es from hv3▸ownsRow_setCell_other EU3.out HEN.out _)
 have N3:=Hp (fun k(hk:k<base)(h1:k≠B)=>(s3 k (by omega)).trans ((ho3.block k (by omega) h1).trans (N2.out k hk h1)))
 have O3:=Hp (show v3.os=w.os/\v3.tape=w.tape/\v3.output=w.output from hv3▸⟨ho3.os.trans O2.out.1,ho3.tape.trans O2.out.2.1,ho3.output.trans O2.out.2.2⟩)
 have qv3:=(box_kp HB.out K3.out (by decide)).cell
 have y3z:u0.heap.size<v3.heap.size:=by omega
 clear h3 ho3 hv3 s3 zz3 KK3
 have m4:=heap_cell (show v3.heap[bM]? =_ from M3.out) 5
 have x0:=heap_cell X3.out 0
 have x1:=heap_cell X3.out 1
 have x2:=heap_cell X3.out 2
 have x3:=heap_cell X3.out 3
 simp only[GZ2,GZ1,GZ0]at m4 x0 x1 x2 x3
 have hb5:base<=v3.heap.size:=by omega
 have Z5:=Hp (show w.heap.size<=v3.heap.size by omega)
 go_wp2_with (at_builtin;refine append_Imp v3 rfl _ _ rfl base vI es ⟨a0,a1,a2,a3⟩ rfl rfl E3.out (by omega) (by omega) ?_;intro v' w7 hown7 hg7;have HOWN:=Hp hown7;obtain⟨g,cap,rfl⟩:=ownsRow_succ (show w7.ownsRow base _ 4 v' (es.length+1) _ by have h:=hown7;unfold ImpOwn at h;simpa using h);have HG:=Hp hg7;have hne:some bM≠vI.ownBlock:=(fun h=>by have:=(E3.lt bM h.symm).1;omega);have M7:=Hp (show MB w7 bM nm mj mn tx vE vI vP from(hg7.block bM (by simp;omega) hne).trans ((heap_alloc_old v3 _ (by omega)).trans M3.out));have p7:=heap_cell (show w7.heap[bM]? =_ from M7.out) 5;have f7:=heap_free (show w7.heap[bM]? =_ from M7.out) 5;simp only[GZ2,GZ1,GZ0]at p7;clear hown7 hg7 hne)
 go_end0
 have K7:=Hp (show Kp [188,70,173] w w7 from((K3.alloc _).trans (Kp.grown (ts:=[188,173]) HG.out (fun g hg=>by
  obtain⟨c',fz,h⟩:=own_kind (E3.alloc (.cells #[.string a0,.string a1,.int .i64 a2,.int .i64 a3] 173)) g hg
  exact⟨_,_,_,h,by simp⟩))).mono (by simp))
 have B7:=Hp (fun k(hk:k<base)=>(HG.block k (by simp;omega) (fun h=>by have:=(E3.lt k h.symm).1;omega)).trans (heap_alloc_old v3 (.cells #[.string a0,.string a1,.int .i64 a2,.int .i64 a3] 173) (show k<v3.heap.size by omega)))
 have S7:=HG.size
 refine⟨⟨_,rfl⟩,?_,K7.trans (Kp.set (show w7.heap[bM]? =_ from M7.out) (by simp) 5 _),?_,?_,?_,.slice (some ⟨g,0,none⟩) (es.length+1) cap,?_,?_⟩
 ·exact(Below.heap_setCell _ _ _ _ hBM).trans ((B7.out B hb1).trans R3.out)
 ·simp at S7 ⊢
  have:=Z5.out
  omega
 ·intro k hk h1 h2
  rw[Below.heap_setCell _ _ _ _ h2,B7.out k hk]
  exact N3.out k hk h1
 ·exact⟨HG.os.trans O3.out.1,HG.tape.trans O3.out.2.1,HG.output.trans O3.out.2.2⟩
 ·unfold MB
  rw[heap_setCell_same w7 bM 5 _ _ _ M7.out]
  rfl
 ·exact ownsRow_setCell_below HOWN.out hb2 _
theorem OU (B bR bM base:Nat)(st:Rest)(nm tx:ByteArray)(mj mn:Int)(vE vI vP:Value)(es:List Pat)(w:World)(hR:Rd B st w)(hB:Boxed w bR 186 (.pointer (some ⟨B,0,none⟩)))(hM:MB w bM nm mj mn tx vE vI vP)(hE:PatOwn w base vP es)
  (hl:(left st).length<=big) (hes:es.length<=1000) (hb1:B<base) (hb2:bM<base) (hbw:base<=w.heap.size):
  Calls Tryz.prog 133 #[.pointer (some ⟨bR,0,none⟩),.pointer (some ⟨bM,0,none⟩)] w fun e w'=>(∃u,e=.returned u)/\
   Rd B (fZ st).2 w'/\Kp [188,70,180] w w'/\w.heap.size<=w'.heap.size/\(∀k,k<base->k≠B->k≠bM->w'.heap[k]? =w.heap[k]?)/\(w'.os=w.os/\w'.tape=w.tape/\w'.output=w.output)/\∃v',MB w' bM nm mj mn tx vE vI v'/\PatOwn w' base v' (es++[(fZ st).1]):=by
 have hl0:=hl
 have c0:=Hp (fun W hW=>eY B st 1 W hW hl0 (by omega) (by omega))
 change Hid (∀W,_->Calls _ _ #[_,.int .i64 1] W _)at c0
 have hl1:(left (aI 1 st).2).length<=big:=dB 1 hl0
 have c1:=Hp (fun W hW=>eY B (aI 1 st).2 2 W hW hl1 (by omega) (by omega))
 change Hid (∀W,_->Calls _ _ #[_,.int .i64 2] W _)at c1
 have hl2:(left (aI 2 (aI 1 st).2).2).length<=big:=dB 2 hl1
 have c2:=Hp (fun W hW=>eY B (aI 2 (aI 1 st).2).2 1 W hW hl2 (by omega) (by omega))
 change Hid (∀W,_->Calls _ _ #[_,.int .i64 1] W _)at c2
 have hl3:(left (aI 1 (aI 2 (aI 1 st).2).2).2).length<=big:=dB 1 hl2
 have hr2:=dZ 1 (aI 2 (aI 1 st).2).2 (by omega)
 have c3:=Hp (fun W hW=>eY B (aI 1 (aI 2 (aI 1 st).2).2).2 2 W hW hl3 (by omega) (by omega))
 change Hid (∀W,_->Calls _ _ #[_,.int .i64 2] W _)at c3
 have hl4:(left (aI 2 (aI 1 (aI 2 (aI 1 st).2).2).2).2).length<=big:=dB 2 hl3
 have hx:fZ st=(⟨(aI 1 st).1,(aI 2 (aI 1 st).2).1,(aI 1 (aI 2 (aI 1 st).2).2).1 -1,(aI 2 (aI 1 (aI 2 (aI 1 st).2).2).2).1⟩,(aI 2 (aI 1 (aI 2 (aI 1 st).2).2).2).2):=rfl
 rw[hx]
 obtain⟨a3,ha3⟩:∃a,a=(aI 2 (aI 1 (aI 2 (aI 1 st).2).2).2).1:=⟨_,rfl⟩
 rw[<-ha3]at c3 ⊢
 obtain⟨st4,hst4⟩:∃s,s=(aI 2 (aI 1 (aI 2 (aI 1 st).2).2).2).2:=⟨_,rfl⟩
 rw[<-hst4]at c3 ⊢
 obtain⟨a2,ha2⟩:∃a,a=(aI 1 (aI 2 (aI 1 st).2).2).1:=⟨_,rfl⟩
 rw[<-ha2]at c2 hr2 ⊢
 obtain⟨y2,hy2⟩:=Nm (a2 -1)
 have q2:IntKind.i64.wrap (a2 -1)=y2:=by rw[hy2];exact IntWalk.i64_in _ (by omega)
 rw[<-hy2]
 obtain⟨st3,hst3⟩:∃s,s=(aI 1 (aI 2 (aI 1 st).2).2).2:=⟨_,rfl⟩
 rw[<-hst3]at c2 c3
 obtain⟨a1,ha1⟩:∃a,a=(aI 2 (aI 1 st).2).1:=⟨_,rfl⟩
 rw[<-ha1]at c1 ⊢
 obtain⟨st2,hst2⟩:∃s,s=(aI 2 (aI 1 st).2).2:=⟨_,rfl⟩
 rw[<-hst2]at c1 c2
 obtain⟨a0,ha0⟩:∃a,a=(aI 1 st).1:=⟨_,rfl⟩
 rw[<-ha0]at c0 ⊢
 obtain⟨st1,hst1⟩:∃s,s=(aI 1 st).2:=⟨_,rfl⟩
 rw[<-hst1]at c0 c1
 have HB:=Hp hB
 have HM:=Hp hM
 have HE:=Hp hE
 have hbR:=hB.lt
 have HR:=Hp hR
 have qw:=hB.cell
 have hBM:B≠bM:=heap_ne (show w.heap[B]? =_ from hR) (show w.heap[bM]? =_ from hM) (by decide)
 clear hx hl hR hB hM hE ha0 hst1 hl0 ha1 hst2 hl1 ha2 hst3 hl2 ha3 hst4 hl3 hl4 hy2 hr2
 go_enter Tryz.func133,Tryz.ntmps133
 go_wp2_with fail
 refine(c0.out _ HR.out).mono ?_
 rintro e u0 ⟨rfl,h0,ho0⟩
 have k0:=Hp (ho0.kp HR.out (ts:=[188]) (by simp))
 have z0:=ho0.size
 have L0:=Hp (fun k(hk:k<base)(h1:k≠B)=>ho0.block k (by omega) h1)
 obtain⟨v0,hv0⟩:=Nm (u0.alloc (.cells #[.int .i64 a0,.int .i64 0,.int .i64 0,.int .i64 0] 180))
 have HV0:=Hp hv0.symm
 have b0:∀k,k<u0.heap.size->v0.heap[k]? =u0.heap[k]?:=fun k hk=>hv0▸heap_alloc_old u0 _ hk
 have X0:=Hp (show v0.heap[u0.heap.size]? =some (.cells #[.int .i64 a0,.int .i64 0,.int .i64 0,.int .i64 0] 180 (0,0)) from hv0▸heap_alloc_new _ _)
 have K0:=Hp (show Kp [188,180] w v0 from hv0▸((k0.out.alloc _).mono (by simp)))
 have R0:=Hp (show Rd B st1 v0 from(b0 B h0.lt).trans h0)
 have O0:=Hp (show v0.os=w.os/\v0.tape=w.tape/\v0.output=w.output from hv0▸⟨ho0.os,ho0.tape,ho0.output⟩)
 have N0:=Hp (fun k(hk:k<base)(h1:k≠B)=>(b0 k (by omega)).trans (L0.out k hk h1))
 have qu:=(box_kp HB.out k0.out (by decide)).cell
 have q0v:=(box_kp HB.out K0.out (by decide)).cell
 have M0:=Hp (show MB v0 bM nm mj mn tx vE vI vP from K0.out _ _ _ _ HM.out (by decide))
 have E0:=Hp (show PatOwn v0 base vP es from(hv0▸((own_kp HE.out k0.out (by decide)).alloc _)))
 have hEne:vP.ownBlock≠some u0.heap.size:=fun h=>by
  have:=(own_kp HE.out k0.out (by decide)).lt _ h
  omega
 have HEN:=Hp hEne
 have y0z:u0.heap.size<v0.heap.size:=(ZL X0.out)
 have hbR2:bR<u0.heap.size:=by omega
 have hbx:base<=u0.heap.size:=by omega
 clear h0 ho0 hv0 b0 qw hEne q0v
 go_wp2_with fail
 rw[HV0.out]
 refine(c1.out _ R0.out).mono ?_
 rintro e u1 ⟨rfl,h1,ho1⟩
 have k1:=Hp (ho1.kp R0.out (ts:=[188]) (by simp))
 have z1:=ho1.size
 have XU1:=Hp (k1.out _ _ _ _ X0.out (by decide))
 have EU1:=Hp (show PatOwn u1 base vP es from own_kp E0.out k1.out (by decide))
 have p0_1:=heap_cell XU1.out 1
 have p1_1:=heap_free XU1.out 1
 simp only[GZ2,GZ1,GZ0]at p0_1
 obtain⟨v1,hv1⟩:=Nm (u1.setCell ⟨u0.heap.size,1,none⟩ (.int .i64 a1))
 have hv1':=hv1.symm
 have zz1:v1.heap.size=u1.heap.size:=by subst hv1;simp
 have s1:∀k,k≠u0.heap.size->v1.heap[k]? =u1.heap[k]?:=fun k hk=>by rw[hv1];exact Below.heap_setCell _ _ _ _ hk
 have X1:=Hp (show v1.heap[u0.heap.size]? =some (.cells #[.int .i64 a0,.int .i64 a1,.int .i64 0,.int .i64 0] 180 (0,0)) from by rw[hv1,heap_setCell_same u1 _ 1 _ _ _ XU1.out];rfl)
 have KK1:Kp [188,180] u1 v1:=hv1▸Kp.set XU1.out (by simp) 1 _
 have K1:=Hp (show Kp [188,180] w v1 from(K0.trans (k1.mono (by simp))).trans KK1)
 have R1:=Hp (show Rd B st2 v1 from(s1 B (by omega)).trans h1)
 have M1:=Hp (show MB v1 bM nm mj mn tx vE vI vP from K1.out _ _ _ _ HM.out (by decide))
 have E1:=Hp (show PatOwn v1 base vP es from hv1▸ownsRow_setCell_other EU1.out HEN.out _)
 have N1:=Hp (fun k(hk:k<base)(h1:k≠B)=>(s1 k (by omega)).trans ((ho1.block k (by omega) h1).trans (N0.out k hk h1)))
 have O1:=Hp (show v1.os=w.os/\v1.tape=w.tape/\v1.output=w.output from hv1▸⟨ho1.os.trans O0.out.1,ho1.tape.trans O0.out.2.1,ho1.output.trans O0.out.2.2⟩)
 have qv1:=(box_kp HB.out K1.out (by decide)).cell
 have y1z:u0.heap.size<v1.heap.size:=by omega
 clear h1 ho1 hv1 s1 zz1 KK1
 go_wp2_with fail
 refine(c2.out _ R1.out).mono ?_
 rintro e u2 ⟨rfl,h2,ho2⟩
 have k2:=Hp (ho2.kp R1.out (ts:=[188]) (by simp))
 have z2:=ho2.size
 have XU2:=Hp (k2.out _ _ _ _ X1.out (by decide))
 have EU2:=Hp (show PatOwn u2 base vP es from own_kp E1.out k2.out (by decide))
 have p0_2:=heap_cell XU2.out 2
 have p1_2:=heap_free XU2.out 2
 simp only[GZ2,GZ1,GZ0]at p0_2
 obtain⟨v2,hv2⟩:=Nm (u2.setCell ⟨u0.heap.size,2,none⟩ (.int .i64 y2))
 have hv2':=hv2.symm
 have zz2:v2.heap.size=u2.heap.size:=by subst hv2;simp
 have s2:∀k,k≠u0.heap.size->v2.heap[k]? =u2.heap[k]?:=fun k hk=>by rw[hv2];exact Below.heap_setCell _ _ _ _ hk
 have X2:=Hp (show v2.heap[u0.heap.size]? =some (.cells #[.int .i64 a0,.int .i64 a1,.int .i64 y2,.int .i64 0] 180 (0,0)) from by rw[hv2,heap_setCell_same u2 _ 2 _ _ _ XU2.out];rfl)
 have KK2:Kp [188,180] u2 v2:=hv2▸Kp.set XU2.out (by simp) 2 _
 have K2:=Hp (show Kp [188,180] w v2 from(K1.trans (k2.mono (by simp))).trans KK2)
 have R2:=Hp (show Rd B st3 v2 from(s2 B (by omega)).trans h2)
 have M2:=Hp (show MB v2 bM nm mj mn tx vE vI vP from K2.out _ _ _ _ HM.out (by decide))
 have E2:=Hp (show PatOwn v2 base vP es from hv2▸ownsRow_setCell_other EU2.out HEN.out _)
 have N2:=Hp (fun k(hk:k<base)(h1:k≠B)=>(s2 k (by omega)).trans ((ho2.block k (by omega) h1).trans (N1.out k hk h1)))
 have O2:=Hp (show v2.os=w.os/\v2.tape=w.tape/\v2.output=w.output from hv2▸⟨ho2.os.trans O1.out.1,ho2.tape.trans O1.out.2.1,ho2.output.trans O1.out.2.2⟩)
 have qv2:=(box_kp HB.out K2.out (by decide)).cell
 have y2z:u0.heap.size<v2.heap.size:=by omega
 clear h2 ho2 hv2 s2 zz2 KK2
 go_wp2_with fail
 refine(c3.out _ R2.out).mono ?_
 rintro e u3 ⟨rfl,h3,ho3⟩
 have k3:=Hp (ho3.kp R2.out (ts:=[188]) (by simp))
 have z3:=ho3.size
 have XU3:=Hp (k3.out _ _ _ _ X2.out (by decide))
 have EU3:=Hp (show PatOwn u3 base vP es from own_kp E2.out k3.out (by decide))
 have p0_3:=heap_cell XU3.out 3
 have p1_3:=heap_free XU3.out 3
 simp only[GZ2,GZ1,GZ0]at p0_3
 obtain⟨v3,hv3⟩:=Nm (u3.setCell ⟨u0.heap.size,3,none⟩ (.int .i64 a3))
 have hv3':=hv3.symm
 have zz3:v3.heap.size=u3.heap.size:=by subst hv3;simp
 have s3:∀k,k≠u0.heap.size->v3.heap[k]? =u3.heap[k]?:=fun k hk=>by rw[hv3];exact Below.heap_setCell _ _ _ _ hk
 have X3:=Hp (show v3.heap[u0.heap.size]? =some (.cells #[.int .i64 a0,.int .i64 a1,.int .i64 y2,.int .i64 a3] 180 (0,0)) from by rw[hv3,heap_setCell_same u3 _ 3 _ _ _ XU3.out];rfl)
 have KK3:Kp [188,180] u3 v3:=hv3▸Kp.set XU3.out (by simp) 3 _
 have K3:=Hp (show Kp [188,180] w v3 from(K2.trans (k3.mono (by simp))).trans KK3)
 have R3:=Hp (show Rd B st4 v3 from(s3 B (by omega)).trans h3)
 have M3:=Hp (show MB v3 bM nm mj mn tx vE vI vP from K3.out _ _ _ _ HM.out (by decide))
 have E3:=Hp (show PatOwn v3 base vP es from hv3▸ownsRow_setCell_other EU3.out HEN.out _)
 have N3:=Hp (fun k(hk:k<base)(h1:k≠B)=>(s3 k (by omega)).trans ((ho3.block k (by omega) h1).trans (N2.out k hk h1)))
 have O3:=Hp (show v3.os=w.os/\v3.tape=w.tape/\v3.output=w.output from hv3▸⟨ho3.os.trans O2.out.1,ho3.tape.trans O2.out.2.1,ho3.output.trans O2.out.2.2⟩)
 have qv3:=(box_kp HB.out K3.out (by decide)).cell
 have y3z:u0.heap.size<v3.heap.size:=by omega
 clear h3 ho3 hv3 s3 zz3 KK3
 have m4:=heap_cell (show v3.heap[bM]? =_ from M3.out) 6
 have x0:=heap_cell X3.out 0
 have x1:=heap_cell X3.out 1
 have x2:=heap_cell X3.out 2
 have x3:=heap_cell X3.out 3
 simp only[GZ2,GZ1,GZ0]at m4 x0 x1 x2 x3
 have hb5:base<=v3.heap.size:=by omega
 have Z5:=Hp (show w.heap.size<=v3.heap.size by omega)
 go_wp2_with (at_builtin;refine append_Pat v3 rfl _ _ rfl base vP es ⟨a0,a1,y2,a3⟩ rfl rfl E3.out (by omega) (by omega) ?_;intro v' w7 hown7 hg7;have HOWN:=Hp hown7;obtain⟨g,cap,rfl⟩:=ownsRow_succ (show w7.ownsRow base _ 4 v' (es.length+1) _ by have h:=hown7;unfold PatOwn at h;simpa using h);have HG:=Hp hg7;have hne:some bM≠vP.ownBlock:=(fun h=>by have:=(E3.lt bM h.symm).1;omega);have M7:=Hp (show MB w7 bM nm mj mn tx vE vI vP from(hg7.block bM (by simp;omega) hne).trans ((heap_alloc_old v3 _ (by omega)).trans M3.out));have p7:=heap_cell (show w7.heap[bM]? =_ from M7.out) 6;have f7:=heap_free (show w7.heap[bM]? =_ from M7.out) 6;simp only[GZ2,GZ1,GZ0]at p7;clear hown7 hg7 hne)
 go_end0
 have K7:=Hp (show Kp [188,70,180] w w7 from((K3.alloc _).trans (Kp.grown (ts:=[188,180]) HG.out (fun g hg=>by
  obtain⟨c',fz,h⟩:=own_kind (E3.alloc (.cells #[.int .i64 a0,.int .i64 a1,.int .i64 y2,.int .i64 a3] 180)) g hg
  exact⟨_,_,_,h,by simp⟩))).mono (by simp))
 have B7:=Hp (fun k(hk:k<base)=>(HG.block k (by simp;omega) (fun h=>by have:=(E3.lt k h.symm).1;omega)).trans (heap_alloc_old v3 (.cells #[.int .i64 a0,.int .i64 a1,.int .i64 y2,.int .i64 a3] 180) (show k<v3.heap.size by omega)))
 have S7:=HG.size
 refine⟨⟨_,rfl⟩,?_,K7.trans (Kp.set (show w7.heap[bM]? =_ from M7.out) (by simp) 6 _),?_,?_,?_,.slice (some ⟨g,0,none⟩) (es.length+1) cap,?_,?_⟩
 ·exact(Below.heap_setCell _ _ _ _ hBM).trans ((B7.out B hb1).trans R3.out)
 ·simp at S7 ⊢
  have:=Z5.out
  omega
 ·intro k hk h1 h2
  rw[Below.heap_setCell _ _ _ _ h2,B7.out k hk]
  exact N3.out k hk h1
 ·exact⟨HG.os.trans O3.out.1,HG.tape.trans O3.out.2.1,HG.output.trans O3.out.2.2⟩
 ·unfold MB
  rw[heap_setCell_same w7 bM 6 _ _ _ M7.out]
  rfl
 ·exact ownsRow_setCell_below HOWN.out hb2 _
end
end Go.Proofs.YtjiedaialianmaaGreat
