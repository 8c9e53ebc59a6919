import Derived.Test.YtjiedaialianmaaGreatA22
set_option maxRecDepth 100000
set_option maxHeartbeats 8000000
namespace Go.Proofs.YtjiedaialianmaaGreat
section
open Go
open Go.RowKit Go.Lib
def gV (k:Krn)(l:List Plc)(n:Nat):Int:=if aZ k l≠0 then aZ k l else if 40<n then 2 else 0
def lZ (k:Krn)(l:List Plc)(cs:List Cm):List Int:=if gV k l cs.length≠0 then[]else eD k l cs
def zO (w:World)(k:Krn)(l:List Plc)(cs:List Cm)(e:Ending)(w':World):Prop:=
 (∃(k':Krn)(A':Option Addr)(l':List Plc)(c':Nat)(eA:Option Addr)(ec:Nat),e=.returned (.tuple #[rgV k' A' l' c',.slice eA (lZ k l cs).length ec,.int .i64 (gV k l cs.length)])/\UQ w' w.heap.size k' A' l' c' (wK (gV k l cs.length) k) (wL (gV k l cs.length) (Rl k l cs))/\dN w' w.heap.size (.slice eA (lZ k l cs).length ec) (lZ k l cs))/\Below w.heap.size w w'
theorem Gc {w W:World}{k:Krn}{l:List Plc}{cs:List Cm}{E:Int}(hE:E=gV k l cs.length)(h:E≠0)(hb:Below w.heap.size w W):zO w k l cs (.returned (.tuple #[.agg #[.int .i64 0,.int .i64 0,.slice none 0 0,.slice none 0 0],.slice none 0 0,.int .i64 E])) W:=by
 have he:lZ k l cs=[]:=by unfold lZ;rw[if_pos (by rw[<-hE];exact h)]
 unfold zO
 rw[he,<-hE]
 exact⟨⟨Rk,none,[],0,none,0,rfl,oI _ _ h _ _,dN.nil _ _⟩,hb⟩
structure Ni (w1:World)(bp bo bx:Nat)(k:Krn)(l:List Plc)(cs:List Cm)(j:Nat)(W:World):Prop where
 run:kT W w1.heap.size bp k (Rl k l (cs.take j))
 errs:Un W w1.heap.size bo (eD k l (cs.take j))
 x:Boxed W bx 124 (.pointer (some ⟨bp,0,none⟩))
 bel:Below w1.heap.size w1 W
theorem Bt {k:Krn}{l:List Plc}{cs:List Cm}{j:Nat}(h:j<cs.length):Rl k l (cs.take (j+1))=doL k (Rl k l (cs.take j)) cs[j]:=by
 rw[<-List.take_append_getElem h,nM];rfl
theorem JV {k:Krn}{l:List Plc}{cs:List Cm}{j:Nat}(h:j<cs.length):eD k l (cs.take (j+1))=eD k l (cs.take j)++[doE k (Rl k l (cs.take j)) cs[j]]:=by
 rw[<-List.take_append_getElem h,qC];rfl
theorem K9 (k:Krn)(A:Option Addr)(c:Nat)(l:List Plc)(cA:Option Addr)(cs:List Cm)(cc:Nat)(w:World)(hk:k.ok w)(h:aU w A l)(hc:nE w cA cs):
  Calls Tryz.prog 19 #[rgV k A l c,.slice cA cs.length cc] w (zO w k l cs):=by
 obtain⟨w0,hw0⟩:=Nm (w.alloc (.cells #[.int .i64 k.major,.int .i64 k.minor,.slice k.eA k.ex.length k.eC,.slice A l.length c] 39))
 obtain⟨w1,hw1⟩:=Nm (w0.alloc (.cells #[.int .i64 0,.int .i64 0,.slice none 0 0,.slice none 0 0] 39))
 have hb0:Below w.heap.size w w0:=hw0▸ZB
 have hb1:Below w0.heap.size w0 w1:=hw1▸ZB
 have z0:w0.heap.size=w.heap.size+1:=by rw[hw0];simp
 have z1:w1.heap.size=w.heap.size+2:=by rw[hw1];simp;omega
 have HG1:=Hp ((hb1.block _ (by omega)).trans (show w0.heap[w.heap.size]? =some (.cells #[.int .i64 k.major,.int .i64 k.minor,.slice k.eA k.ex.length k.eC,.slice A l.length c] 39 (0,0)) by rw[hw0];exact heap_alloc_new w _))
 have HR1:=Hp (show w1.heap[w.heap.size+1]? =some (.cells #[.int .i64 0,.int .i64 0,.slice none 0 0,.slice none 0 0] 39 (0,0)) by rw[hw1,<-z0];exact heap_alloc_new w0 _)
 have HB1:=Hp (hb0.trans (hb1.mono hb0.size))
 obtain⟨_,g0,g1,g2,g3,_⟩:=aB HG1.out
 have c1:=Hp (jE k A c l w1 (hk.below HB1.out) (h.below HB1.out))
 have HK:=Hp hk
 have HP:=Hp h
 have HC:=Hp hc
 have HZ1:=Hp z1
 have hl40:=hc.len
 unfold big at hl40
 obtain⟨F,hF⟩:=Nm (aZ k l)
 have HF:=Hp hF
 rw[<-hF]at c1
 have hw0':=hw0.symm
 have hw1':=hw1.symm
 clear hw0 hw1 hb0 hb1 z1 hk h hc hF
 by_cases t:F=0
 ·subst t
  by_cases t4:40<cs.length
  ·have HE:=Hp (show(2:Int)=gV k l cs.length by unfold gV;rw[<-HF.out,if_neg (by decide),if_pos t4])
   have t4':decide ((40:Int)<(cs.length:Int))=true:=decide_eq_true (by omega)
   have T:=Hp (show(2:Int)≠0 by decide)
   clear t4
   go_enter Tryz.func19,Tryz.ntmps19
   go_wp2_with fail
   refine(c1.out).mono ?_;rintro e w2 ⟨rfl,hb2⟩
   have HB2:=Hp (HB1.trans (hb2.mono HB1.size))
   obtain⟨HR2,r0,r1,r2,r3,f0,f1,f2,f3⟩:=aB ((hb2.block _ (ZL HR1.out)).trans HR1.out)
   clear hb2 g0 g1 g2 g3
   go_wp2_with fail
   obtain⟨hg,ho⟩:=gY HR2.out (.int .i64 0) (.int .i64 0) (.slice none 0 0) (.slice none 0 0)
   refine bodyPost_ret (dR rfl _ _ (w.heap.size+1) 39 _ (0,0) _ rfl hg Tryz.underlying39 rfl Tryz.RP) rfl ?_
   exact Gc HE.out T.out (HB2.trans ((ho.below (GY2 (ZL HR2.out))).mono (by omega)))
  ·have HE:=Hp (show gV k l cs.length=0 by unfold gV;rw[<-HF.out,if_neg (by decide),if_neg t4])
   have HES:=Hp (show lZ k l cs=eD k l cs by unfold lZ;rw[HE.out,if_neg (by decide)])
   have t4':decide ((40:Int)<(cs.length:Int))=false:=GY7 (by omega)
   obtain⟨f1,f2,f3,f4⟩:=oL HF.symm
   have c2:=Hp (fun W(hb:Below w.heap.size w W)=>U8 k A c l W (HK.below hb) (HP.below hb) f1 f3 f4)
   have H40:=Hp t4
   clear t4 f1 f2 f3 f4
   go_enter Tryz.func19,Tryz.ntmps19
   go_wp2_with fail
   refine(c1.out).mono ?_;rintro e w2 ⟨rfl,hb2⟩
   have HB2:=Hp hb2
   obtain⟨_,g0,g1,g2,g3,_⟩:=aB ((hb2.block _ (ZL HG1.out)).trans HG1.out)
   clear hb2
   go_wp2_with fail
   refine(c2.out _ (HB1.trans (HB2.mono HB1.size))).mono ?_;rintro e w3 ⟨⟨k1,A1,l1,c1',rfl,hk1,hl1,hown⟩,hb3⟩
   obtain⟨w4,hw4⟩:=Nm (w3.alloc (.cells #[.int .i64 k1.major,.int .i64 k1.minor,.slice k1.eA k1.ex.length k1.eC,.slice A1 l1.length c1'] 126))
   obtain⟨w5,hw5⟩:=Nm (w4.alloc (.cells #[.pointer (some ⟨w3.heap.size,0,none⟩)] 124))
   obtain⟨w6,hw6⟩:=Nm (w5.alloc (.cells #[.slice none 0 0] 34))
   have hb4:Below w3.heap.size w3 w4:=hw4▸ZB
   have hb5:Below w4.heap.size w4 w5:=hw5▸ZB
   have hb6:Below w5.heap.size w5 w6:=hw6▸ZB
   have y4:w4.heap.size=w3.heap.size+1:=by rw[hw4];simp
   have y5:w5.heap.size=w3.heap.size+2:=by rw[hw5];simp;omega
   have hb36:Below w3.heap.size w3 w6:=hb4.trans ((hb5.mono hb4.size).trans (hb6.mono (GY1 hb4.size hb5.size)))
   have hb26:Below w2.heap.size w2 w6:=hb3.trans (hb36.mono hb3.size)
   have hs12:=HB2.size
   have hs23:=hb3.size
   have HINV:=Hp (show Ni w1 w3.heap.size (w3.heap.size+2) (w3.heap.size+1) k l cs 0 w6 from
    ⟨⟨k1,A1,l1,c1',⟨(hb6.block _ (by omega)).trans ((hb5.block _ (by omega)).trans (by rw[hw4];exact heap_alloc_new w3 _)),(by have:=hown.below hb36;exact⟨RH this.ex hs12,this.mods.le hs12⟩),by omega⟩,hk1,hl1⟩,
     ⟨.slice none 0 0,(by rw[<-y5];exact hw6▸Boxed.new _ _ _),dN.nil _ _⟩,
     (show Boxed w6 (w3.heap.size+1) _ _ from(hb6.block _ (by omega)).trans (by rw[<-y4];exact hw5▸Boxed.new _ _ _)),
     HB2.trans (hb26.mono hs12)⟩)
   have HLO:=Hp (show w1.heap.size<=w3.heap.size by omega)
   have HRG:=Hp (show aZ k l=0 from HF.symm)
   have cE:=Hp (DN cA cc cs 83 #[.pointer (some ⟨w3.heap.size+2,0,none⟩),.pointer (some ⟨w3.heap.size+1,0,none⟩)] (Ni w1 w3.heap.size (w3.heap.size+2) (w3.heap.size+1) k l cs) (fun _=>False) w6 (enters_of Tryz.func83 (by kernel_rfl) rfl) HC.len
    (fun j W hI=>(HC.below (HB1.trans (hI.bel.mono HB1.size))).row)
    (fun j W W' hI hb=>⟨hI.run.kp (Kp.of_below (ts:=[]) hb) (by simp) (by simp) (by simp) (by simp) (by simp),hI.errs.kp (Kp.of_below (ts:=[]) hb) (by simp) (by simp),box_kp hI.x (Kp.of_below (ts:=[]) hb) (by simp),hI.bel.trans (hb.mono hI.bel.size)⟩)
    (fun j hj W hI=>by
     have hcm:=(HC.below (HB1.trans (hI.bel.mono HB1.size))).each _ (GZ9 hj)
     refine(Mg w1.heap.size w3.heap.size (w3.heap.size+2) (w3.heap.size+1) k (Rl k l (cs.take j)) (eD k l (cs.take j)) cs[j] W hI.run (lG _ HRG.out) hI.errs hI.x hcm.1 hcm.2 (by rw[lY,GY6];have:=H40.out;omega) (by have:=HLO.out;omega)).mono ?_
     rintro e W' ⟨rfl,h1,h2,h3,h4⟩
     exact .inl ⟨rfl,by rw[Bt hj];exact h1,by rw[JV hj];exact h2,box_kp hI.x h3 (by decide),hI.bel.trans h4⟩)
    HINV.out)
   skip
   have hw4':=hw4.symm
   have hw5':=hw5.symm
   have hw6':=hw6.symm
   clear hw4 hw5 hw6 hb3 hb4 hb5 hb6 hb36 hb26 hk1 hl1 hown hs12 hs23 g0 g1 g2 g3 c1 c2
   go_wp2_with fail
   refine(cE.out).mono ?_;rintro e w7 ⟨⟨u,rfl⟩,hI|hI⟩
   ·obtain⟨⟨k7,A7,l7,c7,hR7,hk7,hl7⟩,⟨v7,hbo7,hv7⟩,hx7,hb7⟩:=hI
    rw[List.take_of_length_le (GZ3 _)]at hl7 hv7
    obtain⟨eA,ec,rfl⟩:=bG hv7
    have HV7:=Hp (show dN w7 w1.heap.size (.slice eA (eD k l cs).length ec) (eD k l cs) from hv7)
    have HRU7:=Hp hR7
    have HK7:=Hp hk7
    have HL7:=Hp hl7
    have HB7:=Hp (HB1.trans (hb7.mono HB1.size))
    have x7:=hx7.cell
    have o7:=hbo7.cell
    obtain⟨_,q0,q1,q2,q3,_⟩:=aB hR7.heap
    obtain⟨HR7,r0,r1,r2,r3,f0,f1,f2,f3⟩:=aB ((hb7.block (w.heap.size+1) (ZL HR1.out)).trans HR1.out)
    obtain⟨es,hes⟩:=Nm (eD k l cs)
    rw[<-hes]at HV7 HES o7
    have n1:w3.heap.size+2≠w.heap.size+1:=by have:=HLO.out;have:=HZ1.out;omega
    have n2:w3.heap.size+1≠w.heap.size+1:=by have:=HLO.out;have:=HZ1.out;omega
    have n3:w3.heap.size≠w.heap.size+1:=by have:=HLO.out;have:=HZ1.out;omega
    clear hR7 hk7 hl7 hbo7 hv7 hx7 hb7 cE hes hw4' hw5' hw6' HINV
    go_upto_region 9 with fail
    go_region
    all_goals(
     go_wp2_with fail
     obtain⟨hg,ho⟩:=gY HR7.out (.int .i64 k7.major) (.int .i64 k7.minor) (.slice k7.eA k7.ex.length k7.eC) (.slice A7 l7.length c7)
     refine bodyPost_ret (dR rfl _ _ (w.heap.size+1) 39 _ (0,0) _ rfl hg Tryz.underlying39 rfl Tryz.RP) rfl ?_
     have hkr:=ho.kp HR7.out (ts:=[39]) (by simp)
     have hbase:w.heap.size<=w1.heap.size:=HB1.size
     have hd:∀W:World,Below W.heap.size W W.drew:=fun W=>(GZ4 _ _).drew
     have hown:=(HRU7.own.kp hkr (by decide) (by decide) (by decide) (by decide)).below (hd _)
     have hes:=aO (own_kp HV7.out hkr (by decide)) (hd _)
     unfold zO
     rw[HE.out,HES.out]
     exact⟨⟨k7,A7,l7,c7,eA,ec,rfl,⟨⟨RH hown.ex hbase,hown.mods.le hbase⟩,HK7.out,HL7.out⟩,RH hes hbase⟩,Below.drew (HB7.trans ((ho.below (GY2 (ZL HR7.out))).mono (Nat.le_succ _)))⟩)
   ·cases hI
 ·have t1:(F==0)=false:=by simp[t]
  have t2:(F != 0)=true:=by simp[t]
  have HE:=Hp (show F=gV k l cs.length by unfold gV;rw[<-HF.out,if_pos t])
  have T:=Hp t
  clear t
  go_enter Tryz.func19,Tryz.ntmps19
  go_wp2_with fail
  refine(c1.out).mono ?_;rintro e w2 ⟨rfl,hb2⟩
  have HB2:=Hp (HB1.trans (hb2.mono HB1.size))
  obtain⟨HR2,r0,r1,r2,r3,f0,f1,f2,f3⟩:=aB ((hb2.block _ (ZL HR1.out)).trans HR1.out)
  clear hb2 g0 g1 g2 g3
  go_wp2_with fail
  obtain⟨hg,ho⟩:=gY HR2.out (.int .i64 0) (.int .i64 0) (.slice none 0 0) (.slice none 0 0)
  refine bodyPost_ret (dR rfl _ _ (w.heap.size+1) 39 _ (0,0) _ rfl hg Tryz.underlying39 rfl Tryz.RP) rfl ?_
  exact Gc HE.out T.out (HB2.trans ((ho.below (GY2 (ZL HR2.out))).mono (by omega)))
end
section
open Go
open Go.RowKit Go.Lib
theorem kT.like {W:World}{base bp:Nat}{k:Krn}{l l':List Plc}(h:kT W base bp k l)(e:aD l=aD l'):kT W base bp k l':=by
 obtain⟨k',A',l2,c',h,e1,e2⟩:=h
 exact⟨k',A',l2,c',h,e1,e2.trans e⟩
theorem Be {k:Krn}(h:bJ k=0):aZ k []=0:=by
 have h1:aX k []=0:=by unfold aX;rw[h];rfl
 unfold aZ
 rw[h1]
 rfl
def S9 (k:Krn)(F:List ByteArray):Int:=if bJ k≠0 then bJ k else gZ F
def reL (k:Krn)(R:List ByteArray):List Plc:=Rl k [] (gD (R.map bytesOf))
theorem IJ {R:List ByteArray}{j:Nat}(h:j<R.length):gD ((R.take (j+1)).map bytesOf)=gD ((R.take j).map bytesOf)++(if(aS (bytesOf R[j])).1=0 then[(aS (bytesOf R[j])).2]else[]):=by
 rw[<-List.take_append_getElem h,List.map_append,tJ]
 rfl
theorem G9 {k:Krn}{R:List ByteArray}{j:Nat}(h:j<R.length):reL k (R.take (j+1))=if(aS (bytesOf R[j])).1=0 then doL k (reL k (R.take j)) (aS (bytesOf R[j])).2 else reL k (R.take j):=by
 unfold reL
 rw[IJ h,nM]
 by_cases e:(aS (bytesOf R[j])).1=0
 ·rw[if_pos e,if_pos e];rfl
 ·rw[if_neg e,if_neg e];rfl
theorem oO {k:Krn}(h:bJ k=0)(R:List ByteArray):aZ k (reL k R)=0:=lG _ (Be h)
theorem Ay (k:Krn)(f:Fl)(w:World)(hk:k.ok w)(hf:f.ok w)(hs:∀s∈bQ f.bl,s.size<=big)(hn:(bQ f.bl).length<=big):
  Calls Tryz.prog 20 #[k.v,f.v] w (U7 w (S9 k f.bl) k (reL k (bQ f.bl))):=by
 obtain⟨w0,hw0⟩:=Nm (w.alloc (.cells #[.int .i64 k.major,.int .i64 k.minor,.slice k.eA k.ex.length k.eC] 24))
 obtain⟨w1,hw1⟩:=Nm (w0.alloc (.cells #[.slice f.a f.bl.length f.c] 29))
 obtain⟨w2,hw2⟩:=Nm (w1.alloc (.cells #[.int .i64 0,.int .i64 0,.slice none 0 0,.slice none 0 0] 39))
 have hb0:Below w.heap.size w w0:=hw0▸ZB
 have hb1:Below w0.heap.size w0 w1:=hw1▸ZB
 have hb2:Below w1.heap.size w1 w2:=hw2▸ZB
 have z0:w0.heap.size=w.heap.size+1:=by rw[hw0];simp
 have z1:w1.heap.size=w.heap.size+2:=by rw[hw1];simp;omega
 have z2:w2.heap.size=w.heap.size+3:=by rw[hw2];simp;omega
 have HK2:=Hp ((hb2.block w.heap.size (by omega)).trans ((hb1.block _ (by omega)).trans (show w0.heap[w.heap.size]? =some (.cells #[.int .i64 k.major,.int .i64 k.minor,.slice k.eA k.ex.length k.eC] 24 (0,0)) by rw[hw0];exact heap_alloc_new w _)))
 have HF2:=Hp ((hb2.block _ (by omega)).trans (show w1.heap[w.heap.size+1]? =some (.cells #[.slice f.a f.bl.length f.c] 29 (0,0)) by rw[hw1,<-z0];exact heap_alloc_new w0 _))
 have HR2:=Hp (show w2.heap[w.heap.size+2]? =some (.cells #[.int .i64 0,.int .i64 0,.slice none 0 0,.slice none 0 0] 39 (0,0)) by rw[hw2,<-z1];exact heap_alloc_new w1 _)
 have HB2:=Hp (hb0.trans ((hb1.mono hb0.size).trans (hb2.mono (GY1 hb0.size hb1.size))))
 have HZ2:=Hp z2
 have c1:=Hp (Br k w2 (hk.below HB2.out))
 have cO:=Hp (fun W(hb:Below w.heap.size w W)=>wJ f W (hf.below hb))
 have HK:=Hp hk
 obtain⟨F,hF⟩:=Nm (bJ k)
 have HF:=Hp hF
 rw[<-hF]at c1
 obtain⟨G,hG⟩:=Nm (gZ f.bl)
 have HG:=Hp hG
 obtain⟨R,hR⟩:=Nm (bQ f.bl)
 rw[<-hR]at hs hn cO ⊢
 rw[<-hG]at cO
 obtain⟨E,hE⟩:=Nm (S9 k f.bl)
 rw[<-hE]
 unfold S9 at hE
 rw[<-hF,<-hG]at hE
 have HS:=Hp hs
 have HN:=Hp hn
 unfold big at hn
 have k0:=heap_cell HK2.out 0
 have k1:=heap_cell HK2.out 1
 have k2:=heap_cell HK2.out 2
 have f0:=heap_cell HF2.out 0
 simp only[GZ2,GZ0,GZ1]at k0 k1 k2 f0
 have hw0':=hw0.symm
 have hw1':=hw1.symm
 have hw2':=hw2.symm
 clear hw0 hw1 hw2 hb0 hb1 hb2 z2 hk hf hs hF hG hR
 by_cases t:F=0
 ·subst t
  rw[if_neg (by decide)]at hE
  by_cases s:G=0
  ·subst s
   subst hE
   have hk0:bJ k=0:=HF.symm
   have c2:=Hp (fun W(hb:Below w.heap.size w W)=>show Calls Tryz.prog 82 #[.agg #[.int .i64 k.major,.int .i64 k.minor,.slice k.eA k.ex.length k.eC,.slice none 0 0]] W fun e w'=>(∃k' A' l' c',e=.returned (rgV k' A' l' c')/\k'.bare=k.bare/\aD l'=aD []/\jS w' W.heap.size k' A' l' c')/\Below W.heap.size W w' from
    U8 k none 0 [] W (HK.below hb) ⟨Row.nil,Nat.zero_le _,by simp⟩ (by simp) (by simp) (EC hk0))
   have HK0:=Hp hk0
   clear hk0
   go_enter Tryz.func20,Tryz.ntmps20
   go_wp2_with fail
   refine(c1.out).mono ?_;rintro e w3 ⟨rfl,hb3⟩
   have HB3:=Hp hb3
   have hK3:=(hb3.block _ (ZL HK2.out)).trans HK2.out
   have f0:=heap_cell ((hb3.block _ (ZL HF2.out)).trans HF2.out) 0
   simp only[GZ2,GZ0]at f0
   have HK3:=Hp hK3
   clear hb3 hK3 k0 k1 k2 c1
   go_wp2_with fail
   refine(cO.out _ (HB2.trans (HB3.mono HB2.size))).mono ?_;rintro e w4 ⟨hb4,oA,oC,R',he,ho4,hR'⟩;subst R';subst he
   have HB4:=Hp (HB3.trans (hb4.mono HB3.size))
   have HO4:=Hp (ho4.more (b':=w2.heap.size) HB3.size)
   have hK4:=(hb4.block _ (ZL HK3.out)).trans HK3.out
   have k0:=heap_cell hK4 0
   have k1:=heap_cell hK4 1
   have k2:=heap_cell hK4 2
   simp only[GZ2,GZ0,GZ1]at k0 k1 k2
   clear hb4 ho4 hK4 f0 cO
   go_wp2_with fail
   refine(c2.out _ (HB2.trans (HB4.mono HB2.size))).mono ?_;rintro e w5 ⟨⟨k5,A5,l5,c5,rfl,hk5,hl5,hown⟩,hb5⟩
   obtain⟨w6,hw6⟩:=Nm (w5.alloc (.cells #[.int .i64 k5.major,.int .i64 k5.minor,.slice k5.eA k5.ex.length k5.eC,.slice A5 l5.length c5] 126))
   have hb6:Below w5.heap.size w5 w6:=hw6▸ZB
   have hb56:=hb5.trans (hb6.mono hb5.size)
   have hs4:=HB4.size
   have hs5:=hb5.size
   have HRU6:=Hp (show kT w6 w2.heap.size w5.heap.size k (reL k (R.take 0)) from⟨k5,A5,l5,c5,⟨by rw[hw6];exact heap_alloc_new w5 _,(by have:=hown.below hb6;exact⟨RH this.ex hs4,this.mods.le hs4⟩),by omega⟩,hk5,hl5⟩)
   have HO6:=Hp (show dA w6 w2.heap.size (.slice oA R.length oC) R from HO4.below hb56 (GZ3 _))
   have HB6:=Hp (HB4.trans (hb56.mono hs4))
   obtain⟨bp,hbp⟩:=Nm w5.heap.size
   have HBP:=Hp hbp
   rw[<-hbp]at HRU6
   have hw6':=hw6.symm
   clear hw6 hb5 hb6 hb56 hs4 hs5 hown hk5 hl5 HO4 c2 k0 k1 k2
   go_wp2_with fail
   try rw[hw6']
   try rw[<-hbp]
   clear hbp
   go_loopw [36] (fun i wr=>∃j:Nat,i=.int .i64 j/\j<=R.length/\kT wr w2.heap.size bp k (reL k (R.take j))/\dA wr w2.heap.size (.slice oA R.length oC) R/\Below w2.heap.size w2 wr) (fun i _=>R.length -(intOf i).toNat)
   case atStart=>exact⟨0,rfl,Nat.zero_le _,HRU6.out,HO6.out,HB6.out⟩
   case round=>
    obtain⟨j,rfl,hj,hI,hO,hb⟩:=hrel
    have HI:=Hp hI
    have HO:=Hp hO
    have HB:=Hp hb
    clear hI hO hb
    by_cases hlt:j<R.length
    ·have hlt':(j:Int)<R.length:=by omega
     obtain⟨g,rfl,hg,hgl,s0,_⟩:=HO.at_ rfl j hlt
     have HNX:=Hp (G9 (k:=k) hlt)
     have hsz:=HS.out _ (GZ9 hlt)
     rw[show R.getD j ⟨#[]⟩=R[j]'hlt by rw[List.getD_eq_getElem?_getD,GY5 hlt];rfl]at s0
     obtain⟨s,hs⟩:=Nm (R[j]'hlt)
     rw[<-hs]at s0 HNX hsz
     have e0:s=sof (bytesOf s):=(iJ s).symm
     have cD:=Hp (fun W=>show Calls Tryz.prog 62 #[.string s] W _ from by
      have:=nQ (bytesOf s) W (by rw[rD,<-e0];exact hsz)
      rw[<-e0]at this
      exact this)
     obtain⟨D,hD⟩:=Nm (aS (bytesOf s))
     have HDO:=Hp (fun h=>uM (l:=bytesOf s) h)
     rw[<-hD]at cD HNX HDO
     clear hs e0 hD hsz
     go_upto_region 12 with(go_at_call 62;refine(cD.out _).mono ?_;rintro e w7 ⟨⟨m,rfl,hok,hown,hsame⟩,hb7⟩;have HOK7:=Hp hok;have HSA:=Hp hsame;have HB7:=Hp hb7;clear hok hown hsame hb7)
     obtain⟨w8,hw8⟩:=Nm (w7.alloc (.cells (cmA ⟨D.2.kind,m,D.2.nm⟩) 102))
     have hb8:Below w7.heap.size w7 w8:=hw8▸ZB
     obtain⟨p0,p1,p2,p3,p4,p5,p6,p7,p8⟩:=dJ (W:=w8) (b:=w7.heap.size) (c:=⟨D.2.kind,m,D.2.nm⟩) (by rw[hw8];exact heap_alloc_new w7 _)
     have hb78:=HB7.trans (hb8.mono HB7.size)
     have HI8:=Hp (HI.kp (Kp.of_below (ts:=[]) hb78) (by simp) (by simp) (by simp) (by simp) (by simp))
     have HO8:=Hp (show dA w8 w2.heap.size (.slice (some ⟨g,0,none⟩) R.length oC) R from HO.below hb78 (GZ3 _))
     have HB8:=Hp (HB.trans (hb78.mono HB.size))
     have HM8:=Hp (HOK7.below hb8)
     rw[<-hw8]
     clear hw8 hb8 hb78 s0
     by_cases d:D.1=0
     ·have hce:RL ⟨D.2.kind,m,D.2.nm⟩=0:=by
       rw[<-HDO.out d]
       exact Sr (show Cm.bare _=Cm.bare _ by unfold Cm.bare;simp only[iL HSA.out])
      have c3:=Hp (HI8.do_ ⟨D.2.kind,m,D.2.nm⟩ (oO HK0.out _) HM8.out (GY1 (JL hce) (by unfold big;omega)))
      have HN2:=Hp (show aD (doL k (reL k (R.take j)) ⟨D.2.kind,m,D.2.nm⟩)=aD (reL k (R.take (j+1))) by
       rw[HNX.out,if_pos d]
       exact Su rfl rfl (show Cm.bare _=Cm.bare _ by unfold Cm.bare;simp only[iL HSA.out]))
      have d':(D.1==0)=true:=by simp[d]
      clear hce d
      go_wp2_with fail
      refine(c3.out).mono ?_;rintro e w9 ⟨rfl,hr9,ho9,hk9⟩
      have HR9:=Hp (hr9.like HN2)
      have HO9:=Hp (show dA w9 w2.heap.size (.slice (some ⟨g,0,none⟩) R.length oC) R from own_kp HO8.out hk9 (by decide))
      have HB9:=Hp (HB8.trans ((ho9.below (GY2 HI8.lt.2)).mono HI8.lt.1))
      clear hr9 ho9 hk9 c3 p0 p1 p2 p3 p4 p5 p6 p7 p8
      go_wp2_with fail
      go_roundw
      case rel=>exact⟨j+1,by go_num,by omega,HR9.out,HO9.out,HB9.out⟩
      case measure=>(simp[intOf];try omega)
     ·have d':(D.1==0)=false:=by simp[d]
      have HR9:=Hp (show kT w8 w2.heap.size bp k (reL k (R.take (j+1))) by rw[HNX.out,if_neg d];exact HI8.out)
      clear d p0 p1 p2 p3 p4 p5 p6 p7 p8
      go_wp2_with fail
      go_roundw
      case rel=>exact⟨j+1,by go_num,by omega,HR9.out,HO8.out,HB8.out⟩
      case measure=>(simp[intOf];try omega)
    ·obtain rfl:j=R.length:=by omega
     obtain⟨k7,A7,l7,c7,hR7,hk7,hl7⟩:=HI.out
     rw[List.take_of_length_le (GZ3 _)]at hl7
     have HRU7:=Hp hR7
     have HK7:=Hp hk7
     have HL7:=Hp hl7
     have HBW:=Hp (HB2.trans (HB.mono HB2.size))
     have n3:bp≠w.heap.size+2:=by have:=hR7.low;have:=HZ2.out;omega
     obtain⟨_,q0,q1,q2,q3,_⟩:=aB hR7.heap
     obtain⟨HR7,r0,r1,r2,r3,g0,g1,g2,g3⟩:=aB ((HB.block (w.heap.size+2) (ZL HR2.out)).trans HR2.out)
     clear hR7 hk7 hl7
     go_wp2_with fail
     obtain⟨hg,ho⟩:=gY HR7.out (.int .i64 k7.major) (.int .i64 k7.minor) (.slice k7.eA k7.ex.length k7.eC) (.slice A7 l7.length c7)
     refine bodyPost_ret (results_cell_tmp rfl _ _ (w.heap.size+2) 39 _ (0,0) _ rfl hg Tryz.underlying39 rfl Tryz.RP) rfl ?_
     have hkr:=ho.kp HR7.out (ts:=[39]) (by simp)
     have hown:=HRU7.own.kp hkr (by decide) (by decide) (by decide) (by decide)
     exact⟨⟨k7,A7,l7,c7,rfl,⟨⟨RH hown.ex HB2.size,hown.mods.le HB2.size⟩,HK7.out,HL7.out⟩⟩,HBW.trans ((ho.below (GY2 (ZL HR7.out))).mono (by omega))⟩
  ·have hE':E≠0:=by rw[hE];exact s
   have s1:(G != 0)=true:=by simp[s]
   have HE:=Hp hE'
   subst hE
   clear s hE'
   go_enter Tryz.func20,Tryz.ntmps20
   go_wp2_with fail
   refine(c1.out).mono ?_;rintro e w3 ⟨rfl,hb3⟩
   have HB3:=Hp hb3
   have HR3:=Hp ((hb3.block _ (ZL HR2)).trans HR2)
   have f0:=heap_cell ((hb3.block _ (ZL HF2.out)).trans HF2.out) 0
   simp only[GZ2,GZ0]at f0
   clear hb3 k0 k1 k2 c1
   go_wp2_with fail
   refine(cO.out _ (HB2.trans (HB3.mono HB2.size))).mono ?_;rintro e w4 ⟨hb4,oA,oC,R',he,ho4,hR'⟩;subst R';subst he
   have HB4:=Hp (HB2.trans ((HB3.trans (hb4.mono HB3.size)).mono HB2.size))
   obtain⟨HR4,r0,r1,r2,r3,g0,g1,g2,g3⟩:=aB ((hb4.block _ (ZL HR3.out)).trans HR3.out)
   clear hb4 ho4 cO
   go_wp2_with fail
   obtain⟨hg,ho⟩:=gY HR4.out (.int .i64 0) (.int .i64 0) (.slice none 0 0) (.slice none 0 0)
   refine bodyPost_ret (results_cell_tmp rfl _ _ (w.heap.size+2) 39 _ (0,0) _ rfl hg Tryz.underlying39 rfl Tryz.RP) rfl ?_
   exact⟨⟨Rk,none,[],0,rfl,oI _ _ HE.out _ _⟩,HB4.trans ((ho.below (GY2 (ZL HR4.out))).mono (by omega))⟩
 ·rw[if_pos t]at hE
  have hE':E≠0:=by rw[hE];exact t
  have s1:(F != 0)=true:=by simp[t]
  have HE:=Hp hE'
  subst hE
  clear t hE'
  go_enter Tryz.func20,Tryz.ntmps20
  go_wp2_with fail
  refine(c1.out).mono ?_;rintro e w3 ⟨rfl,hb3⟩
  have HB3:=Hp (HB2.trans (hb3.mono HB2.size))
  obtain⟨HR3,r0,r1,r2,r3,g0,g1,g2,g3⟩:=aB ((hb3.block _ (ZL HR2.out)).trans HR2.out)
  clear hb3 k0 k1 k2 f0 c1
  go_wp2_with fail
  obtain⟨hg,ho⟩:=gY HR3.out (.int .i64 0) (.int .i64 0) (.slice none 0 0) (.slice none 0 0)
  refine bodyPost_ret (results_cell_tmp rfl _ _ (w.heap.size+2) 39 _ (0,0) _ rfl hg Tryz.underlying39 rfl Tryz.RP) rfl ?_
  exact⟨⟨Rk,none,[],0,rfl,oI _ _ HE.out _ _⟩,HB3.trans ((ho.below (GY2 (ZL HR3.out))).mono (by omega))⟩
end
section
open Go
open Gs (Tx)
abbrev jY (c:Cm):ByteArray:=ofBytes (aG c)
theorem qR (c:Cm):(jY c).size=(aG c).length:=by show(aG c).toArray.size=_;simp
def RD (k:Krn):List Plc->List ByteArray->List Cm->List ByteArray×List Int×Int
 |_,F,[]=>(F,[],0)
 |l,F,c::r=>
  if doE k l c≠0 then((RD k (doL k l c) F r).1,doE k l c::(RD k (doL k l c) F r).2.1,(RD k (doL k l c) F r).2.2)
  else if dF F (aG c).length≠0 then(F,[],dF F (aG c).length)
  else((RD k (doL k l c) (bT F (aW F (aG c))) r).1,0::(RD k (doL k l c) (bT F (aW F (aG c))) r).2.1,(RD k (doL k l c) (bT F (aW F (aG c))) r).2.2)
theorem lU {k:Krn}{l:List Plc}{F:List ByteArray}{c:Cm}{r:List Cm}(h1:doE k l c≠0):RD k l F (c::r)=((RD k (doL k l c) F r).1,doE k l c::(RD k (doL k l c) F r).2.1,(RD k (doL k l c) F r).2.2):=by
 conv=>lhs;unfold RD
 rw[if_pos h1]
theorem mQ {k:Krn}{l:List Plc}{F:List ByteArray}{c:Cm}{r:List Cm}(h1:doE k l c=0)(h2:dF F (aG c).length≠0):RD k l F (c::r)=(F,[],dF F (aG c).length):=by
 conv=>lhs;unfold RD
 rw[if_neg (by omega),if_pos h2]
theorem Sy {k:Krn}{l:List Plc}{F:List ByteArray}{c:Cm}{r:List Cm}(h1:doE k l c=0)(h2:dF F (aG c).length=0):RD k l F (c::r)=((RD k (doL k l c) (bT F (aW F (aG c))) r).1,0::(RD k (doL k l c) (bT F (aW F (aG c))) r).2.1,(RD k (doL k l c) (bT F (aW F (aG c))) r).2.2):=by
 conv=>lhs;unfold RD
 rw[if_neg (by omega),if_neg (by omega)]
def SG :List Cm->List Int->List ByteArray
 |c::r,n::a=>if n=0 then jY c::SG r a else SG r a
 |_,_=>[]
theorem CF (l:List Cm):SG l []=[]:=by cases l<;>rfl
structure BG (k:Krn)(l:List Plc)(F0:List ByteArray)(R:List ByteArray)(cs:List Cm)(p:List ByteArray×List Int×Int):Prop where
 errs:p.2.1=(eD k l cs).take p.2.1.length
 len:p.2.1.length<=cs.length
 all:p.2.1.length=cs.length->p.2.2=0
 stop:p.2.1.length<cs.length->p.2.2=8/\(eD k l cs)[p.2.1.length]? =some 0
 inv:∃D q e,JInv F0 p.1 (R++SG cs p.2.1) D q e
theorem uD {k:Krn}{F0:List ByteArray}:∀(cs:List Cm){l:List Plc}{F R:List ByteArray}{D:List Ded}{q e:Nat},JInv F0 F R D q e->BG k l F0 R cs (RD k l F cs)
 | [],l,F,R,D,q,e,h=>⟨rfl,GZ3 _,fun _=>rfl,fun h=>absurd h (by simp[RD]),D,q,e,by simp[RD,SG];exact h⟩
 |c::cs,l,F,R,D,q,e,h=>by
  by_cases h1:doE k l c=0
  ·have hc:=BO h1
   obtain⟨z1,z8⟩:=kZ hc
   have hs:=qR c
   by_cases h2:dF F (aG c).length=0
   ·rw[Sy h1 h2]
    have hn:=h.next (s:=jY c) (by rw[hs];exact h2)
    rw[show bytesOf (jY c)=aG c from iZ _]at hn
    have ih:=uD (k:=k) cs (l:=doL k l c) hn
    refine⟨?_,?_,?_,?_,?_⟩
    ·show(0:Int)::_=(doE k l c::eD k (doL k l c) cs).take (_+1)
     rw[List.take_succ_cons,h1,<-ih.errs]
    ·exact Nat.succ_le_succ ih.len
    ·intro hl;exact ih.all (Nat.succ.inj hl)
    ·intro hl
     obtain⟨s1,s2⟩:=ih.stop (Nat.lt_of_succ_lt_succ hl)
     exact⟨s1,by show(doE k l c::eD k (doL k l c) cs)[_+1]? =_;rw[GZ1];exact s2⟩
    ·obtain⟨D',q',e',hi⟩:=ih.inv
     refine⟨D',q',e',?_⟩
     show JInv F0 _ (R++SG (c::cs) (0::_)) D' q' e'
     unfold SG
     rw[if_pos rfl]
     have:=hi
     rw[List.append_assoc]at this
     exact this
   ·rw[mQ h1 h2]
    have he:=h.err (n:=(aG c).length) h2 (by omega) z8
    refine⟨rfl,Nat.zero_le _,fun hl=>absurd hl (by simp),fun _=>⟨he.1,?_⟩,D,q,e,?_⟩
    ·show(doE k l c::eD k (doL k l c) cs)[0]? =_
     rw[GZ0,h1]
    ·show JInv F0 F (R++SG (c::cs) []) D q e
     rw[CF,List.append_nil];exact h
  ·rw[lU h1]
   have ih:=uD (k:=k) cs (l:=doL k l c) h
   refine⟨?_,?_,?_,?_,?_⟩
   ·show doE k l c::_=(doE k l c::eD k (doL k l c) cs).take (_+1)
    rw[List.take_succ_cons,<-ih.errs]
   ·exact Nat.succ_le_succ ih.len
   ·intro hl;exact ih.all (Nat.succ.inj hl)
   ·intro hl
    obtain⟨s1,s2⟩:=ih.stop (Nat.lt_of_succ_lt_succ hl)
    exact⟨s1,by show(doE k l c::eD k (doL k l c) cs)[_+1]? =_;rw[GZ1];exact s2⟩
   ·obtain⟨D',q',e',hi⟩:=ih.inv
    refine⟨D',q',e',?_⟩
    show JInv F0 _ (R++SG (c::cs) (doE k l c::_)) D' q' e'
    unfold SG
    rw[if_neg h1]
    exact hi
theorem mX {k:Krn}:∀(cs:List Cm)(a:List Int)(l:List Plc),a=eD k l cs->Rl k l (gD ((SG cs a).map bytesOf))=Rl k l (gD ((SG cs a).map bytesOf))/\aD (Rl k l (gD ((SG cs a).map bytesOf)))=aD (Rl k l cs)
 | [],a,l,h=>by subst h;exact⟨rfl,rfl⟩
 |c::cs,a,l,h=>by
  subst h
  refine⟨rfl,?_⟩
  show aD (Rl k l (gD ((SG (c::cs) (doE k l c::eD k (doL k l c) cs)).map bytesOf)))=aD (Rl k (doL k l c) cs)
  unfold SG
  by_cases h1:doE k l c=0
  ·rw[if_pos h1,List.map_cons,show bytesOf (jY c)=aG c from iZ _]
   obtain⟨b1,b2⟩:=GG (BO h1)
   unfold gD
   rw[if_pos b1]
   have h3:aD (doL k l (aS (aG c)).2)=aD (doL k l c):=Su rfl rfl b2
   have h4:=(Bf (k:=k) (k':=k) rfl (a:=gD ((SG cs (eD k (doL k l c) cs)).map bytesOf)) (a':=gD ((SG cs (eD k (doL k l c) cs)).map bytesOf)) h3 rfl).1
   show aD (Rl k (doL k l (aS (aG c)).2) _)=_
   rw[h4]
   exact(mX (k:=k) cs _ (doL k l c) rfl).2
  ·rw[if_neg h1]
   have e:doL k l c=l:=by unfold doL;rw[if_pos h1]
   have:=(mX (k:=k) cs _ (doL k l c) rfl).2
   rw[e]at this ⊢
   exact this
theorem rF (k:Krn):∀(a b:List Cm)(l:List Plc)(F:List ByteArray),(RD k l F a).2.2=0->
  RD k l F (a++b)=((RD k (Rl k l a) (RD k l F a).1 b).1,(RD k l F a).2.1++(RD k (Rl k l a) (RD k l F a).1 b).2.1,(RD k (Rl k l a) (RD k l F a).1 b).2.2)
 | [],b,l,F,_=>rfl
 |c::a,b,l,F,h=>by
  rw[List.cons_append]
  by_cases h1:doE k l c=0
  ·by_cases h2:dF F (aG c).length=0
   ·rw[Sy h1 h2]at h ⊢
    rw[Sy h1 h2,rF k a b (doL k l c) (bT F (aW F (aG c))) h];rfl
   ·rw[mQ h1 h2]at h
    exact absurd h h2
  ·rw[lU h1]at h ⊢
   rw[lU h1,rF k a b (doL k l c) F h];rfl
theorem Um (k:Krn):∀(a b:List Cm)(l:List Plc)(F:List ByteArray),(RD k l F a).2.2≠0->RD k l F (a++b)=RD k l F a
 | [],b,l,F,h=>absurd rfl h
 |c::a,b,l,F,h=>by
  rw[List.cons_append]
  by_cases h1:doE k l c=0
  ·by_cases h2:dF F (aG c).length=0
   ·rw[Sy h1 h2]at h ⊢
    rw[Sy h1 h2,Um k a b (doL k l c) (bT F (aW F (aG c))) h]
   ·rw[mQ h1 h2,mQ h1 h2]
  ·rw[lU h1]at h ⊢
   rw[lU h1,Um k a b (doL k l c) F h]
theorem OA (k:Krn)(c:Cm)(l:List Plc)(F:List ByteArray):RD k l F [c]=if doE k l c≠0 then(F,[doE k l c],0)else if dF F (aG c).length≠0 then(F,[],dF F (aG c).length)else(bT F (aW F (aG c)),[0],0):=rfl
theorem FI {k:Krn}:∀(cs:List Cm){l:List Plc}{F:List ByteArray},bP F=0->bP (RD k l F cs).1=0
 | [],_,_,h=>h
 |c::cs,l,F,h=>by
  by_cases h1:doE k l c=0
  ·by_cases h2:dF F (aG c).length=0
   ·rw[Sy h1 h2];exact FI cs (TT h2).1
   ·rw[mQ h1 h2];exact h
  ·rw[lU h1];exact FI cs h
theorem BS {k:Krn}:∀(cs:List Cm){l:List Plc}{F:List ByteArray},(RD k l F cs).2.1.length<=cs.length
 | [],_,_=>GZ3 _
 |c::cs,l,F=>by
  by_cases h1:doE k l c=0
  ·by_cases h2:dF F (aG c).length=0
   ·rw[Sy h1 h2];exact Nat.succ_le_succ (BS cs)
   ·rw[mQ h1 h2];exact Nat.zero_le _
  ·rw[lU h1];exact Nat.succ_le_succ (BS cs)
theorem LX {k:Krn}{l:List Plc}{F:List ByteArray}{cs:List Cm}{j:Nat}(h:j<cs.length)(h0:(RD k l F (cs.take j)).2.2=0):
  RD k l F (cs.take (j+1))=if doE k (Rl k l (cs.take j)) cs[j]≠0 then((RD k l F (cs.take j)).1,(RD k l F (cs.take j)).2.1++[doE k (Rl k l (cs.take j)) cs[j]],0)
   else if dF (RD k l F (cs.take j)).1 (aG cs[j]).length≠0 then((RD k l F (cs.take j)).1,(RD k l F (cs.take j)).2.1,dF (RD k l F (cs.take j)).1 (aG cs[j]).length)
   else(bT (RD k l F (cs.take j)).1 (aW (RD k l F (cs.take j)).1 (aG cs[j])),(RD k l F (cs.take j)).2.1++[0],0):=by
 rw[<-List.take_append_getElem h,rF k _ _ _ _ h0,OA]
 generalize doE k (Rl k l (cs.take j)) cs[j]=E
 generalize dF (RD k l F (cs.take j)).1 (aG cs[j]).length=B
 by_cases h1:E=0<;>by_cases h2:B=0<;>simp[h1,h2]
theorem zX {k:Krn}{l:List Plc}{F:List ByteArray}{cs:List Cm}{j:Nat}(h0:(RD k l F (cs.take j)).2.2≠0):RD k l F cs=RD k l F (cs.take j):=by
 have:=Um k (cs.take j) (cs.drop j) l F h0
 rwa [List.take_append_drop]at this
end
section
open Go
open Go.RowKit Go.Lib
open Gs (Tx)
def fD (k:Krn)(F:List ByteArray)(cs:List Cm):List ByteArray×List Int×Int:=
 if 40<cs.length then([],[],2)else if S9 k F≠0 then([],[],S9 k F)else RD k (reL k (bQ F)) F cs
def VY (w:World)(P:List ByteArray×List Int×Int)(e:Ending)(w':World):Prop:=
 (∃(f':Fl)(eA:Option Addr)(ec:Nat),e=.returned (.tuple #[f'.v,.slice eA P.2.1.length ec,.int .i64 P.2.2])/\Rt w' w.heap.size f' P.1/\dN w' w.heap.size (.slice eA P.2.1.length ec) P.2.1)/\Below w.heap.size w w'
theorem Di {w w':World}{E:Int}(hb:Below w.heap.size w w'):VY w ([],[],E) (.returned (.tuple #[.agg #[.slice none 0 0],.slice none 0 0,.int .i64 E])) w':=
 ⟨⟨F5,none,0,rfl,⟨dA.nil _ _,Nat.zero_le _,rfl⟩,dN.nil _ _⟩,hb⟩
structure Ka (w2:World)(b2 bp bo bx ba be:Nat)(k:Krn)(l:List Plc)(F:List ByteArray)(cs:List Cm)(j:Nat)(W:World):Prop where
 bel:Below w2.heap.size w2 W
 x:Boxed W bx 124 (.pointer (some ⟨bp,0,none⟩))
 run:kT W w2.heap.size bp k (Rl k l (cs.take j))
 errs:Un W b2 bo (RD k l F (cs.take j)).2.1
 fl:FlB W w2.heap.size ba (RD k l F (cs.take j)).1
 e:Boxed W be 30 (.int .i64 0)
 zero:(RD k l F (cs.take j)).2.2=0
 size:b2<=W.heap.size
structure KP (w2:World)(b2 bo ba be:Nat)(P:List ByteArray×List Int×Int)(W:World):Prop where
 bel:Below w2.heap.size w2 W
 errs:Un W b2 bo P.2.1
 fl:FlB W w2.heap.size ba P.1
 e:Boxed W be 30 (.int .i64 P.2.2)
theorem OC (k:Krn)(f:Fl)(cA:Option Addr)(cs:List Cm)(cc:Nat)(w:World)(hk:k.ok w)(hf:f.ok w)(hs:∀s∈bQ f.bl,s.size<=big)(hn:(bQ f.bl).length<=big)(hc:nE w cA cs):
  Calls Tryz.prog 18 #[k.v,f.v,.slice cA cs.length cc] w (VY w (fD k f.bl cs)):=by
 obtain⟨w0,hw0⟩:=Nm (w.alloc (.cells #[.int .i64 k.major,.int .i64 k.minor,.slice k.eA k.ex.length k.eC] 24))
 obtain⟨w1,hw1⟩:=Nm (w0.alloc (.cells #[.slice f.a f.bl.length f.c] 29))
 obtain⟨w2,hw2⟩:=Nm (w1.alloc (.cells #[.slice none 0 0] 29))
 have hb0:Below w.heap.size w w0:=hw0▸ZB
 have hb1:Below w0.heap.size w0 w1:=hw1▸ZB
 have hb2:Below w1.heap.size w1 w2:=hw2▸ZB
 have z0:w0.heap.size=w.heap.size+1:=by rw[hw0];simp
 have z1:w1.heap.size=w.heap.size+2:=by rw[hw1];simp;omega
 have z2:w2.heap.size=w.heap.size+3:=by rw[hw2];simp;omega
 have HK2:=Hp ((hb2.block w.heap.size (by omega)).trans ((hb1.block _ (by omega)).trans (show w0.heap[w.heap.size]? =some (.cells #[.int .i64 k.major,.int .i64 k.minor,.slice k.eA k.ex.length k.eC] 24 (0,0)) by rw[hw0];exact heap_alloc_new w _)))
 have HF2:=Hp ((hb2.block _ (by omega)).trans (show w1.heap[w.heap.size+1]? =some (.cells #[.slice f.a f.bl.length f.c] 29 (0,0)) by rw[hw1,<-z0];exact heap_alloc_new w0 _))
 have HR2:=Hp (show w2.heap[w.heap.size+2]? =some (.cells #[.slice none 0 0] 29 (0,0)) by rw[hw2,<-z1];exact heap_alloc_new w1 _)
 have HB2:=Hp (hb0.trans ((hb1.mono hb0.size).trans (hb2.mono (GY1 hb0.size hb1.size))))
 have HZ2:=Hp z2
 have cR:=Hp (Ay k f w2 (hk.below HB2.out) (hf.below HB2.out) hs hn)
 have HC:=Hp hc
 have HFO:=Hp hf
 have hl40:=hc.len
 unfold big at hl40
 obtain⟨P,hP⟩:=Nm (fD k f.bl cs)
 rw[<-hP]
 have HP:=Hp hP
 obtain⟨G,hG⟩:=Nm (S9 k f.bl)
 have HG:=Hp hG
 obtain⟨L0,hL0⟩:=Nm (reL k (bQ f.bl))
 have HL0:=Hp hL0
 rw[<-hG,<-hL0]at cR
 have k0:=heap_cell HK2.out 0
 have k1:=heap_cell HK2.out 1
 have k2:=heap_cell HK2.out 2
 have f0:=heap_cell HF2.out 0
 simp only[GZ2,GZ0,GZ1]at k0 k1 k2 f0
 have hw0':=hw0.symm
 have hw1':=hw1.symm
 have hw2':=Hp hw2.symm
 clear hw0 hw1 hw2 hb0 hb1 hb2 z2 hk hf hs hn hc hP hG hL0
 by_cases t4:40<cs.length
 ·have HPE:=Hp (show P=([],[],2) by rw[HP.out];unfold fD;rw[if_pos t4])
  have t4':decide ((40:Int)<(cs.length:Int))=true:=decide_eq_true (by omega)
  clear t4 HP cR
  go_enter Tryz.func18,Tryz.ntmps18
  go_upto_region 1 with fail
  rw[hw2'.out]
  clear hw2'
  have r0:=heap_cell HR2.out 0
  have rf:=heap_free HR2.out 0
  simp only[GZ2,GZ0]at r0
  go_wp2_with fail
  refine rP rfl rfl HR2.out ?_
  rw[HPE.out]
  exact Di (HB2.setCell (p:=⟨w.heap.size+2,0,none⟩) (Nat.le_add_right _ 2) _)
 ·have t4':decide ((40:Int)<(cs.length:Int))=false:=GY7 (by omega)
  have H40:=Hp t4
  go_enter Tryz.func18,Tryz.ntmps18
  go_upto_region 1 with fail
  rw[hw2'.out]
  clear hw2'
  go_wp2_with fail
  refine(cR.out).mono ?_;rintro e w3 ⟨⟨k',A',l',c',rfl,hrg⟩,hb3⟩
  obtain⟨w4,hw4⟩:=Nm (w3.alloc (.cells #[.int .i64 k'.major,.int .i64 k'.minor,.slice k'.eA k'.ex.length k'.eC,.slice A' l'.length c'] 39))
  obtain⟨w5,hw5⟩:=Nm (w4.alloc (.cells #[.int .i64 G] 30))
  have hb4:Below w3.heap.size w3 w4:=hw4▸ZB
  have hb5:Below w4.heap.size w4 w5:=hw5▸ZB
  have z4:w4.heap.size=w3.heap.size+1:=by rw[hw4];simp
  have z5:w5.heap.size=w3.heap.size+2:=by rw[hw5];simp;omega
  have hb35:=hb4.trans (hb5.mono hb4.size)
  have hb25:=hb3.trans (hb35.mono hb3.size)
  have HG5:=Hp ((hb5.block _ (by omega)).trans (show w4.heap[w3.heap.size]? =some (.cells #[.int .i64 k'.major,.int .i64 k'.minor,.slice k'.eA k'.ex.length k'.eC,.slice A' l'.length c'] 39 (0,0)) by rw[hw4];exact heap_alloc_new w3 _))
  have HE5:=Hp (show Boxed w5 (w3.heap.size+1) 30 (.int .i64 G) by rw[<-z4];exact hw5▸Boxed.new _ _ _)
  have HB5:=Hp hb25
  have HR5:=Hp ((hb25.block _ (ZL HR2)).trans HR2)
  have HF5:=Hp ((hb25.block _ (ZL HF2)).trans HF2)
  have HS3:=Hp hb3.size
  have HZ5:=Hp z5
  have e5:=HE5.cell
  by_cases s:G=0
  ·subst s
   have hrg0:=hrg
   rw[wK0,wL0]at hrg0
   have hRo:=hrg0.own.below hb35
   have HOW:=Hp hRo
   have HKE:=Hp hrg0.RU
   have HME:=Hp hrg0.mods
   obtain⟨w6,hw6⟩:=Nm (w5.alloc (.cells #[.int .i64 k'.major,.int .i64 k'.minor,.slice k'.eA k'.ex.length k'.eC,.slice A' l'.length c'] 126))
   obtain⟨w7,hw7⟩:=Nm (w6.alloc (.cells #[.pointer (some ⟨w5.heap.size,0,none⟩)] 124))
   have hb6:Below w5.heap.size w5 w6:=hw6▸ZB
   have hb7:Below w6.heap.size w6 w7:=hw7▸ZB
   have z6:w6.heap.size=w5.heap.size+1:=by rw[hw6];simp
   have z7:w7.heap.size=w5.heap.size+2:=by rw[hw7];simp;omega
   have hb57:=hb6.trans (hb7.mono hb6.size)
   have HB7:=Hp (HB5.trans (hb57.mono HB5.size))
   have HRU7:=Hp (show kT w7 w2.heap.size w5.heap.size k L0 from⟨k',A',l',c',⟨(hb7.block _ (by omega)).trans (by rw[hw6];exact heap_alloc_new w5 _),hRo.below hb57,HB5.size⟩,hrg0.RU,hrg0.mods⟩)
   have HX7:=Hp (show Boxed w7 (w5.heap.size+1) 124 (.pointer (some ⟨w5.heap.size,0,none⟩)) by rw[<-z6];exact hw7▸Boxed.new _ _ _)
   have HE7:=Hp (dX HE5.out hb57 (by omega))
   have f7:=heap_cell ((hb57.block _ (ZL HF5.out)).trans HF5.out) 0
   simp only[GZ2,GZ0]at f7
   obtain⟨_,q0,q1,q2,q3,_⟩:=aB HG5.out
   have hre:S9 k f.bl=0:=HG.symm
   have hkr:bJ k=0:=by
    unfold S9 at hre
    by_cases e:bJ k=0
    ·exact e
    ·rw[if_pos e]at hre;exact hre
   have hfl:bP f.bl=0:=by
    unfold S9 at hre
    rw[if_neg (by omega)]at hre
    unfold gZ at hre
    by_cases e:bP f.bl=0
    ·exact e
    ·rw[if_neg e]at hre;exact hre
   have HFL:=Hp hfl
   have HRG0:=Hp (show aZ k L0=0 by rw[HL0.out];exact oO hkr _)
   have HPE:=Hp (show P=RD k L0 f.bl cs by rw[HP.out,HL0.out];unfold fD;rw[if_neg t4,if_neg (by omega)])
   have cDn:=Hp (show Calls Tryz.prog 77 #[.agg #[.slice f.a f.bl.length f.c],.slice none 0 0] w7 _ from Gg f none 0 [] w7 (HFO.below (HB2.trans (HB7.mono HB2.size))) hfl (by simp) ⟨Row.nil,Nat.zero_le _⟩)
   have HZ7:=Hp z7
   go_upto_region 4 with fail
   rw[<-hw4,<-hw5]
   have hw6':=hw6.symm
   have hw7':=hw7.symm
   clear hw4 hw5 hw6 hw7 hb3 hb4 hb5 hb6 hb7 hb35 hb25 hb57 z4 z5 z7 hrg hrg0 hRo hre hkr hfl t4
   go_wp2_with fail
   refine(cDn.out).mono ?_;rintro e w8 ⟨hb8,A8,c8,rfl,hc8,ho8⟩
   obtain⟨w9,hw9⟩:=Nm (w8.alloc (.cells #[.slice A8 f.bl.length c8] 29))
   obtain⟨w10,hw10⟩:=Nm (w9.alloc (.cells #[.slice none 0 0] 34))
   have hb9:Below w8.heap.size w8 w9:=hw9▸ZB
   have hb10:Below w9.heap.size w9 w10:=hw10▸ZB
   have z9:w9.heap.size=w8.heap.size+1:=by rw[hw9];simp
   have z10:w10.heap.size=w8.heap.size+2:=by rw[hw10];simp;omega
   have hb810:=hb9.trans (hb10.mono hb9.size)
   have hb710:=hb8.trans (hb810.mono hb8.size)
   have h2:=HB7.size
   have h7:=HZ7.out
   have h5:=HZ5.out
   have h3:=HS3.out
   have h8:=hb8.size
   have hk710:Kp [] w7 w10:=Kp.of_below hb710
   have HINV:=Hp (show Ka w2 (w8.heap.size+2) w5.heap.size (w8.heap.size+1) (w5.heap.size+1) w8.heap.size (w3.heap.size+1) k L0 f.bl cs 0 w10 from
    ⟨HB7.out.trans (hb710.mono h2),box_kp HX7.out hk710 (by simp),HRU7.out.kp hk710 (by simp) (by simp) (by simp) (by simp) (by simp),⟨.slice none 0 0,(by rw[<-z9];exact hw10▸Boxed.new _ _ _),dN.nil _ _⟩,
     ⟨⟨f.bl,A8,c8⟩,(hb10.block _ (by omega)).trans (by rw[hw9];exact heap_alloc_new w8 _),⟨(ho8.below hb810 (GZ3 _)).more (by omega),hc8,rfl⟩⟩,box_kp HE7.out hk710 (by simp),rfl,by omega⟩)
   have HLO:=Hp (show w2.heap.size<=w8.heap.size+1/\w2.heap.size<=w8.heap.size/\w2.heap.size<=w3.heap.size+1 from⟨by omega,by omega,by omega⟩)
   have HLT:=Hp (show w3.heap.size+1<w8.heap.size+2 by omega)
   have cE:=Hp (DN cA cc cs 79 #[.pointer (some ⟨w5.heap.size+1,0,none⟩),.pointer (some ⟨w8.heap.size,0,none⟩),.pointer (some ⟨w3.heap.size+1,0,none⟩),.pointer (some ⟨w8.heap.size+1,0,none⟩)] (Ka w2 (w8.heap.size+2) w5.heap.size (w8.heap.size+1) (w5.heap.size+1) w8.heap.size (w3.heap.size+1) k L0 f.bl cs) (KP w2 (w8.heap.size+2) (w8.heap.size+1) w8.heap.size (w3.heap.size+1) P) w10 (enters_of Tryz.func79 (by kernel_rfl) rfl) HC.len
    (fun j W hI=>(HC.below (HB2.trans (hI.bel.mono HB2.size))).row)
    (fun j W W' hI hb=>⟨hI.bel.trans (hb.mono hI.bel.size),box_kp hI.x (Kp.of_below (ts:=[]) hb) (by simp),hI.run.kp (Kp.of_below (ts:=[]) hb) (by simp) (by simp) (by simp) (by simp) (by simp),hI.errs.kp (Kp.of_below (ts:=[]) hb) (by simp) (by simp),hI.fl.kp (Kp.of_below (ts:=[]) hb) (by simp) (by simp),box_kp hI.e (Kp.of_below (ts:=[]) hb) (by simp),hI.zero,GY1 hI.size hb.size⟩)
    (fun j hj W hI=>by
     have hnx:=LX hj hI.zero
     refine(L9 w2.heap.size (w8.heap.size+2) w5.heap.size (w8.heap.size+1) (w5.heap.size+1) w8.heap.size (w3.heap.size+1) k (Rl k L0 (cs.take j)) (RD k L0 f.bl (cs.take j)).2.1 (RD k L0 f.bl (cs.take j)).1 cs[j] W hI.run (lG _ HRG0.out) hI.errs hI.x hI.fl (FI _ HFL.out) hI.e
      (fun W' hb=>((HC.below (HB2.trans ((hI.bel.trans hb).mono HB2.size))).each _ (GZ9 hj)).1) (HC.each _ (GZ9 hj)).2 (by have:=BS (k:=k) (cs.take j) (l:=L0) (F:=f.bl);rw[GY6]at this;have:=H40.out;omega) HLO.out HLT.out (GY1 HLO.out.2.1 (Nat.le_add_right _ 2)) hI.size).mono ?_
     rintro e W' ⟨hb,hx,⟨rfl,h1,h2,h3,h4,h5⟩|⟨rfl,h1,h2,h3,h4,h5⟩⟩
     ·refine .inl ⟨rfl,hI.bel.trans hb,hx,by rw[Bt hj];exact h2,?_,?_,h5,?_,GY1 hI.size hb.size⟩
      ·rw[hnx]
       by_cases d:doE k (Rl k L0 (cs.take j)) cs[j]=0
       ·rw[d]at h3
        have h1:=h1.resolve_left (by rw[d];simp)
        rw[if_neg (by rw[d];simp),if_neg (by rw[h1];simp)];exact h3
       ·rw[if_pos d];exact h3
      ·rw[hnx]
       by_cases d:doE k (Rl k L0 (cs.take j)) cs[j]=0
       ·have h1:=h1.resolve_left (by rw[d];simp)
        rw[if_neg (by rw[d];simp)]at h4
        rw[if_neg (by rw[d];simp),if_neg (by rw[h1];simp)];exact h4
       ·rw[if_pos d]at h4
        rw[if_pos d];exact h4
      ·rw[hnx]
       by_cases d:doE k (Rl k L0 (cs.take j)) cs[j]=0
       ·have h1:=h1.resolve_left (by rw[d];simp)
        rw[if_neg (by rw[d];simp),if_neg (by rw[h1];simp)]
       ·rw[if_pos d]
     ·have hpe:P=((RD k L0 f.bl (cs.take j)).1,(RD k L0 f.bl (cs.take j)).2.1,dF (RD k L0 f.bl (cs.take j)).1 (aG cs[j]).length):=by
       rw[if_neg (by rw[h1];simp),if_pos h2]at hnx
       rw[HPE.out,zX (j:=j+1) (by rw[hnx];exact h2),hnx]
      exact .inr ⟨rfl,hI.bel.trans hb,by rw[hpe];exact h3,by rw[hpe];exact h4,by rw[hpe];exact h5⟩)
    HINV.out)
   have hw9':=hw9.symm
   have hw10':=hw10.symm
   clear hw9 hw10 hb8 hb9 hb10 hb810 hb710 hk710 h2 h7 h5 h3 h8 ho8 z10 hc8 cDn q0 q1 q2 q3 f7
   go_wp2_with fail
   refine(cE.out).mono ?_;rintro e w11 ⟨⟨u,rfl⟩,hI⟩
   have hfin:KP w2 (w8.heap.size+2) (w8.heap.size+1) w8.heap.size (w3.heap.size+1) P w11:=by
    rcases hI with hI|hI
    ·have ht:cs.take cs.length=cs:=List.take_of_length_le (GZ3 _)
     have h1:=hI.errs
     have h2:=hI.fl
     have h3:=hI.zero
     rw[ht]at h1 h2 h3
     rw[<-HPE.out]at h1 h2 h3
     exact⟨hI.bel,h1,h2,by rw[h3];exact hI.e⟩
    ·exact hI
   obtain⟨hb11,⟨v,hbo,hv⟩,⟨f',hh,hr⟩,he⟩:=hfin
   obtain⟨eA,ec,rfl⟩:=bG hv
   have hR11:=(hb11.block _ (ZL HR2.out)).trans HR2.out
   have HR11:=Hp hR11
   have r0:=heap_cell hR11 0
   have rf:=heap_free hR11 0
   have y0:=heap_cell hh 0
   simp only[GZ2,GZ0]at r0 y0
   have o0:=hbo.cell
   have e0:=he.cell
   have HV:=Hp hv
   have HFR:=Hp hr
   have HBE:=Hp (HB2.trans (hb11.mono HB2.size))
   have n1:w8.heap.size+1≠w.heap.size+2:=by have:=HLO.out.1;have:=HZ2.out;omega
   have n2:w8.heap.size≠w.heap.size+2:=by have:=HLO.out.2.1;have:=HZ2.out;omega
   have n3:w3.heap.size+1≠w.heap.size+2:=by have:=HLO.out.2.2;have:=HZ2.out;omega
   clear hI hb11 hbo hv hh hr he hR11 cE HINV hw9' hw10' hw6' hw7'
   go_upto_region 10 with fail
   go_region
   all_goals(
    go_wp2_with fail
    have hg:=heap_setCell_same w11 (w.heap.size+2) 0 _ _ (.slice f'.a f'.bl.length f'.c) HR11.out
    have hkr:Kp [29] w11 (w11.setCell ⟨w.heap.size+2,0,none⟩ (.slice f'.a f'.bl.length f'.c)):=Kp.set HR11.out (by simp) 0 _
    refine bodyPost_ret (dR rfl _ _ (w.heap.size+2) 29 _ (0,0) _ rfl hg Tryz.underlying29 rfl Tryz.jI) rfl ?_
    have hd:∀W:World,Below W.heap.size W W.drew:=fun W=>(GZ4 _ _).drew
    have hfr:=(HFR.keep hkr (by decide)).keep (Kp.of_below (ts:=[]) (hd _)) (by simp)
    have hes:=aO (own_kp HV.out hkr (by decide)) (hd _)
    exact⟨⟨f',eA,ec,rfl,hfr.down HB2.size,RH hes (GY1 HB2.size (GY1 HLO.out.2.1 (Nat.le_add_right _ 2)))⟩,Below.drew (HBE.setCell (p:=⟨w.heap.size+2,0,none⟩) (Nat.le_add_right _ 2) _)⟩)
  ·have s':(G != 0)=true:=by simp[s]
   have HPE:=Hp (show P=([],[],G) by rw[HP.out];unfold fD;rw[if_neg t4,if_pos (by rw[<-HG.out];exact s),<-HG.out])
   have HBE:=Hp (HB2.trans (hb25.mono HB2.size))
   have n3:w3.heap.size+1≠w.heap.size+2:=by have:=HS3.out;have:=HZ2.out;omega
   have r0:=heap_cell HR5.out 0
   have rf:=heap_free HR5.out 0
   simp only[GZ2,GZ0]at r0
   go_upto_region 4 with fail
   rw[<-hw4,<-hw5]
   clear hw4 hw5 hb3 hb4 hb5 hb35 hb25 z4 z5 hrg t4 s
   go_upto_region 5 with fail
   go_region
   all_goals(
    go_wp2_with fail
    have hg:=heap_setCell_same w5 (w.heap.size+2) 0 _ _ (.slice none 0 0) HR5.out
    refine bodyPost_ret (dR rfl _ _ (w.heap.size+2) 29 _ (0,0) _ rfl hg Tryz.underlying29 rfl Tryz.jI) rfl ?_
    rw[HPE.out]
    exact Di (Below.drew (HBE.setCell (p:=⟨w.heap.size+2,0,none⟩) (Nat.le_add_right _ 2) _)))
end
end Go.Proofs.YtjiedaialianmaaGreat
