import Derived.Test.YtjiedaialianmaaGreatA04
import Derived.Test.YtjiedaialianmaaGreatA06
import Derived.Test.YtjiedaialianmaaGreatA07
set_option maxRecDepth 100000
set_option maxHeartbeats 4000000
namespace Go.Proofs.YtjiedaialianmaaGreat
section
open Go.RowKit Go.Sort
open Gs (Tx)
theorem Nn {l:List Plc}{j:Nat}(h:j<l.length):txs (l.take (j+1))=txs (l.take j)++[tx l[j].m.name]:=by
 unfold txs;rw[List.take_succ_eq_append_getElem h,List.map_append];rfl
theorem Ew (l:List Tx):(Gs.Sd l).length=l.length:=(Gs.SN l).length_eq
theorem Dn (A:Option Addr)(c:Nat)(l:List Plc)(w:World)(h:Row Plc.cells 8 w A l)(h8:l.length<=8):
  Calls Tryz.prog 156 #[.slice A l.length c] w fun e w'=>(∃v,e=.returned v/\TR w' w.heap.size v (Gs.Sd (txs l)))/\Below w.heap.size w w':=by
 have HP:=Hp h
 clear h
 go_enter Tryz.func156,Tryz.ntmps156
 go_wp2_with fail
 go_loopw [3,8] (fun v i wr=>∃j:Nat,j<=l.length/\i=.int .i64 j/\TR wr w.heap.size v (txs (l.take j))/\Below w.heap.size w wr) (fun _ i _=>l.length -(intOf i).toNat)
 case atStart=>exact⟨0,by omega,rfl,TR.nil _ _,GZ4 _ _⟩
 case round=>
  obtain⟨j,hj,rfl,ht,hb⟩:=hrel
  have HT:=Hp ht
  have HB:=Hp hb
  clear ht
  have hwz:=hb.size
  by_cases hlt:j<l.length
  ·have hlt':(j:Int)<l.length:=by omega
   obtain⟨ad,rfl,hab,h0,h1,h2,h3,h4,h5,h6,h7⟩:=RS HP.out hb j hlt
   have e1:=Hp (Nn hlt)
   have HL:=Hp (show(txs (l.take j)).length<=8 by rw[eZ,GY6];omega)
   obtain⟨y,hy⟩:=Nm (l[j]'hlt)
   rw[<-hy]at h0 h1 h2 h3 h4 h5 h6 h7 e1
   obtain⟨wx,hwx⟩:=Nm (wr.alloc (.cells #[.string y.m.name,.int .i64 y.m.major,.int .i64 y.m.minor,.string y.m.text,.slice y.m.eA y.m.ex.length y.m.eC,.slice y.m.iA y.m.im.length y.m.iC,.slice y.m.pA y.m.pa.length y.m.pC,.int .i64 y.first] 83))
   obtain⟨x0,x1,x2,x3,x4,x5,x6,x7,hzx,hbx⟩:=zH hwx
   have hwx':=hwx.symm
   have hzy:wr.heap.size<wx.heap.size:=by omega
   have HTX:=Hp (show TR wx w.heap.size _ (txs (l.take j)) from hwx▸HT.out.alloc _)
   have HBX:=Hp (hb.trans (hbx.mono hwz))
   have HZX:=Hp (show w.heap.size<=wx.heap.size by omega)
   clear hb hwx hbx hy hzx
   go_wp2_with (at_builtin;refine Ct wx rfl _ _ rfl w.heap.size _ (txs (l.take j)) y.m.name rfl rfl (by exact HTX.out) (by have:=HL.out;omega) HZX.out ?_;intro v' w4 ht4 hb4)
   go_roundw
   case rel=>exact⟨j+1,by omega,by go_num,by rw[e1.out];exact ht4,HBX.trans hb4⟩
   case measure=>(simp[intOf];try omega)
  ·obtain rfl:j=l.length:=by omega
   have HT2:=Hp (show TR wr w.heap.size _ (txs l) by have:=HT.out;rwa [List.take_length]at this)
   have HL:=Hp (show(txs l).length<=big by rw[eZ];unfold big;omega)
   clear hb
   go_wp2_with (go_at_call 219;refine(MQ HT2.own HL.out).mono ?_;rintro e w2 ⟨rfl,ht2,hg2⟩;have HT3:=Hp ht2;have HG:=Hp hg2;clear ht2 hg2)
   go_ret
   exact⟨⟨_,rfl,TR.of_own HT3.out⟩,HB.grown HG.out hwz (fun g hg=>(HT2.lt g hg).1)⟩
theorem LQ (A:Option Addr)(c:Nat)(l:List Plc)(w:World)(h:Row Plc.cells 8 w A l)(h8:l.length<=8):
  Calls Tryz.prog 155 #[.slice A l.length c] w fun e w'=>e=.returned (.bool (dD l))/\Below w.heap.size w w':=by
 have c1:=Hp (Dn A c l w h h8)
 have e1:=Hp (show dD l=decide ((Lib.compact (Gs.Sd (txs l))).length<l.length) from rfl)
 generalize Gs.Sd (txs l)=T at*
 generalize dD l=b at*
 clear h
 go_enter Tryz.func155,Tryz.ntmps155
 go_wp2_with (first
  |(go_at_call 156;refine(c1.out).mono ?_;rintro e w2 ⟨⟨v,rfl,ht2⟩,hb2⟩;have HT:=Hp ht2;have HB:=Hp hb2;clear ht2 hb2)
  |(go_at_call 218;refine(F6 HT.own).mono ?_;rintro e w3 ⟨⟨A3,c3,rfl⟩,hg3⟩;have HG:=Hp hg3;clear hg3))
 go_ret
 exact⟨aV (by rw[e1.out]),HB.grown HG.out HB.size (fun g hg=>(HT.lt g hg).1)⟩
end
section
open Go.RowKit Go.Maps Go.WideMaps Go.Sort
open Gs (Tx)
theorem MS {ks ks':List ByteArray}(h:ks.Perm ks')(s:ByteArray):cnt ks s=cnt ks' s:=by
 unfold cnt;rw[(h.filter _).length_eq]
theorem Ra.perm {w:World}{b n:Nat}{ks ks':List ByteArray}(h:Ra w b n ks)(p:ks.Perm ks'):Ra w b n ks':=by
 obtain⟨D,h1,h2⟩:=h
 exact⟨D,h1,fun s=>by rw[h2,MS p]⟩
def Mt (w:World)(b:Nat)(M:List Tx):Prop:=Ra w b M.length (M.map bs)
theorem Mt.put {w:World}{b:Nat}{M:List Tx}{s:Tx}(h:Ra w b (M.length+1) (M.map bs++[bs s])):Mt w b (s::M):=by
 unfold Mt
 refine Ra.perm h ?_
 rw[List.map_cons]
 exact List.perm_append_comm (l₁:=M.map bs) (l₂:=[bs s])
theorem Mt.lt {w:World}{b:Nat}{M:List Tx}(h:Mt w b M):b<w.heap.size:=Ra.lt h
theorem Mt.kept {w w':World}{b B:Nat}{M:List Tx}(h:Mt w b M)(hb:Below B w w')(hB:b<B):Mt w' b M:=Ra.kept h hb hB
structure Wk (w0:World)(T:List Tx)(tA:Option Addr)(tC g:Nat)(lb:Array Value)(p b:Nat)(w:World):Prop where
 below:Below w0.heap.size w0 w
 f0:w.cell? ⟨p,0,none⟩=some (.slice tA T.length tC)
 f1:w.cell? ⟨p,1,none⟩=some (.map (some b))
 f2:w.cell? ⟨p,2,none⟩=some (.func (.func g) #[] lb)
 row:Hl w tA T
 pb:p≠b
 low:w0.heap.size<=b
 rb:∀ad,tA=some ad->ad.block≠b
 plt:p<w.heap.size
theorem L6 {w w':World}{size n b:Nat}{A:Option Addr}{xs:List Value}(h:Reads w w.heap.size size A n xs)(hg:w.grownBy w' (some b))(hr:∀ad,A=some ad->ad.block≠b):Reads w' w'.heap.size size A n xs:=
 ⟨h.1,fun hn=>by
  obtain⟨ad,e,hlt,hc⟩:=h.2 hn
  refine⟨ad,e,GY0 hlt hg.size,fun j u hu=>hg.cell (hc j u hu) ?_⟩
  rw[aA]
  exact fun q=>hr ad e (GY3 q)⟩
theorem Wk.keep {w0:World}{T:List Tx}{tA:Option Addr}{tC g:Nat}{lb:Array Value}{p b:Nat}{w w':World}(h:Wk w0 T tA tC g lb p b w)(hg:w.grownBy w' (some b)):Wk w0 T tA tC g lb p b w' where
 below:=h.below.grown hg h.below.size (fun k hk=>by cases hk;exact h.low)
 f0:=hg.cell h.f0 (fun q=>h.pb (GY3 q))
 f1:=hg.cell h.f1 (fun q=>h.pb (GY3 q))
 f2:=hg.cell h.f2 (fun q=>h.pb (GY3 q))
 row:=L6 h.row hg h.rb
 pb:=h.pb
 low:=h.low
 rb:=h.rb
 plt:=GY0 h.plt hg.size
end
section
open Go
theorem yA :∀(l:List Plc)(a:Int),bI a (aD l)=(aD (bI a l).1,(bI a l).2)
 | [],_=>rfl
 |x::l,a=>by
  show bI a (x.bare::aD l)=_
  unfold bI
  have e:aH x.bare.m=aH x.m:=rfl
  have f:x.bare.first=x.first:=rfl
  rw[e,f,yA l];rfl
theorem Ad :∀(l:List Plc)(a:Int),bW a (aD l)↔bW a l
 | [],_=>Iff.rfl
 |x::l,a=>by
  show(a<=x.first/\1<=aH x.m/\aH x.m<=4/\bW (aR x) (aD l))↔_
  rw[Ad l];rfl
theorem EG {l l':List Plc}(h:aD l=aD l')(a:Int):aD (bI a l).1=aD (bI a l').1/\(bI a l).2=(bI a l').2:=by
 have e:=(yA l a).symm.trans ((congrArg (bI a) h).trans (yA l' a))
 have e1:=congrArg Prod.fst e
 have e2:=congrArg Prod.snd e
 exact⟨e1,e2⟩
theorem Jk {l l':List Plc}(h:aD l=aD l'){a:Int}(hr:bW a l):bW a l':=by
 rw[<-Ad]at hr ⊢;rwa [<-h]
theorem MK {l l':List Plc}(h:aD l=aD l'){n:Nat}(hm:∀x∈l',x.m.text.size<=n):∀x∈l,x.m.text.size<=n:=fun x hx=>by
 have:x.bare∈aD l':=h▸List.mem_map_of_mem hx
 obtain⟨y,hy,e⟩:=List.mem_map.1 this
 have e2:y.m.text=x.m.text:=congrArg (fun z=>z.m.text) e
 rw[<-e2];exact hm y hy
theorem nY {l l':List Plc}(h:aD l=aD l'):l.length=l'.length:=by
 have:=congrArg List.length h
 simpa using this
theorem LW {l l':List Plc}(h:l.map (·.m)=l'.map (·.m)){n:Nat}(hm:∀x∈l',x.m.text.size<=n):∀x∈l,x.m.text.size<=n:=fun x hx=>by
 obtain⟨y,hy,e⟩:=oF h.symm hx
 rw[<-e];exact hm y hy
end
section
open Go.RowKit
theorem MG (i:Int)(w:World):Calls Tryz.prog 150 #[.int .i64 i] w fun e w'=>e=.returned (.int .u8 (255:Nat))/\w'=w:=by
 go_enter Tryz.func150,Tryz.ntmps150
 go_wp2_with fail
 go_ret
 exact⟨rfl,rfl⟩
theorem NZ (s:ByteArray)(i:Nat)(h:i<s.size):s[i]'h=(bytesOf s).getD i 0:=by
 rw[List.getD_eq_getElem?_getD,GY5 (by rw[RB];exact h)]
 simp[bytesOf]
 rfl
theorem bZ (s:ByteArray)(i:Nat)(h:i<s.size)(w:World):(Instr.index 9 (.string s) (.int .i64 (i:Int))).run Tryz.prog w=.ok (.int .u8 (((bytesOf s).getD i 0).toNat:Int)) w:=by
 rw[run_index_string w 9 s .i64 (i:Int) Tryz.underlying9,dif_pos (by omega)]
 simp only[Int.toNat_natCast]
 rw[NZ s i h]
end
section
open Go.RowKit
theorem dA.ne {w:World}{base:Nat}{v:Value}{l:List ByteArray}{O:Nat}{cs:Array Value}{t:TypeId}{fr:Nat×Nat}(h:dA w base v l)(hO:w.heap[O]? =some (.cells cs t fr))(ht:t≠9):v.ownBlock≠some O:=by
 intro hv
 rcases h.2 with⟨rfl,_⟩|⟨g,cap,cur,rfl,_,e3,_⟩
 ·cases hv
 ·simp only[Value.ownBlock]at hv
  have:g=O:=by simpa using hv
  subst this
  rw[e3]at hO
  injection hO with hO
  injection hO with _ h2 _
  exact ht h2.symm
theorem dA.eT {w:World}{base:Nat}{v:Value}{l:List ByteArray}{O:Nat}{cs:Array Value}{t:TypeId}{fr:Nat×Nat}(h:dA w base v l)(hO:w.heap[O]? =some (.cells cs t fr))(ht:t≠9)(o:Nat)(x:Value):dA (w.setCell ⟨O,o,none⟩ x) base v l:=
 ownsRow_setCell_other (a:=⟨O,o,none⟩) h (h.ne hO ht) x
theorem Jq {f:List ByteArray}{l:List Ded}{j:Nat}(h:j<l.length):bT f (l.take (j+1))=fB (bT f (l.take j)) l[j] (fun _=>255):=by
 rw[List.take_succ_eq_append_getElem h,mM];rfl
theorem dA.texts {w:World}{base:Nat}{A:Option Addr}{n c:Nat}{l:List ByteArray}(h:dA w base (.slice A n c) l)(hf:bP l=0):jK w A l:=by
 obtain⟨A',c',e,hr,hc⟩:=h.form
 injection e with e1 e2 e3
 subst e1
 obtain⟨h1,h2⟩:=fP.1 hf
 exact⟨hr,by unfold big;omega,fun s hs=>by rw[h2 s hs];decide⟩
theorem Gg (f:Fl)(A:Option Addr)(c:Nat)(l:List Ded)(w:World)(h:f.ok w)(hf:bP f.bl=0)(hd:∀d∈l,eB f.bl.length d=0)(hl:ES w A l):
  Calls Tryz.prog 77 #[f.v,.slice A l.length c] w fun e w'=>Below w.heap.size w w'/\∃(A':Option Addr)(c':Nat),e=.returned (.agg #[.slice A' f.bl.length c'])/\f.bl.length<=c'/\dA w' w.heap.size (.slice A' f.bl.length c') (bT f.bl l):=by
 have hln:=(fP.1 hf).1
 obtain⟨w1,hw1⟩:=Nm (w.alloc (.cells #[.slice f.a f.bl.length f.c] 29))
 obtain⟨f0,hz1,hb1⟩:=Ui hw1
 obtain⟨w2,hw2⟩:=Nm (w1.alloc (.cells #[.slice none 0 0] 29))
 obtain⟨_,hR,hz2,hb2⟩:=jG hw2
 have k0:=(hb2.cell (p:=⟨w.heap.size,0,none⟩) (by simp;omega)).trans f0
 have HB2:=Hp (hb1.trans (hb2.mono (by omega)))
 have cC:=Hp (Co f.a f.bl f.c w2 (h.row.below HB2.out).row (by omega) (by omega))
 have HZ1:=Hp hz1
 have hw1':=hw1.symm
 have hw2':=hw2.symm
 have HR:=Hp hR
 have HZ2:=Hp hz2
 have HF:=Hp hf
 have HD:=Hp hd
 have HROW:=Hp hl.row
 have hl63:=hl.len
 unfold big at hl63
 obtain⟨n,hn⟩:=Nm f.bl.length
 unfold Fl.v
 rw[<-hn]at cC k0 hw1' hln HD ⊢
 have HN:=Hp hn
 clear hw1 hw2 hb1 hb2 f0 hR hz2 hf hd hl h hn hz1
 go_enter Tryz.func77,Tryz.ntmps77
 go_wp2_with (
  go_at_call 149
  refine(cC.out).mono ?_
  rintro e w3 ⟨hb3,A3,c3,rfl,hc3,ho⟩
  obtain⟨w4,hw4⟩:=Nm (w3.alloc (.cells #[.slice A3 n c3] 29))
  obtain⟨_,hY4,hz4,hb4⟩:=jG hw4
  have hw4':=hw4.symm
  have HB4:=Hp (hb3.trans (hb4.mono hb3.size))
  have HO4:=Hp (ho.below hb4 (GZ3 _))
  have HY4:=Hp hY4
  have HZ23:=Hp hb3.size
  clear hw4 hz4 hb3 hb4 hY4 ho)
 go_loopw [14] (fun i wr=>∃(j:Nat)(A':Option Addr)(c':Nat),j<=l.length/\i=.int .i64 j/\wr.heap[w3.heap.size]? =some (.cells #[.slice A' n c'] 29 (0,0))/\n<=c'/\dA wr w2.heap.size (.slice A' n c') (bT f.bl (l.take j))/\Below w2.heap.size w2 wr) (fun i _=>l.length -(intOf i).toNat)
 case atStart=>exact⟨0,A3,c3,by omega,rfl,HY4.out,hc3,HO4.out,HB4.out⟩
 case round=>
  obtain⟨j,A',c',hj,rfl,hY,hc',hO,hb⟩:=hrel
  have y0:=cell_of_heap hY 0
  have yf:=aQ hY 0
  simp only[GZ2,GZ0]at y0
  have HY:=Hp hY
  have HO:=Hp hO
  have HB:=Hp hb
  have HX:=Hp (HB2.trans (hb.mono HB2.size))
  by_cases hlt:j<l.length
  ·have hlt':(j:Int)<l.length:=by omega
   obtain⟨ad,rfl,hab,h0,h1,h2⟩:=QW HROW.out HX.out j hlt
   obtain⟨w5,hw5⟩:=Nm (wr.alloc (.cells #[.int .i64 (l[j]'hlt).kind,.int .i64 (l[j]'hlt).at_,.int .i64 (l[j]'hlt).value] 60))
   obtain⟨d0,d1,d2,hz5,hb5⟩:=uE hw5
   have hOl:w3.heap.size<wr.heap.size:=(ZL hY)
   have y5:=(hb5.cell (p:=⟨w3.heap.size,0,none⟩) hOl).trans y0
   have hdn:∀d∈l.take j,eB f.bl.length d=0:=fun d hd=>by rw[<-HN.out];exact HD.out d (List.mem_of_mem_take hd)
   obtain⟨hfj,hnj⟩:=qQ HF.out hdn
   have HO5:=Hp (hO.below hb5 (GZ3 _))
   have cT:=Hp (J7 A' c' (bT f.bl (l.take j)) (l[j]'hlt).kind (l[j]'hlt).at_ (l[j]'hlt).value 150 #[] (fun _=>255) w5 (fun _ _=>by kernel_rfl) (HO5.texts hfj) hfj (by rw[hnj,<-HN.out];exact HD.out _ (GZ9 hlt))
    (fun i W _ _=>by rw[Array.append_empty];exact MG i W) (fun _=>by omega))
   rw[hnj,<-HN.out]at cT
   have HT:=Hp (Jq (f:=f.bl) hlt)
   obtain⟨G,hG⟩:=Nm (bT f.bl (l.take (j+1)))
   have HG:=Hp hG
   change Hid (Calls _ _ _ _ fun e w'=>_/\∃A' c',_/\_/\dA w' _ _ (fB (bT f.bl (l.take j)) l[j] (fun _=>255)))at cT
   rw[<-HT.out,<-hG]at cT
   have hw5':=hw5.symm
   have HY5:=Hp ((hb5.block _ hOl).trans hY)
   have HB5:=Hp (hb.trans (hb5.mono hb.size))
   have HOL:=Hp (show w3.heap.size<w5.heap.size by omega)
   have HZW:=Hp hb.size
   clear hw5 hY hO hb hOl hb5 hdn hfj hnj hG hz5
   go_wp2_with (
    go_at_call 98
    refine(cT.out).mono ?_
    rintro e w6 ⟨hb6,A6,c6,rfl,hc6,ho6⟩
    have hY6:=(hb6.block _ HOL.out).trans HY5.out
    have y6:=cell_of_heap hY6 0
    have yf6:=aQ hY6 0
    simp only[GZ2,GZ0]at y6
    have HY6:=Hp hY6
    have HO6:=Hp ho6
    have HB6:=Hp (HB5.trans (hb6.mono HB5.size))
    have HZ5:=Hp HB5.size
    clear hY6 ho6 hb6)
   go_roundw
   case rel=>
    refine⟨j+1,A6,c6,by omega,by go_num,?_,hc6,?_,?_⟩
    ·exact heap_setCell_same w6 w3.heap.size 0 _ _ (.slice A6 n c6) HY6.out
    ·rw[<-HG.out]
     exact(HO6.eT HY6.out (by decide) 0 _).more HZ5.out
    ·exact HB6.setCell (p:=⟨w3.heap.size,0,none⟩) HZ23.out _
   case measure=>(simp[intOf];try omega)
  ·have HE:=Hp (show bT f.bl (l.take j)=bT f.bl l by rw[List.take_of_length_le (by omega)])
   have hRr:wr.heap[w1.heap.size]? =some (.cells #[.slice none 0 0] 29 (0,0)):=(hb.block _ (by have:=HZ2.out;omega)).trans HR.out
   have v0:=cell_of_heap hRr 0
   have vf:=aQ hRr 0
   simp only[GZ2,GZ0]at v0
   have HRR:=Hp hRr
   clear hY hO hb hRr
   go_wp2_with fail
   have hR9:(wr.setCell ⟨w1.heap.size,0,none⟩ (.slice A' n c')).heap[w1.heap.size]? =some (.cells #[.slice A' n c'] 29 (0,0)):=
    heap_setCell_same wr w1.heap.size 0 _ _ (.slice A' n c') HRR.out
   refine bodyPost_ret (results_cell_row rfl _ _ w1.heap.size 29 _ (0,0) _ rfl hR9 Tryz.underlying29 rfl Tryz.jI) rfl ?_
   refine⟨HX.setCell (p:=⟨w1.heap.size,0,none⟩) (by have:=HZ1.out;simp;omega) _,_,_,rfl,hc',?_⟩
   rw[<-HE.out]
   exact(HO.eT HRR.out (by decide) 0 _).more HB2.size
end
section
open Go.RowKit
def Bu (e:Int)(l:List ByteArray):List ByteArray:=if e=0 then l else[]
structure Rt (w:World)(base:Nat)(f:Fl)(l:List ByteArray):Prop where
 own:dA w base (.slice f.a f.bl.length f.c) f.bl
 cap:f.bl.length<=f.c
 is:f.bl=l
theorem SK {e:Int}{l:List ByteArray}(h:e=0):Bu e l=l:=if_pos h
theorem AQ {e:Int}{l:List ByteArray}(h:e≠0):Bu e l=[]:=if_neg h
theorem AY (w:World)(b:Nat):dA w b (.slice F5.a F5.bl.length F5.c) F5.bl:=dA.nil w b
theorem EL {fn:Func}{p u:Tmp}(h:fn.results=#[.cell p 29,.tmp u]){tmps:Array Value}{W:World}{R:Nat}{v old:Value}{Q:Ending->World->Prop}
  (hp:tmps.getD p undef=.pointer (some ⟨R,0,none⟩)) (hR:W.heap[R]? =some (.cells #[old] 29 (0,0)))
  (hQ:Q (.returned (.tuple #[.agg #[v],tmps.getD u undef])) (W.setCell ⟨R,0,none⟩ v)):bodyPost Tryz.prog fn Q .ret ⟨tmps,[]⟩ (W.setCell ⟨R,0,none⟩ v):=by
 have hR9:(W.setCell ⟨R,0,none⟩ v).heap[R]? =some (.cells #[v] 29 (0,0)):=heap_setCell_same W R 0 _ _ v hR
 have hp':tmps[p]?.getD undef=.pointer (some ⟨R,0,none⟩):=by simpa using hp
 have hr:(results fn tmps).run Tryz.prog (W.setCell ⟨R,0,none⟩ v)=.ok (.tuple #[.agg #[v],tmps.getD u undef]) (W.setCell ⟨R,0,none⟩ v):=by
  simp[results,h,hp',asAddr,run_loadVar_row _ R 29 29 #[v] (0,0) _ hR9 Tryz.underlying29 rfl Tryz.jI]
 exact bodyPost_ret hr rfl hQ
end
section
open Go.RowKit
theorem oG {w:World}{a:Addr}{v:Value}(h:w.cell? a=some v):a.block<w.heap.size:=by
 rcases Nat.lt_or_ge a.block w.heap.size with hlt|hge
 ·exact hlt
 ·unfold World.cell? at h;rw[Array.getElem?_eq_none hge]at h;cases h
theorem uK (l:List UInt8)(i n:Nat):(ofBytes l).extract i (i+n)=ofBytes ((l.drop i).take n):=by
 have:((ofBytes l).extract i (i+n)).data.toList=(l.drop i).take n:=by
  simp[ofBytes,ByteArray.data_extract,List.extract]
 refine ba_eq (this.trans ?_)
 simp[ofBytes]
end
section
open Go.RowKit
theorem Rt.ok {w:World}{base:Nat}{f:Fl}{l:List ByteArray}(h:Rt w base f l)(hl:l=[]\/bP l=0):f.ok w:=by
 refine⟨?_,h.cap⟩
 have e:=h.is
 rcases hl with rfl|hf
 ·obtain⟨A',c',e2,hr,hc⟩:=dA.form h.own
  injection e2 with e1 _ _
  rw[e]at hr ⊢
  rw[e1]
  exact⟨hr,Nat.zero_le _,fun s hs=>by cases hs⟩
 ·exact dA.texts h.own (by rw[e];exact hf)
theorem pF {α:Type}{enc:α->List Value}{k:Nat}(hk:∀x,(enc x).length=k){w:World}{g:Nat}{cs:Array Value}{t:TypeId}{fr:Nat×Nat}{l:List α}(h:w.heap[g]? =some (.cells cs t fr))(e:cs.toList=l.flatMap enc):Row enc k w (some ⟨g,0,none⟩) l:=by
 refine⟨flat_length hk l,fun _=>⟨_,rfl,(ZL h),fun j u hu=>?_⟩⟩
 rw[show(⟨g,0,none⟩:Addr).add j=⟨g,j,none⟩ from by unfold Addr.add;split<;>simp_all,cell_of_heap h j,<-hu,<-e]
 simp
end
section
open Go.RowKit
theorem Ha (s:ByteArray)(w:World)(hs:s.size<=big):Calls Tryz.prog 173 #[.string s] w fun e w'=>e=.returned (.int .i64 (iG (bytesOf s):Nat))/\w'=w:=by
 unfold big at hs
 obtain⟨U,hU⟩:=Nm (iG (bytesOf s))
 rw[<-hU]
 have hU2:U=mD (bytesOf s) s.size:=by rw[hU,iG,RB]
 have HU:=Hp hU2
 clear hU hU2
 go_enter Tryz.func173,Tryz.ntmps173
 go_wp2_with fail
 go_loop [3] (fun n=>∃k:Nat,k<=s.size/\n=.int .i64 k/\mD (bytesOf s) k=U) (fun n=>(intOf n).toNat)
 case atStart=>exact⟨s.size,GZ3 _,rfl,HU.symm⟩
 case round=>
  obtain⟨k,hk,rfl,hN⟩:=hrel
  cases k with
  |zero=>
   have HN:=Hp hN
   clear hN
   go_wp2_with fail
   go_ret
   exact⟨aC (by rw[<-HN.out];rfl),rfl⟩
  |succ m=>
   have hm:m<s.size:=by omega
   have ix:=bZ s m hm
   have hx8:((bytesOf s).getD m 0).toNat<256:=kJ _
   obtain⟨c,hc⟩:∃c,c=(bytesOf s).getD m 0:=⟨_,rfl⟩
   rw[<-hc]at ix hx8
   unfold mD at hN
   rw[<-hc]at hN
   obtain⟨x,hx⟩:=Nm c.toNat
   rw[<-hx]at ix hx8
   have h1:(0:Int)<((m+1:Nat):Int):=by omega
   by_cases t:c=255
   ·rw[if_pos t]at hN
    have hx2:x=255:=by rw[hx,t];rfl
    subst hx2
    have HN:=Hp hN
    clear hN hx hc t
    go_wp2_with fail
    go_round
    case rel=>exact⟨m,by omega,by go_num,HN.out⟩
    case measure=>(simp[intOf];try omega)
   ·rw[if_neg t]at hN
    have hx2:((x:Int)==255)=false:=by
     have:x≠255:=fun e=>t (by rw[<-UInt8.toNat_inj,<-hx,e];rfl)
     simp;omega
    have HN:=Hp hN
    clear hN hx hc t
    go_wp2_with fail
    go_ret
    exact⟨aC (by rw[<-HN.out];first|rfl|omega),rfl⟩
theorem Jp (s:ByteArray)(b:Bool)(w:World)(hs:s.size<=big)(hb:b=(((iG (bytesOf s):Nat):Int)==0)):Calls Tryz.prog 170 #[.string s] w fun e w'=>e=.returned (.bool b)/\w'=w:=by
 have cU:=Hp (fun W=>Ha s W hs)
 obtain⟨U,hU⟩:=Nm (iG (bytesOf s))
 rw[<-hU]at cU hb
 have HB:=Hp hb
 clear hU hb
 go_enter Tryz.func170,Tryz.ntmps170
 go_wp2_with (go_at_call 173;refine(cU.out _).mono ?_;rintro e w' ⟨rfl,rfl⟩)
 go_ret
 exact⟨aV (by rw[HB.out]),rfl⟩
theorem Dy (B:Nat)(S:ByteArray)(i:Nat)(w:World)(hc:w.cell? ⟨B,0,none⟩=some (.string S))(hi:5*(i+1)<=S.size)(hs:S.size<=100000):
  Calls Tryz.prog 171 #[.pointer (some ⟨B,0,none⟩),.int .i64 i] w fun e w'=>e=.returned (.string (ofBytes (RV (bytesOf S) i)))/\w'=w:=by
 have HE:=Hp (show S.extract (S.size -5*(i+1)) (S.size -5*(i+1)+5)=ofBytes (RV (bytesOf S) i) by
  unfold RV
  rw[RB,<-uK,wR])
 have hi2:5*((i:Int)+1)<=S.size:=by omega
 go_enter Tryz.func171,Tryz.ntmps171
 go_wp2_with fail
 go_ret
 exact⟨by rw[<-HE.out];rfl,rfl⟩
theorem OG (W:World){ops:Array Oper}{o:Oper}{a:Act}{K:Act->World->Prop}{Q:Exit->Act->World->Prop}{E:Prop}(hgd:o.guard=none)(s x:Operand)
  (ho:o.op=.call {callee:=.builtin .append,args:=#[s,x],argTypes:=#[27,27]}) (base:Nat) (v:Value) (l0:List ByteArray) (hs:a.eval s=v) (hown:dA W base v l0)
  (A:Option Addr) (c:Nat) (l1:List ByteArray) (hx:a.eval x=.slice A l1.length c) (hr:Row strCells 1 W A l1) (hlen:l0.length+l1.length<=1000000) (hbase:base<=W.heap.size)
  (h:∀v' w',dA w' base v' (l0++l1)->Below base W w'->K (a.put o.dst v') w'):if Region.wanted o (yielded ops a.tmps)=true then Oper.wp Tryz.prog o a W K Q else E:=by
 obtain⟨i0,hi,hz0,hz1,hz2⟩:=info_parts Tryz.zQ
 refine jX W hgd s x 27 ho base 9 i0 (.string ⟨#[]⟩) 1 16 Tryz.underlying27 hi hz0 hz1 hz2 rfl (by decide) v l0.length (l0.map Value.string) hs hown W.heap.size A l1.length c (l1.flatMap strCells) hx hr
  (fun u hu=>by rw[<-rZ]at hu;obtain⟨y,_,rfl⟩:=List.mem_map.1 hu;rfl) (by simp only[maxLen];omega) (by omega) hbase ?_
 intro v' w' h1 h2 _
 refine h v' w' ?_ ((GZ4 base W).grown h2 hbase (iW hown))
 unfold dA
 rw[GZ8,List.map_append,rZ l1];exact h1
def JSt (w:World)(B:Nat)(S:ByteArray)(i:Nat)(R:List ByteArray)(e:Nat):Prop:=
 ∃(A:Option Addr)(c:Nat),w.heap[B]? =some (.cells #[.string S,.int .i64 i,.slice A R.length c,.int .i64 e] 154 (0,0))/\dA w (B+1) (.slice A R.length c) R
theorem Nu {w:World}{B:Nat}{S:ByteArray}{i:Nat}{R:List ByteArray}{e:Nat}{N:ByteArray}{A A':Option Addr}{c c':Nat}(hJ:w.heap[B]? =some (.cells #[.string S,.int .i64 i,.slice A R.length c,.int .i64 e] 154 (0,0)))
  (hO:dA w (B+1) (.slice A' (R++[N]).length c') (R++[N])):JSt (w.setCell ⟨B,2,none⟩ (.slice A' (R.length+1) c')) B S i (R++[N]) e:=by
 have hl:R.length+1=(R++[N]).length:=by simp
 rw[hl]
 exact⟨A',c',heap_setCell_same w B 2 _ _ (.slice A' (R++[N]).length c') hJ,hO.eT hJ (by decide) 2 _⟩
theorem EJ (a b:Nat)(ha:a<256)(hb:b<256):bits .or .i64 (a:Int) ((b:Int)*256)=((a+256*b:Nat):Int):=by
 rw[show(b:Int)*256=((b*256:Nat):Int) by omega,VS a (b*256) (by omega) (by omega)]
 have:=Nat.shiftLeft_add_eq_or_of_lt (b:=a) (i:=8) (by omega) b
 simp only[Nat.shiftLeft_eq,Nat.reducePow]at this
 rw[Nat.or_comm];omega
theorem LV (B:Nat)(E:ByteArray)(w:World)(hE:E.size=5)(h4:(bytesOf E).getD 4 0≠0):
  Calls Tryz.prog 172 #[.pointer (some ⟨B,0,none⟩),.string E] w fun e w'=>e=.returned (.bool true)/\w'=w:=by
 have i4:=bZ E 4 (by omega)
 obtain⟨x,hx⟩:∃x,x=((bytesOf E).getD 4 0).toNat:=⟨_,rfl⟩
 rw[<-hx]at i4
 have hx0:((x:Int) != 0)=true:=by
  have:x≠0:=fun e=>h4 (by rw[<-UInt8.toNat_inj,<-hx,e];rfl)
  simp;omega
 have i4':∀W,(Instr.index 9 (.string E) (.int .i64 4)).run Tryz.prog W=.ok (.int .u8 (x:Int)) W:=i4
 clear h4 hx i4
 go_enter Tryz.func172,Tryz.ntmps172
 go_wp2_with fail
 go_ret
 exact⟨rfl,rfl⟩
theorem Mw (B:Nat)(S E:ByteArray)(i:Nat)(A:Option Addr)(c:Nat)(R:List ByteArray)(e:Nat)(w:World)(hE:E.size=5)(hS:S.size<=100000)(hJ:w.heap[B]? =some (.cells #[.string S,.int .i64 i,.slice A R.length c,.int .i64 e] 154 (0,0)))
  (h4:(bytesOf E).getD 4 0=0) (hr:eU (bytesOf S) (bytesOf E) R e=none):
  Calls Tryz.prog 172 #[.pointer (some ⟨B,0,none⟩),.string E] w fun en w'=>en=.returned (.bool false)/\Below w.heap.size w w':=by
 have s0:=cell_of_heap hJ 0
 simp only[GZ2,GZ0]at s0
 unfold eU at hr
 rw[if_neg (by rw[h4];exact fun h=>h rfl),RB]at hr
 obtain⟨a,hma⟩:=Nm (oV (bytesOf E))
 have ha:=hma
 obtain⟨m,hmm⟩:=Nm (iN (bytesOf E))
 have hm:=hmm
 have HMA:=Hp hma
 have HMM:=Hp hmm
 clear hma hmm
 have i0':=bZ E 0 (by omega)
 have i1':=bZ E 1 (by omega)
 have i2':=bZ E 2 (by omega)
 have i3':=bZ E 3 (by omega)
 have i4':=bZ E 4 (by omega)
 rw[h4]at i4'
 have i4:∀W,(Instr.index 9 (.string E) (.int .i64 4)).run Tryz.prog W=.ok (.int .u8 0) W:=i4'
 have a0:((bytesOf E).getD 0 0).toNat<256:=kJ _
 have a1:((bytesOf E).getD 1 0).toNat<256:=kJ _
 have a2:((bytesOf E).getD 2 0).toNat<256:=kJ _
 have a3:((bytesOf E).getD 3 0).toNat<256:=kJ _
 unfold oV two at ha
 unfold iN two at hm
 generalize((bytesOf E).getD 0 0).toNat=x0 at*
 generalize((bytesOf E).getD 1 0).toNat=x1 at*
 generalize((bytesOf E).getD 2 0).toNat=x2 at*
 generalize((bytesOf E).getD 3 0).toNat=x3 at*
 have i0:∀W,(Instr.index 9 (.string E) (.int .i64 0)).run Tryz.prog W=.ok (.int .u8 (x0:Int)) W:=i0'
 have i1:∀W,(Instr.index 9 (.string E) (.int .i64 1)).run Tryz.prog W=.ok (.int .u8 (x1:Int)) W:=i1'
 have i2:∀W,(Instr.index 9 (.string E) (.int .i64 2)).run Tryz.prog W=.ok (.int .u8 (x2:Int)) W:=i2'
 have i3:∀W,(Instr.index 9 (.string E) (.int .i64 3)).run Tryz.prog W=.ok (.int .u8 (x3:Int)) W:=i3'
 have o1:=EJ x0 x1 a0 a1
 have o2:=EJ x2 x3 a2 a3
 rw[<-ha]at o1
 rw[<-hm]at o2
 have v0:IntKind.i64.wrap (x0:Int)=x0:=IntWalk.i64_in _ (by omega)
 have v1:IntKind.i64.wrap (x1:Int)=x1:=IntWalk.i64_in _ (by omega)
 have v2:IntKind.i64.wrap (x2:Int)=x2:=IntWalk.i64_in _ (by omega)
 have v3:IntKind.i64.wrap (x3:Int)=x3:=IntWalk.i64_in _ (by omega)
 have v4:IntKind.i64.wrap ((x1:Int)*256)=(x1:Int)*256:=IntWalk.i64_in _ (by omega)
 have v5:IntKind.i64.wrap ((x3:Int)*256)=(x3:Int)*256:=IntWalk.i64_in _ (by omega)
 have ha6:a<65536:=by omega
 have hm6:m<65536:=by omega
 rw[<-HMA.out,<-HMM.out]at hr
 have hbad:S.size<a+m\/m=0\/800<m:=by
  by_cases h:S.size<a+m\/m=0\/800<m
  ·exact h
  ·rw[if_neg h]at hr;cases hr
 have HW:=Hp (show Below w.heap.size w w.drew from below_drewN (GZ4 _ _) 1)
 clear hr h4 hJ ha hm i0' i1' i2' i3' i4'
 go_enter Tryz.func172,Tryz.ntmps172
 go_upto_region 3 with fail
 go_cut [5,6] from 10 to 25 (fun p q wx=>p=.int .i64 (a:Int)/\q=.int .i64 (m:Int)/\wx.heap=w.heap/\Below w.heap.size w wx)
 case first=>
  go_quiet (fail)
  have HN:=Hp (show Below w.heap.size w (w.drewN nq) from below_drewN (GZ4 _ _) nq)
  go_wp2_with fail
  go_meet
  exact⟨rfl,rfl,rfl,HN.out⟩
 case rest=>
  obtain⟨rfl,rfl,hh,hb⟩:=hcut
  obtain⟨w1,rfl⟩:=Nm wc
  have t0:w1.cell? ⟨B,0,none⟩=some (.string S):=(World.cell?_of_block (a:=⟨B,0,none⟩) (by rw[hh])).trans s0
  have HB:=Hp hb
  clear hb hh s0 i0 i1 i2 i3 i4 o1 o2 v0 v1 v2 v3 v4 v5 a0 a1 a2 a3
  by_cases b1:S.size<a+m
  ·have b1':(S.size:Int)<(a:Int)+m:=by omega
   have b1'':decide ((S.size:Int)<(a:Int)+m)=true:=decide_eq_true b1'
   go_wp2_with fail
   go_ret
   exact⟨rfl,HB.out⟩
  ·have b1':¬((S.size:Int)<(a:Int)+m):=by omega
   have b1'':decide ((S.size:Int)<(a:Int)+m)=false:=GY7 b1'
   by_cases b2:m=0
   ·subst b2
    go_wp2_with fail
    go_ret
    exact⟨rfl,HB.out⟩
   ·have b2':((m:Int)==0)=false:=by simp[b2]
    have b3:800<m:=by omega
    have b3':(800:Int)<m:=by omega
    go_wp2_with fail
    go_ret
    exact⟨rfl,HB.out⟩
theorem Oo (B:Nat)(S E:ByteArray)(i:Nat)(R:List ByteArray)(e:Nat)(w:World)(hE:E.size=5)(hS:S.size<=100000)(hR:R.length<=900000)(he:e<=200000)(hJ:JSt w B S i R e)
  (h4:(bytesOf E).getD 4 0=0) (p:List ByteArray×Nat) (hr:eU (bytesOf S) (bytesOf E) R e=some p):
  Calls Tryz.prog 172 #[.pointer (some ⟨B,0,none⟩),.string E] w fun en w'=>en=.returned (.bool true)/\Below B w w'/\JSt w' B S i p.1 p.2:=by
 obtain⟨A,c,hJ,hO⟩:=hJ
 unfold eU at hr
 rw[if_neg (by rw[h4];exact fun h=>h rfl),RB]at hr
 obtain⟨a,hma⟩:=Nm (oV (bytesOf E))
 have ha:=hma
 obtain⟨m,hmm⟩:=Nm (iN (bytesOf E))
 have hm:=hmm
 have HMA:=Hp hma
 have HMM:=Hp hmm
 clear hma hmm
 have i0':=bZ E 0 (by omega)
 have i1':=bZ E 1 (by omega)
 have i2':=bZ E 2 (by omega)
 have i3':=bZ E 3 (by omega)
 have i4':=bZ E 4 (by omega)
 rw[h4]at i4'
 have i4:∀W,(Instr.index 9 (.string E) (.int .i64 4)).run Tryz.prog W=.ok (.int .u8 0) W:=i4'
 have a0:((bytesOf E).getD 0 0).toNat<256:=kJ _
 have a1:((bytesOf E).getD 1 0).toNat<256:=kJ _
 have a2:((bytesOf E).getD 2 0).toNat<256:=kJ _
 have a3:((bytesOf E).getD 3 0).toNat<256:=kJ _
 unfold oV two at ha
 unfold iN two at hm
 generalize((bytesOf E).getD 0 0).toNat=x0 at*
 generalize((bytesOf E).getD 1 0).toNat=x1 at*
 generalize((bytesOf E).getD 2 0).toNat=x2 at*
 generalize((bytesOf E).getD 3 0).toNat=x3 at*
 have i0:∀W,(Instr.index 9 (.string E) (.int .i64 0)).run Tryz.prog W=.ok (.int .u8 (x0:Int)) W:=i0'
 have i1:∀W,(Instr.index 9 (.string E) (.int .i64 1)).run Tryz.prog W=.ok (.int .u8 (x1:Int)) W:=i1'
 have i2:∀W,(Instr.index 9 (.string E) (.int .i64 2)).run Tryz.prog W=.ok (.int .u8 (x2:Int)) W:=i2'
 have i3:∀W,(Instr.index 9 (.string E) (.int .i64 3)).run Tryz.prog W=.ok (.int .u8 (x3:Int)) W:=i3'
 have o1:=EJ x0 x1 a0 a1
 have o2:=EJ x2 x3 a2 a3
 rw[<-ha]at o1
 rw[<-hm]at o2
 have v0:IntKind.i64.wrap (x0:Int)=x0:=IntWalk.i64_in _ (by omega)
 have v1:IntKind.i64.wrap (x1:Int)=x1:=IntWalk.i64_in _ (by omega)
 have v2:IntKind.i64.wrap (x2:Int)=x2:=IntWalk.i64_in _ (by omega)
 have v3:IntKind.i64.wrap (x3:Int)=x3:=IntWalk.i64_in _ (by omega)
 have v4:IntKind.i64.wrap ((x1:Int)*256)=(x1:Int)*256:=IntWalk.i64_in _ (by omega)
 have v5:IntKind.i64.wrap ((x3:Int)*256)=(x3:Int)*256:=IntWalk.i64_in _ (by omega)
 have ha6:a<65536:=by omega
 have hm6:m<65536:=by omega
 rw[<-HMA.out,<-HMM.out]at hr
 have hbad:¬(S.size<a+m\/m=0\/800<m):=fun h=>by rw[if_pos h]at hr;cases hr
 rw[if_neg hbad]at hr
 injection hr with hr
 obtain⟨N,hN⟩:=Nm (sO (bytesOf S) a m)
 rw[<-hN]at hr
 have hx:S.extract a (a+m)=N:=by rw[hN];unfold sO;rw[<-uK,wR]
 have HP:=Hp hr.symm
 have HX:=Hp hx
 have HJ:=Hp hJ
 have HO:=Hp hO
 have hBl:B<w.heap.size:=(ZL hJ)
 clear hr h4 hJ hO ha hm i0' i1' i2' i3' i4' hN hx
 go_enter Tryz.func172,Tryz.ntmps172
 go_upto_region 3 with fail
 go_cut [5,6] from 10 to 25 (fun p q wx=>p=.int .i64 (a:Int)/\q=.int .i64 (m:Int)/\wx.heap=w.heap/\Below w.heap.size w wx)
 case first=>
  go_quiet (fail)
  have HN:=Hp (show Below w.heap.size w (w.drewN nq) from below_drewN (GZ4 _ _) nq)
  go_wp2_with fail
  go_meet
  exact⟨rfl,rfl,rfl,HN.out⟩
 case rest=>
  obtain⟨rfl,rfl,hh,hb⟩:=hcut
  obtain⟨w1,rfl⟩:=Nm wc
  have hz1:=hb.size
  have HJ1:=Hp (show w1.heap[B]? =some (.cells #[.string S,.int .i64 i,.slice A R.length c,.int .i64 e] 154 (0,0)) by rw[hh];exact HJ.out)
  have HO1:=Hp (show dA w1 (B+1) (.slice A R.length c) R from HO.below hb (GZ3 _))
  have s0:=cell_of_heap HJ1.out 0
  have s2:=cell_of_heap HJ1.out 2
  have s3:=cell_of_heap HJ1.out 3
  have f2:=aQ HJ1.out 2
  simp only[GZ2,GZ0,GZ1]at s0 s2 s3
  have HB:=Hp (hb.mono (show B<=w.heap.size by omega))
  have hBl1:B<w1.heap.size:=by omega
  obtain⟨b1,b2,b3⟩:a+m<=S.size/\m≠0/\m<=800:=by omega
  have b1':¬((S.size:Int)<(a:Int)+m):=by omega
  have b1'':decide ((S.size:Int)<(a:Int)+m)=false:=GY7 b1'
  have b2':((m:Int)==0)=false:=by simp[b2]
  have b3':¬((800:Int)<m):=by omega
  have b4:(a:Int)+m<=S.size:=by omega
  clear hb hh i0 i1 i2 i3 i4 o1 o2 v0 v1 v2 v3 v4 v5 a0 a1 a2 a3 hbad
  obtain⟨q,hq⟩:=Nm (a+m)
  have hx:=HX.out
  rw[<-hq]at hx
  have HQ:=Hp hq
  have q1:(q:Int)<=S.size:=by omega
  have q2:(a:Int)<=q:=by omega
  have q3:(0:Int)<=q:=by omega
  have q4:IntKind.i64.wrap ((a:Int)+m)=(q:Int):=by rw[IntWalk.i64_in _ (by omega)];omega
  clear hq
  have HOA:=Hp (show∀o:Obj,dA (w1.alloc o).drew (B+1) (.slice A R.length c) R from fun o=>World.ownsRow.alloc HO1.out o)
  have HRA:=Hp (show Row strCells 1 (w1.alloc (.cells #[.string N] 9)).drew (some ⟨w1.heap.size,0,none⟩) [N] from pF (enc:=strCells) (k:=1) (fun _=>rfl) (heap_alloc_new w1 (.cells #[.string N] 9)) rfl)
  have HJA:=Hp (show∀o:Obj,(w1.alloc o).drew.heap[B]? =some (.cells #[.string S,.int .i64 i,.slice A R.length c,.int .i64 e] 154 (0,0)) from fun o=>(Below.heap_alloc w1 o B hBl1).trans HJ1.out)
  have HBA:=Hp (show∀o:Obj,Below B w1 (w1.alloc o).drew from fun o=>((GZ4 _ _).alloc (GY2 hBl1) o).drew)
  have HLR:=Hp (show R.length+[N].length<=1000000 by simp only[List.length_singleton];omega)
  have HBS:=Hp (show∀o:Obj,B+1<=(w1.alloc o).drew.heap.size from fun o=>by have:w1.heap.size<=(w1.alloc o).heap.size:=(by simp);show B+1<=(w1.alloc o).heap.size;omega)
  have Q4:=Hp q4
  clear q4
  go_upto_region 6 with fail
  go_cut [5,6] from 43 to 60 (fun p q wx=>p=.int .i64 (a:Int)/\q=.int .i64 (m:Int)/\JSt wx B S i (R++[N]) e/\Below B w1 wx)
  case first=>
   have q4:=Q4.out
   go_region_law ((refine OG _ (by rfl) (.tmp 47) (.tmp 57) (by rfl) (B+1) (.slice A R.length c) R (by rfl) (HOA.out _) (some ⟨w1.heap.size,0,none⟩) 1 [N] (by rfl) HRA.out HLR.out (HBS.out _) ?_;intro v' w2 ho2 hb2;obtain⟨A',c',rfl,-,-⟩:=ho2.form;have hJ2:=(hb2.block B (Nat.lt_succ_self B)).trans (HJA.out _);have z2:=cell_of_heap hJ2 2;have zf:=aQ hJ2 2;simp only[GZ2,GZ0,GZ1]at z2;have HJ2:=Hp hJ2;have HO2:=Hp ho2;have HB2:=Hp ((HBA.out _).trans (hb2.mono (Nat.le_succ B)));clear hJ2 ho2 hb2))
   all_goals(
    go_wp2_with fail
    go_meet
    exact⟨rfl,rfl,Nu HJ2.out HO2.out,HB2.setCell (p:=⟨B,2,none⟩) (GZ3 _) _⟩)
  case rest=>
   obtain⟨rfl,rfl,⟨A2,c2,hJ2,hO2⟩,hb2⟩:=hcut
   obtain⟨w2,rfl⟩:=Nm wc
   have z3:=cell_of_heap hJ2 3
   have zf:=aQ hJ2 3
   simp only[GZ2,GZ0,GZ1]at z3
   have HJ2:=Hp hJ2
   have HO2:=Hp hO2
   have HB2:=Hp (HB.trans hb2)
   have he2:(e:Int)<=200000:=by omega
   clear hJ2 hO2 hb2 s0 s2 s3 f2 hx HOA HRA HJA HBA
   have hmx:max (e:Int) ((a:Int)+m)=((max e (a+m):Nat):Int):=by omega
   go_wp2_with fail
   go_ret
   refine⟨rfl,?_,?_⟩
   ·exact HB2.setCell (p:=⟨B,3,none⟩) (GZ3 _) _
   ·rw[HP.out]
    exact⟨A2,c2,heap_setCell_same w2 B 3 _ _ _ HJ2.out,HO2.eT HJ2.out (by decide) 3 _⟩
end
section
open Go.RowKit
def BK (w:World)(S:List UInt8)(e:Ending)(w':World):Prop:=
 Below w.heap.size w w'/\(match Re S with
  |none=>e=.returned (.tuple #[.pointer none,.bool false])
  |some p=>∃B,w.heap.size<=B/\e=.returned (.tuple #[.pointer (some ⟨B,0,none⟩),.bool true])/\JSt w' B (ofBytes S) p.1 p.2.1 p.2.2)
def N7 (B L:Nat)(w:World):Nat:=match w.cell? ⟨B,1,none⟩with|some (.int _ n)=>L -n.toNat|_=>0
theorem Bj {B L i:Nat}{w:World}(h:w.cell? ⟨B,1,none⟩=some (.int .i64 i)):N7 B L w=L -i:=by
 unfold N7;rw[h];simp
theorem AL {S E:List UInt8}{R:List ByteArray}{e:Nat}{p:List ByteArray×Nat}(h:eU S E R e=some p)(he:e<=S.length):p.2<=S.length/\p.1.length<=R.length+1:=by
 unfold eU at h
 split at h
 ·injection h with h;subst h;exact⟨he,Nat.le_succ _⟩
 ·split at h
  ·cases h
  ·next hb=>
   injection h with h;subst h
   exact⟨by simp only;omega,by simp⟩
theorem GJ {w:World}{B:Nat}{S:ByteArray}{i:Nat}{R:List ByteArray}{e:Nat}(h:JSt w B S i R e):JSt (w.setCell ⟨B,1,none⟩ (.int .i64 ((i:Int)+1))) B S (i+1) R e:=by
 obtain⟨A,c,hJ,hO⟩:=h
 rw[show(i:Int)+1=((i+1:Nat):Int) by omega]
 exact⟨A,c,heap_setCell_same w B 1 _ _ _ hJ,hO.eT hJ (by decide) 1 _⟩
theorem Pf {w:World}{B:Nat}{S:ByteArray}{i:Nat}{R:List ByteArray}{e:Nat}(h:JSt w B S i R e)(e':Nat):JSt (w.setCell ⟨B,3,none⟩ (.int .i64 (e':Int))) B S i R e':=by
 obtain⟨A,c,hJ,hO⟩:=h
 exact⟨A,c,heap_setCell_same w B 3 _ _ _ hJ,hO.eT hJ (by decide) 3 _⟩
theorem JSt.below {w w':World}{B b:Nat}{S:ByteArray}{i:Nat}{R:List ByteArray}{e:Nat}(h:JSt w B S i R e)(hb:Below b w w')(hw:w.heap.size<=b):JSt w' B S i R e:=by
 obtain⟨A,c,hJ,hO⟩:=h
 have:=(ZL hJ)
 exact⟨A,c,(hb.block B (by omega)).trans hJ,hO.below hb hw⟩
theorem Gu (f:Fl)(w:World)(h:f.ok w)(hf:bP f.bl=0):Calls Tryz.prog 96 #[f.v] w (BK w (flat f.bl)):=by
 obtain⟨w1,hw1⟩:=Nm (w.alloc (.cells #[.slice f.a f.bl.length f.c] 29))
 obtain⟨f0,hz1,hb1⟩:=Ui hw1
 have hw1':=hw1.symm
 have HB1:=Hp hb1
 have cA:=Hp (LB f w1 (h.below hb1) hf)
 have hSl:=fG hf
 have h32:=(fP.1 hf).1
 obtain⟨SB,hSB⟩:=Nm (flat f.bl)
 rw[<-hSB]at cA hSl ⊢
 obtain⟨S,hS⟩:=Nm (ofBytes SB)
 have hSz:S.size=SB.length:=by rw[hS,gJ]
 have hSS:bytesOf S=SB:=by rw[hS,iZ]
 rw[<-hS]at cA
 have HS:=Hp hS
 have HSS:=Hp hSS
 obtain⟨L,hL⟩:=Nm SB.length
 rw[<-hL]at hSl hSz
 have HL:=Hp hL
 have HSZ:=Hp hSz
 have hL4:L<=4096:=by omega
 unfold Fl.v
 clear hw1 hb1 h hf hSB hS hSS hL hSl h32
 go_enter Tryz.func96,Tryz.ntmps96
 go_wp2_with (
  go_at_call 167
  refine(cA.out).mono ?_
  rintro e w2 ⟨rfl,hb2⟩
  obtain⟨w3,hw3⟩:=Nm (w2.alloc (.cells #[.string S,.int .i64 0,.slice none 0 0,.int .i64 0] 154))
  have hw3':=hw3.symm
  have hJ3:JSt w3 w2.heap.size S 0 [] 0:=⟨none,0,hw3▸heap_alloc_new _ _,dA.nil _ _⟩
  have hb3:Below w2.heap.size w2 w3:=hw3▸ZB
  have HJ3:=Hp hJ3
  have HB2:=Hp (HB1.trans (hb2.mono HB1.size))
  have HB3:=Hp (HB2.trans (hb3.mono HB2.size))
  clear hw3 hJ3 hb2 hb3)
 go_loopw [3] (fun p wr=>p=.bool false/\∃(i:Nat)(R:List ByteArray)(e:Nat),JSt wr w2.heap.size S i R e/\Below w2.heap.size w3 wr/\fV SB (L+1 -i) i R e=fV SB (L+1) 0 [] 0/\5*i<=L/\e<=L/\R.length<=i) (fun _ wr=>N7 w2.heap.size L wr)
 case atStart=>exact⟨rfl,0,[],0,HJ3.out,GZ4 _ _,rfl,by omega,by omega,GZ3 _⟩
 case round=>
  obtain⟨rfl,i,R,e,hJ,hb,hsc,h5,heL,hRl⟩:=hrel
  have HJ:=Hp hJ
  obtain⟨A,c,hJ,hO⟩:=hJ
  have s0:=cell_of_heap hJ 0
  have s1:=cell_of_heap hJ 1
  have s2:=cell_of_heap hJ 2
  have s3:=cell_of_heap hJ 3
  have f1:=aQ hJ 1
  have f3:=aQ hJ 3
  simp only[GZ2,GZ0,GZ1]at s0 s1 s2 s3
  have HSC:=Hp hsc
  have HB:=Hp hb
  have HJJ:=Hp hJ
  have HO:=Hp hO
  have HMS:=Hp (Bj (L:=L) s1)
  have cE:=Hp (fun n(h:5*(i+1)<=S.size)=>Dy w2.heap.size S i (wr.drewN n) s0 h (by rw[HSZ.out];omega))
  rw[HSS.out]at cE
  have v1:IntKind.i64.wrap ((i:Int)+1)=(i:Int)+1:=IntWalk.i64_in _ (by omega)
  have v2:IntKind.i64.wrap (5*((i:Int)+1))=5*((i:Int)+1):=IntWalk.i64_in _ (by omega)
  have hSzL:S.size=L:=HSZ.out
  have cB:=Hp (fun b n(h:b=(((iG (RV SB i):Nat):Int)==0))=>Jp (ofBytes (RV SB i)) b (wr.drewN n) (by rw[gJ];unfold RV;rw[GY6];unfold big;omega) (by rw[iZ];exact h))
  rw[hSzL]at cE
  clear hJ hO hb hsc
  go_upto_region 2 with fail
  go_cut [31] from 10 to 31 (fun c wx=>c=.bool (decide (lV SB i))/\wx.heap=wr.heap/\Below wr.heap.size wr wx)
  case first=>
   by_cases hb5:5*(i+1)<=L
   ·have t1:decide (5*((i:Int)+1)<=(L:Int))=true:=decide_eq_true (by omega)
    obtain⟨b,hbb⟩:∃b,b=(((iG (RV SB i):Nat):Int)==0):=⟨_,rfl⟩
    have HG:=Hp (show decide (lV SB i)=!b by
     by_cases hu:iG (RV SB i)=0
     ·rw[hbb,hu];exact GY7 (fun h=>h.2 hu)
     ·rw[decide_eq_true (show lV SB i from⟨by rw[<-HL.out];exact hb5,hu⟩),hbb];simp[hu])
    have HBB:=Hp hbb
    have HN:=Hp (fun n=>(show Below wr.heap.size wr (wr.drewN n) from below_drewN (GZ4 _ _) n))
    clear hbb
    go_quiet ((first|(go_at_call 171;exact Calls.quiet_of_same (cE.out _ hb5))|(go_at_call 170;exact Calls.quiet_of_same (cB.out b _ HBB.out))))
    go_wp2_with fail
    go_meet
    exact⟨by rw[HG.out],rfl,HN.out _⟩
   ·have t1:decide (5*((i:Int)+1)<=(L:Int))=false:=GY7 (by omega)
    have HG:=Hp (show decide (lV SB i)=false from GY7 (fun h=>hb5 (by rw[HL.out];exact h.1)))
    have HN:=Hp (fun n=>(show Below wr.heap.size wr (wr.drewN n) from below_drewN (GZ4 _ _) n))
    go_quiet (fail)
    go_wp2_with fail
    go_meet
    exact⟨by rw[HG.out],rfl,HN.out _⟩
  case rest=>
   obtain⟨rfl,hh,hb9⟩:=hcut
   obtain⟨w9,rfl⟩:=Nm wc
   have HJ9:=Hp (show w9.heap[w2.heap.size]? =some (.cells #[.string S,.int .i64 i,.slice A R.length c,.int .i64 e] 154 (0,0)) by rw[hh];exact HJJ.out)
   have HO9:=Hp (show dA w9 (w2.heap.size+1) (.slice A R.length c) R from HO.below hb9 (GZ3 _))
   have HS9:=Hp (show JSt w9 w2.heap.size S i R e from⟨A,c,HJ9.out,HO9.out⟩)
   have t0:=cell_of_heap HJ9.out 0
   have t1:=cell_of_heap HJ9.out 1
   have t3:=cell_of_heap HJ9.out 3
   have g1:=aQ HJ9.out 1
   have g3:=aQ HJ9.out 3
   simp only[GZ2,GZ0,GZ1]at t0 t1 t3
   have hBw:w2.heap.size<w3.heap.size:=(ZL (show w3.heap[w2.heap.size]? =_ from HJ3.choose_spec.choose_spec.1))
   have HB9:=Hp (HB.trans (hb9.mono (by have:=HB.size;omega)))
   have HX:=Hp (show L+1 -i=(L -i)+1 by omega)
   have HSC2:=HSC.out
   rw[HX.out,fQ]at HSC2
   have HSC3:=Hp HSC2
   clear hh hb9 s0 s1 s2 s3 f1 f3 cE cB HSC2 v1 v2
   by_cases hbg:lV SB i
   ·rw[decide_eq_true hbg]
    have hsc:=HSC3.out
    rw[if_pos hbg]at hsc
    have hb5:5*(i+1)<=L:=by rw[HL.out];exact hbg.1
    obtain⟨E,hE⟩:=Nm (RV SB i)
    have hEl:E.length=5:=by rw[hE];exact TS hbg.1
    have cE:=Hp (Dy w2.heap.size S i w9 t0 (by omega) (by omega))
    rw[HSS.out,<-hE]at cE
    rw[<-hE]at hsc
    obtain⟨EB,hEB⟩:=Nm (ofBytes E)
    have hEBz:EB.size=5:=by rw[hEB,gJ,hEl]
    have hEBE:bytesOf EB=E:=by rw[hEB,iZ]
    rw[<-hEB]at cE
    have hiL:i<L:=by omega
    have hiI:(i:Int)<=4096:=by omega
    have HME:=Hp hiL
    clear hbg hE hEB hEl
    by_cases h4:E.getD 4 0≠0
    ·have hre:eU SB E R e=some (R,e):=by unfold eU;rw[if_pos h4]
     rw[hre]at hsc
     change fV SB (L -i) (i+1) R e=_ at hsc
     have HSN:=Hp (show fV SB (L+1 -(i+1)) (i+1) R e=fV SB (L+1) 0 [] 0 by rw[show L+1 -(i+1)=L -i by omega];exact hsc)
     have cR:=Hp (fun W=>LV w2.heap.size EB W hEBz (by rw[hEBE];exact h4))
     have HJN:=Hp (GJ HS9)
     have hH5:=Hp hb5
     clear h4 hre hsc hEBE hEBz HSC3 hb5 hiL
     go_wp2_with (first|(go_at_call 171;refine(cE.out).mono ?_;rintro e w' ⟨rfl,rfl⟩)|(go_at_call 172;refine(cR.out _).mono ?_;rintro e w' ⟨rfl,rfl⟩))
     go_roundw
     case rel=>exact⟨rfl,i+1,R,e,HJN.out,HB9.setCell (p:=⟨w2.heap.size,1,none⟩) (GZ3 _) _,HSN.out,hH5.out,heL,by omega⟩
     case measure=>
      rw[HMS.out]
      obtain⟨A',c',hJ',_⟩:=HJN.out
      have:=cell_of_heap hJ' 1
      simp only[GZ2,GZ0,GZ1]at this
      rw[Bj (i:=i+1) this]
      have:=HME.out
      omega
    ·have h40:E.getD 4 0=0:=by
      by_cases h:E.getD 4 0=0
      ·exact h
      ·exact absurd h h4
     cases hre:eU SB E R e with
     |none=>
      rw[hre]at hsc
      have HJL:=Hp (show Re SB=none by
       unfold Re
       rw[<-HL.out,<-hsc])
      have cR:=Hp (Mw w2.heap.size S EB i A c R e w9 hEBz (by omega) HJ9.out (by rw[hEBE];exact h40) (by rw[hEBE,HSS.out];exact hre))
      clear h4 h40 hre hsc hEBE hEBz HSC3 hb5 hiL
      go_wp2_with (first|(go_at_call 171;refine(cE.out).mono ?_;rintro e w' ⟨rfl,rfl⟩)|(go_at_call 172;refine(cR.out).mono ?_;rintro e w10 ⟨rfl,hb10⟩))
      go_ret2
      unfold BK
      rw[HJL.out]
      exact⟨HB3.trans ((HB9.trans (hb10.mono (by have:=HB9.size;omega))).mono HB2.size),rfl⟩
     |some p=>
      rw[hre]at hsc
      change fV SB (L -i) (i+1) p.1 p.2=_ at hsc
      have HSN:=Hp (show fV SB (L+1 -(i+1)) (i+1) p.1 p.2=fV SB (L+1) 0 [] 0 by rw[show L+1 -(i+1)=L -i by omega];exact hsc)
      have HPE:=Hp (AL hre (by rw[<-HL.out];exact heL))
      have cR:=Hp (Oo w2.heap.size S EB i R e w9 hEBz (by omega) (by omega) (by omega) HS9.out (by rw[hEBE];exact h40) p (by rw[hEBE,HSS.out];exact hre))
      have hH5:=Hp hb5
      clear h4 h40 hre hsc hEBE hEBz HSC3 hb5 hiL
      go_wp2_with (first
       |(go_at_call 171;refine(cE.out).mono ?_;rintro e w' ⟨rfl,rfl⟩)
       |(go_at_call 172;refine(cR.out).mono ?_;rintro e w10 ⟨rfl,hb10,hJ10⟩
         have HJN:=Hp (GJ hJ10)
         obtain⟨A10,c10,hJ10,hO10⟩:=hJ10
         have u1:=cell_of_heap hJ10 1
         have uf:=aQ hJ10 1
         simp only[GZ2,GZ0,GZ1]at u1
         have HB10:=Hp (HB9.trans hb10)
         clear hJ10 hO10 hb10))
      go_roundw
      case rel=>exact⟨rfl,i+1,p.1,p.2,HJN.out,HB10.setCell (p:=⟨w2.heap.size,1,none⟩) (GZ3 _) _,HSN.out,hH5.out,by have:=HPE.out.1;rw[<-HL.out]at this;exact this,by have:=HPE.out.2;omega⟩
      case measure=>
       rw[HMS.out]
       obtain⟨A',c',hJ',_⟩:=HJN.out
       have:=cell_of_heap hJ' 1
       simp only[GZ2,GZ0,GZ1]at this
       rw[Bj (i:=i+1) this]
       have:=HME.out
       omega
   ·rw[GY7 hbg]
    have hsc:=HSC3.out
    rw[if_neg hbg]at hsc
    have HJL:=Hp (show Re SB=some (i,R,max e (iG (SB.take (L -5*i)))) by
     unfold Re
     rw[<-HL.out,<-hsc])
    obtain⟨t,ht⟩:=Nm (L -5*i)
    have HT:=Hp ht
    have q1:IntKind.i64.wrap (5*(i:Int))=5*(i:Int):=IntWalk.i64_in _ (by omega)
    have q2:IntKind.i64.wrap ((L:Int) -5*(i:Int))=(t:Int):=by rw[IntWalk.i64_in _ (by omega)];omega
    have q3:(0:Int)<=(t:Int):=by omega
    have q4:(t:Int)<=(L:Int):=by omega
    obtain⟨D,hD⟩:=Nm (ofBytes (SB.take t))
    have hx:S.extract 0 t=D:=by
     have:=uK SB 0 t
     rw[Nat.zero_add,List.drop_zero,<-hD]at this
     rw[<-this,HS.out]
    have cU:=Hp (fun W=>Ha D W (by rw[hD,gJ,GY6];unfold big;omega))
    rw[hD,iZ]at cU
    rw[<-hD]at cU
    obtain⟨u,hu⟩:=Nm (iG (SB.take t))
    rw[<-hu]at cU
    have HJL2:=HJL.out
    rw[<-ht,<-hu]at HJL2
    have HJLL:=Hp HJL2
    have HU:=Hp (show u<=L by rw[hu];exact GY1 (xK _ _) (by rw[GY6];omega))
    clear hbg hsc HJL2 hu hD ht HSC3
    go_upto_region 6 with fail
    go_quiet (fail)
    go_upto_region 7 with fail
    have HAJ:=Hp (show JSt (w9.drewN nq) w2.heap.size S i R e from HS9.out)
    have HAB:=Hp (show Below w2.heap.size w3 (w9.drewN nq) from below_drewN HB9.out nq)
    have y3:(w9.drewN nq).cell? ⟨w2.heap.size,3,none⟩=some (.int .i64 e):=t3
    have yf:(w9.drewN nq).frozen? ⟨w2.heap.size,3,none⟩=false:=g3
    clear t0 t1 t3 g1 g3 HJ9 HO9 HS9 HB9
    generalize w9.drewN nq=wA at*
    have HAD:=Hp (show JSt (wA.setCell ⟨w2.heap.size,3,none⟩ (.int .i64 (max (e:Int) (u:Int)))).drew w2.heap.size S i R (max e u)/\Below w2.heap.size w3 (wA.setCell ⟨w2.heap.size,3,none⟩ (.int .i64 (max (e:Int) (u:Int)))).drew from by
     rw[show max (e:Int) (u:Int)=((max e u:Nat):Int) by omega]
     exact⟨Pf HAJ.out (max e u),(HAB.setCell (p:=⟨w2.heap.size,3,none⟩) (GZ3 _) _).drew⟩)
    go_region_law ((go_simp;go_at_call 173;with_reducible refine(cU.out _).mono ?_;rintro e w' ⟨rfl,rfl⟩))
    all_goals(
     go_wp2_with fail
     go_ret2
     unfold BK
     rw[HJLL.out]
     refine⟨HB3.trans (HAD.out.2.mono HB2.size),w2.heap.size,HB2.size,rfl,?_⟩
     rw[<-HS.out]
     exact HAD.out.1)
end
end Go.Proofs.YtjiedaialianmaaGreat
