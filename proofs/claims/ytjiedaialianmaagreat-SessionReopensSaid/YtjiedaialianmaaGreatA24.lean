import Derived.Test.YtjiedaialianmaaGreatA23
set_option maxRecDepth 100000
set_option maxHeartbeats 2000000
namespace Go.Proofs.YtjiedaialianmaaGreat
section
open Go
open Go.RowKit
open Gs (Tx)
def iU (b1 b2 b3 a1 a2 a3:Option Addr)(b4 b5 b6 a4 a5 a6:Nat):List Cm:=[⟨1,lW b1 b2 b3 b4 b5 b6,⟨#[]⟩⟩,⟨1,TH a1 a2 a3 a4 a5 a6,⟨#[]⟩⟩,⟨2,jB,⟨#[108,105,98]⟩⟩,⟨4,jB,⟨#[]⟩⟩]
theorem vB (w:World):Calls Tryz.prog 70 #[] w fun e w'=>(∃A c b1 b2 b3 a1 a2 a3 b4 b5 b6 a4 a5 a6,e=.returned (.slice A 4 c)/\nE w' A (iU b1 b2 b3 a1 a2 a3 b4 b5 b6 a4 a5 a6))/\Below w.heap.size w w':=by
 go_enter Tryz.func70,Tryz.ntmps70
 go_wp2_with fail
 refine(KF _).mono ?_;rintro e w1 ⟨⟨b1,b2,b3,b4,b5,b6,rfl,hok1⟩,hb1⟩
 go_wp2_with fail
 refine(Jr _).mono ?_;rintro e w2 ⟨⟨a1,a2,a3,a4,a5,a6,rfl,hok2⟩,hb2⟩
 go_wp2_with fail
 go_ret
 have hb3:=fun cs=>(GZ4 w2.heap.size w2).alloc (GZ3 _) (.cells cs 102)
 refine⟨⟨some ⟨w2.heap.size,0,none⟩,4,b1,b2,b3,a1,a2,a3,b4,b5,b6,a4,a5,a6,rfl,Ry (enc:=Cm.cells) (k:=9) (fun _=>rfl) (heap_alloc_new w2 _) rfl,by unfold big iU;simp,?_⟩,(hb1.trans (hb2.mono hb1.size)).trans ((hb3 _).mono (GY1 hb1.size hb2.size))⟩
 intro x hx
 simp only[iU,List.mem_cons,List.not_mem_nil,or_false]at hx
 rcases hx with rfl|rfl|rfl|rfl
 ·exact⟨(hok1.below hb2).below (hb3 _),Nat.zero_le _⟩
 ·exact⟨hok2.below (hb3 _),Nat.zero_le _⟩
 ·exact⟨zero_ok _,by show(⟨#[108,105,98]⟩:ByteArray).size<=big;decide⟩
 ·exact⟨zero_ok _,Nat.zero_le _⟩
theorem NM {l:List Plc}(h:(txs l).Nodup):dD l=false:=by
 cases h':dD l
 ·rfl
 ·exact absurd h ((SQ l).1 h')
theorem GU {k:Krn}{l:List Plc}(h1:bJ k=0)(h2:RY l=0)(h3:dD l=false)(h4:eH l=false)(h5:(bU k l l 0).2=0):aZ k l=0:=by
 unfold aZ aX
 rw[h1,h2,h3,h4,h5];rfl
theorem QC {k:Krn}{c:Cm}{l L:List Plc}(h0:RL c=0)(hk:c.kind≠4)(h1:kC c l=0)(h2:cmL c l=L)(h3:aZ k L=0):doE k l c=0/\doL k l c=L:=by
 have e:doE k l c=0:=by
  unfold doE kP
  rw[if_neg (by omega),if_neg hk,if_neg (by omega),h2];exact h3
 exact⟨e,by unfold doL;rw[if_neg (by omega),if_neg hk];exact h2⟩
section
variable (A:Option Addr) (c:Nat) (b1 b2 b3 a1 a2 a3:Option Addr) (b4 b5 b6 a4 a5 a6:Nat)
theorem QZ :doE (RU A c) [] ⟨1,lW b1 b2 b3 b4 b5 b6,⟨#[]⟩⟩=0/\doL (RU A c) [] ⟨1,lW b1 b2 b3 b4 b5 b6,⟨#[]⟩⟩=[⟨lW b1 b2 b3 b4 b5 b6,0⟩]:=
 QC (by kernel_rfl) (show(1:Int)≠4 by decide) (by kernel_rfl) (by kernel_rfl) (GU (by kernel_rfl) (by kernel_rfl) (NM (of_decide_eq_true (by kernel_rfl))) (by kernel_rfl) (by kernel_rfl))
theorem Q3 :doE (RU A c) [⟨lW b1 b2 b3 b4 b5 b6,0⟩] ⟨1,TH a1 a2 a3 a4 a5 a6,⟨#[]⟩⟩=0/\doL (RU A c) [⟨lW b1 b2 b3 b4 b5 b6,0⟩] ⟨1,TH a1 a2 a3 a4 a5 a6,⟨#[]⟩⟩=[⟨lW b1 b2 b3 b4 b5 b6,0⟩,⟨TH a1 a2 a3 a4 a5 a6,1⟩]:=
 QC (by kernel_rfl) (show(1:Int)≠4 by decide) (by kernel_rfl) (by kernel_rfl) (GU (by kernel_rfl) (by kernel_rfl) (NM (of_decide_eq_true (by kernel_rfl))) (by kernel_rfl) (by kernel_rfl))
theorem Ng :doE (RU A c) [⟨lW b1 b2 b3 b4 b5 b6,0⟩,⟨TH a1 a2 a3 a4 a5 a6,1⟩] ⟨2,jB,⟨#[108,105,98]⟩⟩=4:=by
 have h0:RL ⟨2,jB,⟨#[108,105,98]⟩⟩=0:=by kernel_rfl
 have h:kC ⟨2,jB,⟨#[108,105,98]⟩⟩ [⟨lW b1 b2 b3 b4 b5 b6,0⟩,⟨TH a1 a2 a3 a4 a5 a6,1⟩]=4:=by kernel_rfl
 unfold doE kP
 rw[h0,h];rfl
theorem PT :doE (RU A c) [⟨lW b1 b2 b3 b4 b5 b6,0⟩,⟨TH a1 a2 a3 a4 a5 a6,1⟩] ⟨4,jB,⟨#[]⟩⟩=0/\doL (RU A c) [⟨lW b1 b2 b3 b4 b5 b6,0⟩,⟨TH a1 a2 a3 a4 a5 a6,1⟩] ⟨4,jB,⟨#[]⟩⟩=[⟨lW b1 b2 b3 b4 b5 b6,0⟩,⟨TH a1 a2 a3 a4 a5 a6,1⟩]:=by
 have h0:RL ⟨4,jB,⟨#[]⟩⟩=0:=by kernel_rfl
 have e:doE (RU A c) [⟨lW b1 b2 b3 b4 b5 b6,0⟩,⟨TH a1 a2 a3 a4 a5 a6,1⟩] ⟨4,jB,⟨#[]⟩⟩=0:=by unfold doE;rw[h0];rfl
 exact⟨e,by unfold doL;rw[e];kernel_rfl⟩
theorem A9 :bJ (RU A c)=0:=by kernel_rfl
theorem NA :eD (RU A c) [] (iU b1 b2 b3 a1 a2 a3 b4 b5 b6 a4 a5 a6)=[0,0,4,0]/\Rl (RU A c) [] (iU b1 b2 b3 a1 a2 a3 b4 b5 b6 a4 a5 a6)=[⟨lW b1 b2 b3 b4 b5 b6,0⟩,⟨TH a1 a2 a3 a4 a5 a6,1⟩]:=by
 obtain⟨e1,l1⟩:=QZ A c b1 b2 b3 b4 b5 b6
 obtain⟨e2,l2⟩:=Q3 A c b1 b2 b3 a1 a2 a3 b4 b5 b6 a4 a5 a6
 have e3:=Ng A c b1 b2 b3 a1 a2 a3 b4 b5 b6 a4 a5 a6
 have l3:doL (RU A c) [⟨lW b1 b2 b3 b4 b5 b6,0⟩,⟨TH a1 a2 a3 a4 a5 a6,1⟩] ⟨2,jB,⟨#[108,105,98]⟩⟩=[⟨lW b1 b2 b3 b4 b5 b6,0⟩,⟨TH a1 a2 a3 a4 a5 a6,1⟩]:=by unfold doL;rw[e3];rfl
 obtain⟨e4,l4⟩:=PT A c b1 b2 b3 a1 a2 a3 b4 b5 b6 a4 a5 a6
 constructor
 ·show[doE _ _ _,doE _ (doL _ _ _) _,doE _ (doL _ (doL _ _ _) _) _,doE _ (doL _ (doL _ (doL _ _ _) _) _) _]=_
  rw[l1,l2,l3,e1,e2,e3,e4]
 ·simp only[iU,Rl,l1,l2,l3,l4]
def Lf (cs:List Cm):Nat:=(cs.map fun c=>(aG c).length+5).sum
theorem Q7 :Lf (iU b1 b2 b3 a1 a2 a3 b4 b5 b6 a4 a5 a6)<=1000:=of_decide_eq_true (by kernel_rfl)
theorem NB :aG ⟨2,jB,⟨#[108,105,98]⟩⟩=[2,108,105,98]:=by kernel_rfl
end
theorem Ul {k:Krn}{F0:List ByteArray}:∀(cs:List Cm){l:List Plc}{F R:List ByteArray}{D:List Ded}{q e:Nat},JInv F0 F R D q e->e+5*q+Lf cs+10<=(flat F).length->(RD k l F cs).2.2=0/\(RD k l F cs).2.1=eD k l cs
 | [],_,_,_,_,_,_,_,_=>⟨rfl,rfl⟩
 |c::cs,l,F,R,D,q,e,h,hr=>by
  have ht:Lf (c::cs)=(aG c).length+5+Lf cs:=by unfold Lf;simp
  rw[ht]at hr
  by_cases h1:doE k l c=0
  ·obtain⟨z1,z8⟩:=kZ (BO h1)
   have h2:dF F (aG c).length=0:=Classical.byContradiction fun h2=>by
    have:=(h.err h2 (by omega) z8).2
    omega
   rw[Sy h1 h2]
   have hn:=h.next (s:=jY c) (by rw[qR];exact h2)
   rw[show bytesOf (jY c)=aG c from iZ _,qR]at hn
   obtain⟨o1,o2,_⟩:=TT h2
   have hl:(flat (bT F (aW F (aG c)))).length=(flat F).length:=by rw[fG o1,fG h.ok,o2]
   obtain⟨i1,i2⟩:=Ul cs (l:=doL k l c) hn (by rw[hl];omega)
   exact⟨i1,by show 0::_=doE k l c::_;rw[h1,i2]⟩
  ·rw[lU h1]
   obtain⟨i1,i2⟩:=Ul cs (l:=doL k l c) h (by omega)
   exact⟨i1,by show doE k l c::_=doE k l c::_;rw[i2]⟩
end
section
open Go
open Go.RowKit
open Gs (Tx)
theorem nN (a b:Cm)(w:World)(ha:a.m.ok w)(hb:b.m.ok w)(hn:a.nm.size<=big)(hk:a.kind=b.kind)(hm:gI a.m b.m)(he:a.nm=b.nm):
  Calls Tryz.prog 66 #[a.v,b.v] w fun e w'=>e=.returned (.bool true)/\Below w.heap.size w w':=by
 obtain⟨k,m,nm⟩:=a
 obtain⟨k',m',nm'⟩:=b
 simp only at ha hb hn hk hm he
 subst hk he
 obtain⟨w0,hw0⟩:=Nm (w.alloc (.cells (cmA ⟨k,m,nm⟩) 102))
 obtain⟨w1,hw1⟩:=Nm (w0.alloc (.cells (cmA ⟨k,m',nm⟩) 102))
 have hb0:Below w.heap.size w w0:=hw0▸ZB
 have hb1:Below w0.heap.size w0 w1:=hw1▸ZB
 have hz0:w0.heap.size=w.heap.size+1:=by rw[hw0];simp
 obtain⟨p0,p1,p2,p3,p4,p5,p6,p7,p8⟩:=dJ (W:=w1) (b:=w.heap.size) (c:=⟨k,m,nm⟩) ((hb1.block _ (by omega)).trans (by rw[hw0];exact heap_alloc_new w _))
 obtain⟨q0,q1,q2,q3,q4,q5,q6,q7,q8⟩:=dJ (W:=w1) (b:=w.heap.size+1) (c:=⟨k,m',nm⟩) (by rw[hw1,<-hz0];exact heap_alloc_new w0 _)
 simp only at p0 p1 p2 p3 p4 p5 p6 p7 p8 q0 q1 q2 q3 q4 q5 q6 q7 q8
 have HB:=Hp (hb0.trans (hb1.mono hb0.size))
 have c1:=Hp (fun W(hB:Below w.heap.size w W)=>qA m m' W hm (ha.below hB) (hb.below hB))
 have hw0':=hw0.symm
 have hw1':=hw1.symm
 clear hw0 hw1 hb0 hb1 ha hb hn hm
 go_enter Tryz.func66,Tryz.ntmps66
 go_wp2_with fail
 refine(c1.out _ HB.out).mono ?_;rintro e w2 ⟨rfl,hb2⟩
 go_wp2_with fail
 go_ret
 exact⟨rfl,HB.trans (hb2.mono HB.size)⟩
abbrev jN (w:World)(A:Option Addr)(l:List Int):Prop:=Row (fun n=>[iv n]) 1 w A l
theorem Mv {w w':World}{A:Option Addr}{l:List Int}(h:jN w A l)(hb:Below w.heap.size w w')(i:Nat)(hi:i<l.length):∃ad,A=some ad/\ad.block<w.heap.size/\w'.cell? (ad.add i)=some (iv l[i]):=by
 obtain⟨ad,rfl,hab,hc⟩:=Row.at_ (enc:=fun n=>[iv n]) (k:=1) (fun _=>rfl) h i hi
 have e0:=hc 0 _ rfl
 rw[add_zero_,Nat.mul_one]at e0
 exact⟨ad,rfl,hab,(hb.cell (by rw[aA];exact hab)).trans e0⟩
theorem dN.row {w:World}{base:Nat}{v:Value}{ns:List Int}(h:dN w base v ns):∃(A:Option Addr)(c:Nat),v=.slice A ns.length c/\jN w A ns:=by
 obtain⟨A,c,rfl⟩:=bG h
 refine⟨A,c,rfl,?_⟩
 have:=Reads.of_own h
 rwa [qJ]at this
theorem fO (A A':Option Addr)(c c':Nat)(l:List Int)(w:World)(h:jN w A l)(h':jN w A' l)(hl:l.length<=big):
  Calls Tryz.prog 21 #[.slice A l.length c,.slice A' l.length c'] w fun e w'=>e=.returned (.bool true)/\Below w.heap.size w w':=by
 have H:=Hp h
 have H':=Hp h'
 unfold big at hl
 clear h h'
 go_enter Tryz.func21,Tryz.ntmps21
 go_wp2_with fail
 go_loopw [5] (fun i wr=>∃(j:Nat),j<=l.length/\i=.int .i64 j/\Below w.heap.size w wr) (fun i _=>l.length -(intOf i).toNat)
 case atStart=>exact⟨0,by omega,rfl,GZ4 _ _⟩
 case round=>
  obtain⟨j,hj,rfl,hb⟩:=hrel
  have HB:=Hp hb
  by_cases hlt:j<l.length
  ·have hlt':(j:Int)<l.length:=by omega
   obtain⟨ad,rfl,hab,k0⟩:=Mv H.out hb j hlt
   obtain⟨ad',rfl,hab',k0'⟩:=Mv H'.out hb j hlt
   obtain⟨x,hx⟩:=Nm (l[j])
   rw[<-hx]at k0 k0'
   clear hx hb
   go_wp2_with fail
   go_quiet (fail)
   go_wp2_with fail
   go_roundw
   case rel=>exact⟨j+1,by omega,by go_num,below_drewN HB.out _⟩
   case measure=>(simp[intOf];try omega)
  ·go_wp2_with fail
   go_ret
   exact⟨rfl,HB.out⟩
end
section
open Go
open Go.RowKit Go.Lib
abbrev rgA (k:Krn)(A:Option Addr)(l:List Plc)(c:Nat):Array Value:=#[.int .i64 k.major,.int .i64 k.minor,.slice k.eA k.ex.length k.eC,.slice A l.length c]
structure Rn (w0 W:World)(k:Krn)(A:Option Addr)(l:List Plc)(c:Nat):Prop where
 krn:k.ok w0
 mods:∀x∈l,x.m.ok w0
 len:l.length<=big
 row:Row Plc.cells 8 w0 A l\/aP W w0.heap.size (.slice A l.length c) l
 bel:Below w0.heap.size w0 W
theorem Rn.next {w0 W W':World}{ts:List TypeId}{k:Krn}{A:Option Addr}{l:List Plc}{c:Nat}(h:Rn w0 W k A l c)(hb:Below w0.heap.size w0 W')(hk:Kp ts W W')(ht:83 ∉ ts):Rn w0 W' k A l c:=
 ⟨h.krn,h.mods,h.len,h.row.imp id fun r=>own_kp r hk ht,hb⟩
theorem Rn.below {w0 W W':World}{k:Krn}{A:Option Addr}{l:List Plc}{c:Nat}(h:Rn w0 W k A l c)(hb:Below W.heap.size W W'):Rn w0 W' k A l c:=
 h.next (h.bel.trans (hb.mono h.bel.size)) (Kp.of_below (ts:=[]) hb) (by simp)
theorem iO {w0 w W:World}{b:Nat}{k k':Krn}{A A':Option Addr}{l l':List Plc}{c c':Nat}(hR:W.heap[b]? =some (.cells (rgA k A l c) 39 (0,0)))(hlo:w.heap.size<=b)(hb:Below w.heap.size w W)(h0:w0.heap.size<=w.heap.size)(h:Rn w0 W k' A' l' c'):
  ∃W',W'=(((W.setCell ⟨b,0,none⟩ (.int .i64 k'.major)).setCell ⟨b,1,none⟩ (.int .i64 k'.minor)).setCell ⟨b,2,none⟩ (.slice k'.eA k'.ex.length k'.eC)).setCell ⟨b,3,none⟩ (.slice A' l'.length c')/\
   W'.heap[b]? =some (.cells #[.int .i64 k'.major,.int .i64 k'.minor,.slice k'.eA k'.ex.length k'.eC,.slice A' l'.length c'] 39 (0,0))/\Rn w0 W' k' A' l' c'/\Below w.heap.size w W'/\Only b W W':=by
 obtain⟨hg,ho⟩:=gY hR (.int .i64 k'.major) (.int .i64 k'.minor) (.slice k'.eA k'.ex.length k'.eC) (.slice A' l'.length c')
 have hbl:=ho.below (GY2 (ZL hR))
 exact⟨_,rfl,hg,h.next (h.bel.trans (hbl.mono (GY1 h0 hlo))) (ho.kp hR (ts:=[39]) (by simp)) (by decide),hb.trans (hbl.mono hlo),ho⟩
end
section
open Go
open Go.RowKit Go.Lib
def uN (w0 w1:World)(E:Int)(k:Krn)(L:List Plc)(p e:Value)(wx:World):Prop:=
 ∃(B:Nat)(k':Krn)(A':Option Addr)(l':List Plc)(c':Nat),p=.pointer (some ⟨B,0,none⟩)/\e=.int .i64 E/\wx.heap[B]? =some (.cells #[.int .i64 k'.major,.int .i64 k'.minor,.slice k'.eA k'.ex.length k'.eC,.slice A' l'.length c'] 39 (0,0))/\
  w1.heap.size<=B/\Rn w0 wx k' A' l' c'/\k'.bare=k.bare/\aD l'=aD L/\Below w1.heap.size w1 wx
theorem uN.new {w0 w1 w2:World}{E:Int}{k k':Krn}{L l':List Plc}{A':Option Addr}{c':Nat}(hb:Below w1.heap.size w1 w2)(h:Rn w0 w2 k' A' l' c')(hk:k'.bare=k.bare)(hl:aD l'=aD L):
  uN w0 w1 E k L (.pointer (some ⟨w2.heap.size,0,none⟩)) (.int .i64 E) (w2.alloc (.cells #[.int .i64 k'.major,.int .i64 k'.minor,.slice k'.eA k'.ex.length k'.eC,.slice A' l'.length c'] 39)):=by
 have ha:Below w2.heap.size w2 (w2.alloc (.cells #[.int .i64 k'.major,.int .i64 k'.minor,.slice k'.eA k'.ex.length k'.eC,.slice A' l'.length c'] 39)):=ZB
 exact⟨_,k',A',l',c',rfl,rfl,heap_alloc_new _ _,hb.size,h.below ha,hk,hl,hb.trans (ha.mono hb.size)⟩
theorem uN.old {w0 w1 w2:World}{E:Int}{k k':Krn}{L l':List Plc}{A':Option Addr}{c' B:Nat}(hz:w2.heap[B]? =some (.cells #[.int .i64 0,.int .i64 0,.slice none 0 0,.slice none 0 0] 39 (0,0)))(hB:w1.heap.size<=B)(h0:w0.heap.size<=w1.heap.size)(hb:Below w1.heap.size w1 w2)(h:Rn w0 w2 k' A' l' c')(hk:k'.bare=k.bare)(hl:aD l'=aD L):
  uN w0 w1 E k L (.pointer (some ⟨B,0,none⟩)) (.int .i64 E) ((((w2.setCell ⟨B,0,none⟩ (.int .i64 k'.major)).setCell ⟨B,1,none⟩ (.int .i64 k'.minor)).setCell ⟨B,2,none⟩ (.slice k'.eA k'.ex.length k'.eC)).setCell ⟨B,3,none⟩ (.slice A' l'.length c')):=by
 obtain⟨w3,rfl,h1,h2,h3,_⟩:=iO (k:=Rk) (A:=none) (l:=[]) (c:=0) (c':=c') hz hB hb h0 h
 exact⟨_,k',A',l',c',rfl,rfl,h1,hB,h2,hk,hl,h3⟩
end
section
open Go
open Go.RowKit Go.Lib
open Gs (Tx)
theorem Al {S:List UInt8}:∀{n i:Nat}{r:List ByteArray}{e k:Nat}{r1:List ByteArray}{e1:Nat},fV S n i r e=some (k,r1,e1)->(∀s∈r,s.size<=800)->(∀s∈r1,s.size<=800)/\r1.length<=r.length+n
 |0,i,r,e,k,r1,e1,h,hr=>by
  simp only[fV,Option.some.injEq,Prod.mk.injEq]at h
  obtain⟨_,rfl,_⟩:=h
  exact⟨hr,GZ3 _⟩
 |n+1,i,r,e,k,r1,e1,h,hr=>by
  rw[fQ]at h
  split at h
  ·cases hp:eU S (RV S i) r e with
   |none=>rw[hp]at h;cases h
   |some p=>
    rw[hp]at h
    have hq:(∀s∈p.1,s.size<=800)/\p.1.length<=r.length+1:=by
     unfold eU at hp
     split at hp
     ·injection hp with hp;subst hp;exact⟨hr,Nat.le_succ _⟩
     ·split at hp
      ·cases hp
      ·next hb=>
       injection hp with hp;subst hp
       refine⟨fun s hs=>?_,by simp⟩
       rcases List.mem_append.1 hs with hs|hs
       ·exact hr s hs
       ·rw[List.mem_singleton.1 hs]
        show((S.drop _).take _).toArray.size<=800
        simp only[List.size_toArray,GY6]
        omega
    obtain⟨i1,i2⟩:=Al (n:=n) h hq.1
    exact⟨i1,by omega⟩
  ·injection h with h
   injection h with _ h2
   injection h2 with h2 _
   subst h2
   exact⟨hr,by omega⟩
theorem kW (F:List ByteArray):(∀s∈bQ F,s.size<=800)/\(bQ F).length<=5000:=by
 unfold bQ
 by_cases h:bP F=0
 ·rw[if_pos h]
  have hl:=fG h
  have h32:=(fP.1 h).1.2
  unfold Re
  cases hs:fV (flat F) ((flat F).length+1) 0 [] 0 with
  |none=>exact⟨by simp,by simp⟩
  |some p=>
   obtain⟨pk,pr,pe⟩:=p
   obtain⟨i1,i2⟩:=Al hs (by simp)
   refine⟨i1,?_⟩
   show pr.length<=5000
   simp only[List.length_nil]at i2
   omega
 ·rw[if_neg h];exact⟨by simp,by simp⟩
theorem Bz :5000<=big:=by unfold big;omega
theorem rG (k:Krn)(f:Fl)(w:World)(hk:k.ok w)(hf:f.ok w):Calls Tryz.prog 20 #[k.v,f.v] w (U7 w (S9 k f.bl) k (reL k (bQ f.bl))):=
 Ay k f w hk hf (fun s hs=>GY1 ((kW f.bl).1 s hs) (GY1 (by omega) Bz)) (GY1 (kW f.bl).2 Bz)
theorem zP (k:Krn)(f:Fl)(cA:Option Addr)(cs:List Cm)(cc:Nat)(w:World)(hk:k.ok w)(hf:f.ok w)(hc:nE w cA cs):
  Calls Tryz.prog 18 #[k.v,f.v,.slice cA cs.length cc] w (VY w (fD k f.bl cs)):=
 OC k f cA cs cc w hk hf (fun s hs=>GY1 ((kW f.bl).1 s hs) (GY1 (by omega) Bz)) (GY1 (kW f.bl).2 Bz) hc
theorem uU {W:World}{base:Nat}{k' k:Krn}{A':Option Addr}{l' l:List Plc}{c':Nat}(h:UQ W base k' A' l' c' k l)(hr:aZ k l=0):dL W k' A' l':=
 jS.right h.own (by rw[kQ h.RU h.mods];exact hr)
theorem Sv {w w':World}{E:Int}{k:Krn}{L:List Plc}{e:Ending}(h:U7 w E k L e w')(hr:E=0->aZ k L=0):
  (∃k' A' l' c',e=.returned (.tuple #[rgV k' A' l' c',.int .i64 E])/\dL w' k' A' l'/\(E=0->k'.bare=k.bare/\aD l'=aD L)/\(E≠0->k'.bare=Rk/\l'=[]))/\Below w.heap.size w w':=by
 obtain⟨⟨k',A',l',c',he,hg⟩,hb⟩:=h
 refine⟨⟨k',A',l',c',he,?_,?_,?_⟩,hb⟩
 ·by_cases t:E=0
  ·rw[t,wK0,wL0]at hg
   exact uU hg (hr t)
  ·rw[wKE t,wLE t]at hg
   have hn:l'=[]:=by have:=nY hg.mods;exact GY9 this
   exact UQ.QB hg (Sg w') (⟨Row.nil,Nat.zero_le _,by simp⟩:aU w' none []) rfl
 ·intro t
  rw[t,wK0,wL0]at hg
  exact⟨hg.RU,hg.mods⟩
 ·intro t
  rw[wKE t,wLE t]at hg
  exact⟨hg.RU,by have:=nY hg.mods;exact GY9 this⟩
abbrev sbL :List Plc:=[⟨lW none none none 0 0 0,0⟩,⟨TH none none none 0 0 0,1⟩]
theorem II {l:List Plc}(h:aD l=aD sbL):l.length=2:=by have:=nY h;simpa using this
theorem Ku (A:Option Addr)(c:Nat)(cA:Option Addr)(cc:Nat)(b1 b2 b3 a1 a2 a3:Option Addr)(b4 b5 b6 a4 a5 a6:Nat)(W:World)(hk:(RU A c).ok W)(hc:nE W cA (iU b1 b2 b3 a1 a2 a3 b4 b5 b6 a4 a5 a6)):
  Calls Tryz.prog 19 #[rgV (RU A c) none [] 0,.slice cA 4 cc] W fun e w'=>(∃k' A' l' c' eA ec,e=.returned (.tuple #[.agg #[.int .i64 k'.major,.int .i64 k'.minor,.slice k'.eA k'.ex.length k'.eC,.slice A' 2 c'],.slice eA 4 ec,.int .i64 0])/\dL w' k' A' l'/\k'.bare=(RU none 0).bare/\aD l'=aD sbL/\l'.length=2/\jN w' eA [0,0,4,0])/\Below W.heap.size W w':=by
 obtain⟨s1,s2⟩:=NA A c b1 b2 b3 a1 a2 a3 b4 b5 b6 a4 a5 a6
 have hr0:=Be (A9 A c)
 have h0:gV (RU A c) [] (iU b1 b2 b3 a1 a2 a3 b4 b5 b6 a4 a5 a6).length=0:=by unfold gV;rw[hr0];rfl
 refine(K9 (RU A c) none 0 [] cA (iU b1 b2 b3 a1 a2 a3 b4 b5 b6 a4 a5 a6) cc W hk ⟨Row.nil,Nat.zero_le _,by simp⟩ hc).mono ?_
 rintro e w' ⟨⟨k',A',l',c',eA,ec,he,hg,ho⟩,hb⟩
 have hes:lZ (RU A c) [] (iU b1 b2 b3 a1 a2 a3 b4 b5 b6 a4 a5 a6)=[0,0,4,0]:=by unfold lZ;rw[h0,if_neg (by simp),s1]
 rw[h0,hes]at he
 rw[hes]at ho
 rw[h0,wK0,wL0]at hg
 have hm:aD l'=aD sbL:=hg.mods.trans (by rw[s2];rfl)
 have hl:=II hm
 have hrow:jN w' eA [0,0,4,0]:=by have:=Reads.of_own ho;rwa [qJ]at this
 exact⟨⟨k',A',l',c',eA,ec,by rw[he];unfold rgV;rw[hl];rfl,uU hg (lG _ hr0),hg.RU.trans rfl,hm,hl,hrow⟩,hb⟩
def sbF :List ByteArray:=List.replicate 10 blank
theorem Bp :bP sbF=0:=by kernel_rfl
theorem Gq :gZ sbF=0/\bQ sbF=[]:=by
 unfold gZ bQ
 rw[if_pos Bp,if_pos Bp,show Re (flat sbF)=some (0,[],0) from kR 10]
 exact⟨rfl,rfl⟩
structure Nq (F:List ByteArray):Prop where
 ok:bP F=0
 open_:gZ F=0
 like:∀k:Krn,k.bare=(RU none 0).bare->aD (reL k (bQ F))=aD sbL
theorem Ao (A:Option Addr)(c:Nat)(f:Fl)(cA:Option Addr)(cc:Nat)(b1 b2 b3 a1 a2 a3:Option Addr)(b4 b5 b6 a4 a5 a6:Nat)(W:World)(hk:(RU A c).ok W)(hf:f.ok W)(hF:f.bl=sbF)(hc:nE W cA (iU b1 b2 b3 a1 a2 a3 b4 b5 b6 a4 a5 a6)):
  Calls Tryz.prog 18 #[(RU A c).v,f.v,.slice cA 4 cc] W fun e w'=>(∃(f':Fl)(eA:Option Addr)(ec:Nat),e=.returned (.tuple #[f'.v,.slice eA 4 ec,.int .i64 0])/\Rt w' W.heap.size f' f'.bl/\Nq f'.bl/\dN w' W.heap.size (.slice eA 4 ec) [0,0,4,0])/\Below W.heap.size W w':=by
 obtain⟨s1,s2⟩:=NA A c b1 b2 b3 a1 a2 a3 b4 b5 b6 a4 a5 a6
 have hr0:=Be (A9 A c)
 have hj:=JInv.start Bp (kR 10)
 obtain⟨p1,p2⟩:=Ul (k:=RU A c) (iU b1 b2 b3 a1 a2 a3 b4 b5 b6 a4 a5 a6) (l:=[]) hj (by have:=Q7 b1 b2 b3 a1 a2 a3 b4 b5 b6 a4 a5 a6;rw[fG Bp];show 0+5*0+Lf _+10<=128*10;omega)
 have hpl:=uD (k:=RU A c) (iU b1 b2 b3 a1 a2 a3 b4 b5 b6 a4 a5 a6) (l:=[]) hj
 have hre:S9 (RU A c) sbF=0:=by unfold S9;rw[A9,Gq.1];rfl
 have hR:fD (RU A c) sbF (iU b1 b2 b3 a1 a2 a3 b4 b5 b6 a4 a5 a6)=RD (RU A c) [] sbF (iU b1 b2 b3 a1 a2 a3 b4 b5 b6 a4 a5 a6):=by
  unfold fD
  rw[if_neg (by show¬40<4;omega),if_neg (by rw[hre];simp),Gq.2];rfl
 refine(zP (RU A c) f cA (iU b1 b2 b3 a1 a2 a3 b4 b5 b6 a4 a5 a6) cc W hk hf hc).mono ?_
 rintro e w' ⟨⟨f',eA,ec,he,hfr,ho⟩,hb⟩
 rw[hF,hR,p1,p2,s1]at he
 rw[hF,hR]at hfr
 rw[hF,hR,p2,s1]at ho
 obtain⟨D,q,e1,hi⟩:=hpl.inv
 rw[p2,List.nil_append]at hi
 obtain⟨o1,o2⟩:=hi.open_
 refine⟨⟨f',eA,ec,he,⟨hfr.own,hfr.cap,rfl⟩,⟨by rw[hfr.is];exact hi.ok,by rw[hfr.is];exact o1,fun k hkb=>?_⟩,ho⟩,hb⟩
 rw[hfr.is,o2]
 have h1:=(mX (k:=RU A c) (iU b1 b2 b3 a1 a2 a3 b4 b5 b6 a4 a5 a6) (eD (RU A c) [] (iU b1 b2 b3 a1 a2 a3 b4 b5 b6 a4 a5 a6)) [] rfl).2
 rw[s2]at h1
 have h2:=(Bf (k:=k) (k':=RU A c) (hkb.trans rfl) (a:=gD ((SG (iU b1 b2 b3 a1 a2 a3 b4 b5 b6 a4 a5 a6) (eD (RU A c) [] (iU b1 b2 b3 a1 a2 a3 b4 b5 b6 a4 a5 a6))).map bytesOf)) (a':=gD ((SG (iU b1 b2 b3 a1 a2 a3 b4 b5 b6 a4 a5 a6) (eD (RU A c) [] (iU b1 b2 b3 a1 a2 a3 b4 b5 b6 a4 a5 a6))).map bytesOf)) (l:=[]) (l':=[]) rfl rfl).1
 exact h2.trans (h1.trans rfl)
theorem UW (A:Option Addr)(c:Nat)(f:Fl)(W:World)(hk:(RU A c).ok W)(hf:f.ok W)(hF:Nq f.bl):
  Calls Tryz.prog 20 #[(RU A c).v,f.v] W fun e w'=>(∃k' A' l' c',e=.returned (.tuple #[.agg #[.int .i64 k'.major,.int .i64 k'.minor,.slice k'.eA k'.ex.length k'.eC,.slice A' 2 c'],.int .i64 0])/\dL w' k' A' l'/\k'.bare=(RU none 0).bare/\aD l'=aD sbL/\l'.length=2)/\Below W.heap.size W w':=by
 have hre:S9 (RU A c) f.bl=0:=by unfold S9;rw[A9,hF.open_];rfl
 refine(rG (RU A c) f W hk hf).mono ?_
 intro e w' h
 rw[hre]at h
 obtain⟨⟨k',A',l',c',he,ht,h1,_⟩,hb⟩:=Sv h (fun _=>oO (A9 A c) _)
 obtain⟨e1,e2⟩:=h1 rfl
 have hm:aD l'=aD sbL:=e2.trans (hF.like _ rfl)
 have hl:=II hm
 exact⟨⟨k',A',l',c',by rw[he];unfold rgV;rw[hl],ht,e1.trans rfl,hm,hl⟩,hb⟩
end
section
open Go
open Go.RowKit
theorem AO {w:World}{base:Nat}{A:Option Addr}{c:Nat}{ns:List Int}(h:dN w base (.slice A ns.length c) ns):jN w A ns:=by have:=Reads.of_own h;rwa [qJ]at this
theorem Ld {w':World}{base:Nat}{E:Int}{k k':Krn}{A':Option Addr}{l' L:List Plc}{c':Nat}(hg:UQ w' base k' A' l' c' (wK E k) (wL E L))(hr:E=0->aZ k L=0):
  dL w' k' A' l'/\(E=0->k'.bare=k.bare/\aD l'=aD L)/\(E≠0->k'.bare=Rk/\l'=[]):=by
 refine⟨?_,?_,?_⟩
 ·by_cases t:E=0
  ·rw[t,wK0,wL0]at hg
   exact uU hg (hr t)
  ·rw[wKE t,wLE t]at hg
   have hn:l'=[]:=by have:=nY hg.mods;exact GY9 this
   exact UQ.QB hg (Sg w') (⟨Row.nil,Nat.zero_le _,by simp⟩:aU w' none []) rfl
 ·intro t
  rw[t,wK0,wL0]at hg
  exact⟨hg.RU,hg.mods⟩
 ·intro t
  rw[wKE t,wLE t]at hg
  exact⟨hg.RU,by have:=nY hg.mods;exact GY9 this⟩
theorem Fj (k:Krn)(A:Option Addr)(c:Nat)(l:List Plc)(cA:Option Addr)(cs:List Cm)(cc:Nat)(w:World)(hk:k.ok w)(h:aU w A l)(hc:nE w cA cs):
  Calls Tryz.prog 19 #[rgV k A l c,.slice cA cs.length cc] w fun e w'=>(∃k' A' l' c' eA ec,e=.returned (.tuple #[rgV k' A' l' c',.slice eA (lZ k l cs).length ec,.int .i64 (gV k l cs.length)])/\dL w' k' A' l'/\(gV k l cs.length=0->k'.bare=k.bare/\aD l'=aD (Rl k l cs))/\(gV k l cs.length≠0->k'.bare=Rk/\l'=[])/\dN w' w.heap.size (.slice eA (lZ k l cs).length ec) (lZ k l cs))/\Below w.heap.size w w':=by
 refine(K9 k A c l cA cs cc w hk h hc).mono ?_
 rintro e w' ⟨⟨k',A',l',c',eA,ec,he,hg,ho⟩,hb⟩
 obtain⟨a,b,d⟩:=Ld hg (fun e=>lG _ (by
  unfold gV at e
  by_cases t:aZ k l=0
  ·exact t
  ·rw[if_pos t]at e;exact absurd e t))
 exact⟨⟨k',A',l',c',eA,ec,he,a,b,d,ho⟩,hb⟩
theorem qL {W:World}{b:Nat}{v0 v1 v2:Value}{t:TypeId}(h:W.heap[b]? =some (.cells #[v0,v1,v2] t (0,0))):W.cell? ⟨b,0,none⟩=some v0/\W.cell? ⟨b,1,none⟩=some v1/\W.cell? ⟨b,2,none⟩=some v2:=⟨heap_cell h 0,heap_cell h 1,heap_cell h 2⟩
theorem J4 {W:World}{b:Nat}{v0:Value}{t:TypeId}(h:W.heap[b]? =some (.cells #[v0] t (0,0))):W.cell? ⟨b,0,none⟩=some v0:=heap_cell h 0
end
section
open Go
def F32 :List ByteArray:=List.replicate 32 blank
theorem Qf :bP F32=0:=by kernel_rfl
theorem zM :JInv F32 F32 [] [] 0 0:=JInv.start Qf (kR 32)
theorem KE {k:Krn}{F0 F R:List ByteArray}{D:List Ded}{q e:Nat}(hk:bJ k=0)(h:JInv F0 F R D q e):S9 k F=0:=by
 unfold S9
 rw[if_neg (by omega)]
 exact h.open_.1
theorem Ue {k:Krn}{F0 F R:List ByteArray}{D:List Ded}{q e:Nat}{cs:List Cm}(hk:bJ k=0)(h:JInv F0 F R D q e)(h40:cs.length<=40):fD k F cs=RD k (reL k R) F cs:=by
 unfold fD
 rw[if_neg (by omega),if_neg (by rw[KE hk h];simp),h.open_.2]
theorem zN {k:Krn}{cs:List Cm}(hk:bJ k=0)(h40:cs.length<=40):fD k F32 cs=RD k [] F32 cs:=Ue hk zM h40
theorem Ag (k:Krn):∀(l:List Plc)(cs:List Cm),(eD k l cs).length=cs.length
 |_,[]=>rfl
 |l,c::r=>congrArg (· +1) (Ag k (doL k l c) r)
theorem BG.whole {k:Krn}{l:List Plc}{F0 R:List ByteArray}{cs:List Cm}{p:List ByteArray×List Int×Int}(h:BG k l F0 R cs p)(h0:p.2.2=0):p.2.1=eD k l cs:=by
 have hl:p.2.1.length=cs.length:=by
  rcases Nat.lt_or_ge p.2.1.length cs.length with c|c
  ·have:=(h.stop c).1
   omega
  ·exact Nat.le_antisymm h.len c
 have:=h.errs
 rw[hl,<-Ag k l cs,List.take_length]at this
 exact this
theorem BG.code {k:Krn}{l:List Plc}{F0 R:List ByteArray}{cs:List Cm}{p:List ByteArray×List Int×Int}(h:BG k l F0 R cs p):p.2.2=0\/p.2.2=8:=by
 rcases Nat.lt_or_ge p.2.1.length cs.length with c|c
 ·exact .inr (h.stop c).1
 ·exact .inl (h.all (Nat.le_antisymm h.len c))
theorem DW {k:Krn}{cs:List Cm}(hk:bJ k=0)(h40:cs.length<=40):(fD k F32 cs).2.2=0\/(fD k F32 cs).2.2=8:=by
 rw[zN hk h40]
 exact(uD (k:=k) cs (l:=[]) zM).code
theorem DC {k:Krn}{cs:List Cm}(hk:bJ k=0)(h40:cs.length<=40)(h0:(fD k F32 cs).2.2=0):
  (fD k F32 cs).2.1=eD k [] cs/\S9 k (fD k F32 cs).1=0/\aD (reL k (bQ (fD k F32 cs).1))=aD (Rl k [] cs):=by
 rw[zN hk h40]at h0 ⊢
 have p:=uD (k:=k) cs (l:=[]) zM
 have hw:=p.whole h0
 obtain⟨D,q,e,hi⟩:=p.inv
 refine⟨hw,KE hk hi,?_⟩
 rw[hi.open_.2,hw]
 exact(mX (k:=k) cs _ [] rfl).2
end
end Go.Proofs.YtjiedaialianmaaGreat
