import Derived.Test.YtjiedaialianmaaGreatBLaPaPlRe01
import Derived.Test.YtjiedaialianmaaGreatCRestFlashes01
import Derived.Test.YtjiedaialianmaaGreatKTiny
namespace Go.Proofs.YtjiedaialianmaaGreat
section
set_option maxRecDepth 100000
set_option maxHeartbeats 4000000
open Go.RowKit
theorem SameFlash_any (f g:Fl) (w:World) (h:f.ok w) (h':g.ok w):
  Calls Tryz.prog 32 #[f.v,g.v] w fun e w'=>e=.returned (.bool (decide (f.bl=g.bl)))/\Below w.heap.size w w':=by
 obtain⟨w1,hw1⟩:=Nm (w.alloc (.cells #[.slice f.a f.bl.length f.c] 29))
 obtain⟨f0,hz1,hb1⟩:=Ui hw1
 obtain⟨w2,hw2⟩:=Nm (w1.alloc (.cells #[.slice g.a g.bl.length g.c] 29))
 obtain⟨g0,hz2,hb2⟩:=Ui hw2
 rw[hz1]at g0 hz2 hb2
 have k0:=(hb2.cell (p:=⟨w.heap.size,0,none⟩) (by simp)).trans f0
 have HB:=Hp (hb1.trans (hb2.mono (by omega)))
 have cS:=Hp (pX f.a g.a f.c g.c f.bl g.bl w2 (h.below HB.out).row.row (h'.below HB.out).row.row h.row.len h'.row.len)
 have hw1':=hw1.symm
 have hw2':=hw2.symm
 obtain⟨b,hb⟩:=Nm (decide (f.bl=g.bl))
 rw[<-hb]at cS ⊢
 clear hw1 hw2 hb1 hb2 f0 hz2 h h' hb
 go_enter Tryz.func32,Tryz.ntmps32
 go_wp2_with (go_at_call 31;refine(cS.out).mono ?_;rintro e w3 ⟨rfl,hb3⟩)
 go_ret
 exact⟨rfl,HB.out.trans (hb3.mono HB.out.size)⟩
end
section
open Go.RowKit Go.Lib
theorem UQ.le {W:World} {b b':Nat} {k K:Krn} {A:Option Addr} {l L:List Plc} {c:Nat} (h:UQ W b k A l c K L) (hb:b'<=b):UQ W b' k A l c K L:=⟨⟨RH h.own.ex hb,h.own.mods.le hb⟩,h.RU,h.mods⟩
end
section
open Go
open Go.RowKit Go.Lib
theorem Sp.le {base base':Nat} {W W':World} (h:Sp base W W') (hb:base'<=base):Sp base' W W':=⟨h.bel.mono hb,h.each⟩
theorem own_place {w:World} {base size n c:Nat} {e:TypeId} {A:Option Addr} {xs:List Value} (h:w.ownsRow base e size (.slice A n c) n xs) (hn:0<n):
  ∃g,A=some ⟨g,0,none⟩/\(∀k u,xs[k]? =some u->w.cell? ⟨g,k,none⟩=some u)/\(∀k,w.frozen? ⟨g,k,none⟩=false)/\base<=g/\g<w.heap.size:=by
 rcases h.2 with⟨h0,h1⟩|⟨g,cap,cur,hv,hb,hh,_⟩
 ·omega
 ·injection hv with e1 _ e2
  subst e1 e2
  have hl:=World.ownsRow.lt h g rfl
  have hc:=h.cells (g:=g) rfl
  refine⟨g,rfl,fun k u hu=>?_,fun k=>?_,hl.1,hl.2⟩
  ·have:=hc k u hu
   have e:(⟨g,0,none⟩:Addr).add k=⟨g,k,none⟩:=by unfold Addr.add;split<;>simp_all
   rwa [e]at this
  ·simp[World.frozen?,hh]
theorem str_at {α:Type} {enc:α->List Value} {k o:Nat} (hk:∀x,(enc x).length=k) (ho:o<k) (hs:∀x,∃s,(enc x)[o]? =some (.string s)) {W:World} {base c:Nat} {e:TypeId} {A:Option Addr} {l:List α} (h:W.ownsRow base e k (.slice A l.length c) l.length (l.flatMap enc)):StrAt W base A l.length k o:=by
 refine⟨fun j hj=>?_⟩
 obtain⟨g,rfl,hc,hf,hb,hl⟩:=own_place h (by omega)
 obtain⟨s,e1⟩:=hs l[j]
 exact⟨g,s,rfl,hc _ _ ((flat_get hk l j o hj ho).trans e1),hf _,hb,hl⟩
theorem int_at_ {α:Type} {enc:α->List Value} {k o:Nat} (hk:∀x,(enc x).length=k) (ho:o<k) (hs:∀x,∃s,(enc x)[o]? =some (.int .i64 s)) {W:World} {base c:Nat} {e:TypeId} {A:Option Addr} {l:List α} (h:W.ownsRow base e k (.slice A l.length c) l.length (l.flatMap enc)):IntAt W base A l.length k o:=by
 refine⟨fun j hj=>?_⟩
 obtain⟨g,rfl,hc,hf,hb,hl⟩:=own_place h (by omega)
 obtain⟨s,e1⟩:=hs l[j]
 exact⟨g,s,rfl,hc _ _ ((flat_get hk l j o hj ho).trans e1),hf _,hb,hl⟩
end
section
open Go
open Go.RowKit Go.Lib
theorem doneL_length :∀(l:List Ded) (f:List ByteArray),(bT f l).length=f.length
 | [],_=>rfl
 |d::l,f=>(doneL_length l (yI f d)).trans (jT f d _)
theorem resIf_length {e:Int} {l:List ByteArray}:(Bu e l).length<=l.length:=by
 unfold Bu
 split
 ·exact Nat.le_refl _
 ·exact Nat.zero_le _
theorem playF_length (k:Krn):∀(cs:List Cm) (l:List Plc) (F:List ByteArray),(RD k l F cs).1.length=F.length
 | [],_,_=>rfl
 |c::cs,l,F=>by
  by_cases h1:doE k l c=0
  ·by_cases h2:dF F (aG c).length=0
   ·rw[Sy h1 h2];exact(playF_length k cs _ _).trans (doneL_length _ _)
   ·rw[mQ h1 h2]
  ·rw[lU h1];exact playF_length k cs _ _
theorem playR_length (k:Krn) (F:List ByteArray) (cs:List Cm):(fD k F cs).1.length<=F.length:=by
 unfold fD
 split
 ·exact Nat.zero_le _
 ·split
  ·exact Nat.zero_le _
  ·exact Nat.le_of_eq (playF_length _ _ _ _)
theorem app_len (f:List ByteArray) (s:List UInt8):(xU f s).length<=f.length:=Nat.le_trans resIf_length (Nat.le_of_eq (doneL_length _ _))
theorem do_len (e:Int) (f:List ByteArray) (l:List Ded):(Bu e (bT f l)).length<=f.length:=Nat.le_trans resIf_length (Nat.le_of_eq (doneL_length _ _))
theorem torn_len (e:Int) (f:List ByteArray) (d:Ded) (s:List UInt8):(Bu e (tornL f d s)).length<=f.length:=Nat.le_trans resIf_length (Nat.le_of_eq (jT _ _ _))
theorem appDs_len {F R:List ByteArray} {k e:Nat} (h:Re (flat F)=some (k,R,e)) (s:List UInt8):(OL F s).length<=s.length+5:=by
 unfold OL
 split
 ·exact EI h s
 ·exact Nat.zero_le _
theorem t_rowR {w:World} {base:Nat} {A:Option Addr} {c:Nat} {l:List ByteArray} (h:dA w base (.slice A l.length c) l):Row strCells 1 w A l:=by
 obtain⟨A',c',e,hr,_⟩:=h.form
 injection e with e1 _ e2
 subst e1
 exact hr
theorem rg_lens {W:World} {k:Krn} {A:Option Addr} {l:List Plc} (h:dL W k A l):k.ex.length<=big/\l.length<=big/\∀x∈l,x.m.ex.length<=big/\x.m.im.length<=big/\x.m.pa.length<=big:=
 ⟨h.1.ex.2.1,h.2.len,fun x hx=>⟨(h.2.each x hx).ex.2.1,(h.2.each x hx).im.2.1,(h.2.each x hx).pa.2⟩⟩
theorem fl_spoil {w:World} {base b:Nat} {f:Fl} {l:List ByteArray} (h:Rt w b f l) (hb:base<=b):StrAt w base f.a f.bl.length 1 0:=by
 have h1:w.ownsRow base 9 1 (.slice f.a f.bl.length f.c) f.bl.length (f.bl.flatMap strCells):=by
  have:=RH h.own hb
  rw[<-rZ]
  exact this
 exact str_at (enc:=strCells) (k:=1) (o:=0) (fun _=>rfl) (by omega) (fun x=>⟨x,rfl⟩) h1
theorem t_spoil {w:World} {base b:Nat} {A:Option Addr} {c:Nat} {l:List ByteArray} (h:dA w b (.slice A l.length c) l) (hb:base<=b):StrAt w base A l.length 1 0:=by
 have h1:w.ownsRow base 9 1 (.slice A l.length c) l.length (l.flatMap strCells):=by
  have:=RH h hb
  rw[<-rZ]
  exact this
 exact str_at (enc:=strCells) (k:=1) (o:=0) (fun _=>rfl) (by omega) (fun x=>⟨x,rfl⟩) h1
theorem d_spoil {w:World} {base b:Nat} {A:Option Addr} {c:Nat} {l:List Ded} (h:mZ w b (.slice A l.length c) l) (hb:base<=b):IntAt w base A l.length 3 0:=
 int_at_ (enc:=Ded.cells) (k:=3) (o:=0) (fun _=>rfl) (by omega) (fun x=>⟨_,rfl⟩) (RH h hb)
theorem jS.le {W:World} {base base':Nat} {k:Krn} {A:Option Addr} {l:List Plc} {c:Nat} (h:jS W base k A l c) (hb:base'<=base):jS W base' k A l c:=⟨RH h.ex hb,h.mods.le hb⟩
theorem rgres_own {w w':World} {E:Int} {k:Krn} {L:List Plc} {e:Ending} (h:U7 w E k L e w') (hr:E=0->aZ k L=0):
  (∃k' A' l' c',e=.returned (.tuple #[rgV k' A' l' c',.int .i64 E])/\jS w' w.heap.size k' A' l' c'/\dL w' k' A' l')/\Below w.heap.size w w':=by
 obtain⟨⟨k',A',l',c',he,hg⟩,hb⟩:=h
 refine⟨⟨k',A',l',c',he,hg.own,?_⟩,hb⟩
 by_cases t:E=0
 ·rw[t,wK0,wL0]at hg
  exact uU hg (hr t)
 ·rw[wKE t,wLE t]at hg
  have hn:l'=[]:=by have:=nY hg.mods;exact List.eq_nil_of_length_eq_zero this
  exact UQ.QB hg (Sg w') (⟨Row.nil,Nat.zero_le _,by simp⟩:aU w' none []) rfl
theorem re_rg {k:Krn} {F:List ByteArray} (h:S9 k F=0) (R:List ByteArray):aZ k (reL k R)=0:=by
 unfold S9 at h
 by_cases e:bJ k=0
 ·exact oO e R
 ·rw[if_pos e]at h
  exact absurd h e
end
end Go.Proofs.YtjiedaialianmaaGreat
