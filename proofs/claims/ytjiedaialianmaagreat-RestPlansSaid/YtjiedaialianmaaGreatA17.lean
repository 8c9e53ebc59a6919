import Derived.Test.YtjiedaialianmaaGreatA15
import Derived.Test.YtjiedaialianmaaGreatA16
set_option maxRecDepth 100000
set_option maxHeartbeats 8000000
namespace Go.Proofs.YtjiedaialianmaaGreat
section
open Go.RowKit
open Gs (Tx)
theorem Tf {k:Krn}{l:List Plc}:∀{r:List Imp},(aN k l r).2=0->(aN k l r).1.length=r.length
 | [],_=>rfl
 |i::r,h=>by
  unfold aN at h ⊢
  by_cases b:(addrOf k l i).2=0
  ·rw[if_neg (by omega)]at h ⊢
   by_cases a:(aN k l r).2=0
   ·rw[if_neg (by omega)]
    simp[Tf a]
   ·rw[if_pos a]at h;exact absurd h a
  ·rw[if_pos b]at h;exact absurd h b
theorem KN {z b:Int}:∀{l:List Pat}{e:Int},Rp z b e l=0->∀p∈l,p.sym<b
 |p::l,e,h,q,c=>by
  unfold Rp at h
  by_cases a:iM z b e p=0
  ·rw[if_neg (by omega)]at h
   rcases List.mem_cons.1 c with rfl|c
   ·unfold iM at a
    split at a
    ·omega
    ·split at a
     ·omega
     ·omega
   ·exact KN h q c
  ·rw[if_pos a]at h;exact absurd h a
theorem GY {m:Mod}(h:aL m=0):∀p∈m.pa,p.sym<m.im.length:=by
 have a:=aY h
 have e:=a.2.2.2.2.2.2.2.2.1
 have d:=a.2.2.2.2.2.2.2.2.2.1
 unfold aL at h
 obtain⟨c,b,n,l,k,j,i,g,_,_,f⟩:=a
 rw[if_neg (by simp[c,b]),if_neg (by omega),if_neg (by omega),if_neg (by omega),if_neg (by omega),if_neg (by omega)]at h
 exact KN h
theorem U3 {at_:List Int}{base:Int}{a:List Pat}{s:ByteArray}{j:Nat}(h:j<a.length)(e:RO s.size a[j].kind a[j].at_ a[j].add (iX at_ base a[j]) base≠0):
  bH at_ base (a.drop j) s=(⟨#[]⟩,RO s.size a[j].kind a[j].at_ a[j].add (iX at_ base a[j]) base):=by
 rw[GY4 h,bH,if_pos e]
theorem sQ {at_:List Int}{base:Int}{a:List Pat}{s:ByteArray}{j:Nat}(h:j<a.length)(e:RO s.size a[j].kind a[j].at_ a[j].add (iX at_ base a[j]) base=0):
  bH at_ base (a.drop (j+1)) (bS s a[j].kind a[j].at_ a[j].add (iX at_ base a[j]) base)=bH at_ base (a.drop j) s:=by
 conv=>rhs;rw[GY4 h,bH,if_neg (by omega)]
theorem U9 {at_:List Int}{base:Int}{a:List Pat}{s:ByteArray}{j:Nat}(h:¬j<a.length):bH at_ base (a.drop j) s=(s,0):=by
 rw[List.drop_eq_nil_of_le (by omega)];rfl
theorem Ll (n:Nat)(s:ByteArray):s++(ffs n).extract s.size (ffs n).size=bs (pad n (tx s)):=by
 refine ba_eq ?_
 rw[dY]
 rw[Lib.extract_to_end]
 show tx s++((List.replicate n 255).toArray.toList.drop s.size)=(pad n (tx s)).toArray.toList
 simp only[pad,List.drop_replicate]
 rfl
theorem Dc (k:Krn)(A:Option Addr)(c:Nat)(l:List Plc)(x:Plc)(w:World)(hk:k.ok w)(h:aU w A l)(hx:x.m.ok w)(hp:iB k l=0)(hm:aL x.m=0)(h0:0<=x.first)(h1:x.first<=16):
  Calls Tryz.prog 88 #[k.v,.slice A l.length c,x.v] w fun e w'=>e=.returned (.tuple #[.string (bs (fE k l x).1),.int .i64 (fE k l x).2])/\Below w.heap.size w w':=by
 obtain⟨X,Z⟩:=Nm x
 obtain⟨⟨nm,mj,mn,o,ex,z,b,eA,eC,iA,iC,pA,pC⟩,fi⟩:=x
 obtain⟨wk,a7⟩:=Nm (w.alloc (.cells #[.int .i64 k.major,.int .i64 k.minor,.slice k.eA k.ex.length k.eC] 24))
 obtain⟨g0,g1,g2,d3,b9⟩:=uE a7
 obtain⟨w0,a8⟩:=Nm (wk.alloc (.cells #[.string nm,.int .i64 mj,.int .i64 mn,.string o,.slice eA ex.length eC,.slice iA z.length iC,.slice pA b.length pC,.int .i64 fi] 83))
 obtain⟨f0,f1,f2,f3,f4,f5,f6,f7,b5,a⟩:=zH a8
 rw[d3]at f0 f1 f2 f3 f4 f5 f6 f7 b5 a
 have k0:=(a.cell (p:=⟨w.heap.size,0,none⟩) (by simp)).trans g0
 have k1:=(a.cell (p:=⟨w.heap.size,1,none⟩) (by simp)).trans g1
 have k2:=(a.cell (p:=⟨w.heap.size,2,none⟩) (by simp)).trans g2
 have J:=b9.trans (a.mono (by omega))
 have H0:=Hp J
 have g7:=a7.symm
 have g8:=a8.symm
 have U:=aY hm
 have e6:=Hp (show∀p∈b,p.sym<z.length from GY hm)
 obtain⟨d1,d0,c9⟩:(o.size:Int)<=64*aH X.m/\64*aH X.m<o.size+64/\0<=aH X.m:=by rw[Z];exact xC _
 have b1:1<=aH X.m/\aH X.m<=4:=by rw[Z];exact gK hm
 have ht:o.size<=256:=U.2.2.1
 have d5:z.length<=6:=U.2.2.2.2.2.2.1
 have i0:b.length<=12:=U.2.2.2.2.2.2.2.1
 have d8:0<=X.first:=by rw[Z];exact h0
 have d7:X.first<=16:=by rw[Z];exact h1
 have cA:=Hp (CZ k A c l nm o mj mn ex z b eA iA pA eC iC pC w0 (hk.below J) (h.below J) (hx.below J).im d5 hp)
 have cM:=Hp (show∀W,Calls Tryz.prog 164 #[.agg #[.string nm,.int .i64 mj,.int .i64 mn,.string o,.slice eA ex.length eC,.slice iA z.length iC,.slice pA b.length pC]] W fun e w'=>e=.returned (.int .i64 (aH X.m))/\Below W.heap.size W w' from fun W=>by rw[Z];exact qG ⟨nm,mj,mn,o,ex,z,b,eA,eC,iA,iC,pA,pC⟩ W (show o.size<=big by unfold big;omega))
 have a5:=Hp (Tf (k:=k) (l:=l) (r:=z))
 have e8:=Hp (show Row Pat.cells 4 w0 pA b from(hx.below J).pa.1)
 have f9:=Hp (show∀(W:World)sA n sC,Lk (W.alloc (.cells #[.string nm,.int .i64 mj,.int .i64 mn,.string o,.slice eA ex.length eC,.slice iA z.length iC,.slice pA b.length pC,.int .i64 fi,.slice sA n sC,.string o] 207)) W.heap.size X sA n sC o from fun W sA n sC=>by rw[Z];exact heap_alloc_new _ _)
 have hI:fE k l X=if(aN k l z).2≠0 then([],(aN k l z).2)else if(bH (aN k l z).1 (bV X) b o).2≠0 then([],(bH (aN k l z).1 (bV X) b o).2)else(pad (64*(aH X.m).toNat) (tx (bH (aN k l z).1 (bV X) b o).1),0):=by rw[Z];rfl
 change Calls Tryz.prog 88 #[k.v,.slice A l.length c,.agg #[.string nm,.int .i64 mj,.int .i64 mn,.string o,.slice eA ex.length eC,.slice iA z.length iC,.slice pA b.length pC,.int .i64 fi]] w _
 rw[<-Z]
 obtain⟨I,c1⟩:=Nm (fE k l X)
 rw[<-c1]at hI ⊢
 generalize aN k l z=ad at*
 obtain⟨N,er⟩:=ad
 simp only at cA a5 hI
 clear c1 a7 a8 b9 a J g0 g1 g2 hk h hx hp hm U h0 h1 Z
 have B:w.heap.size+1<w0.heap.size:=by omega
 have h8:w.heap.size<w0.heap.size:=by omega
 clear b5
 by_cases te:er=0
 ·subst te
  rw[if_neg (by simp)]at hI
  have b8:=a5.out rfl
  obtain⟨R,b0⟩:=Nm (bH N (bV X) b o)
  rw[<-b0]at hI
  have e4:=Hp b0.symm
  have HI:=Hp hI
  have e9:=Hp b8
  clear hI b0 b8 a5
  go_enter Tryz.func88,Tryz.ntmps88
  go_wp2_with (go_at_call 135;(with_reducible refine(cA.out).mono ?_);rintro e G ⟨⟨sA,sC,rfl,Q⟩,C⟩;have e5:=Hp Q;have f:=Hp C;obtain⟨d9,d6⟩:=aJ C;have h7:w.heap.size+1<G.heap.size:=(by have:=C.size;omega);have h6:w.heap.size<G.heap.size:=(by omega);clear Q C)
  have g4:=Hp (f9.out G sA N.length sC)
  have c8:=Hp (fun cs=>(GZ4 G.heap.size G).alloc (GZ3 _) (.cells cs 207))
  have c3:=Hp (e8.below f)
  clear d9 d6
  go_loopw [37] (fun i wr=>∃(j:Nat)(s:ByteArray),j<=b.length/\i=.int .i64 j/\Lk wr G.heap.size X sA N.length sC s/\s.size=o.size/\bH N (bV X) (b.drop j) s=R/\Below G.heap.size G wr) (fun i _=>b.length -(intOf i).toNat)
  case atStart=>exact⟨0,o,by omega,rfl,g4.out,rfl,e4.out,c8.out _⟩
  case round=>
   obtain⟨j,s,hj,rfl,hL,b6,hR,Y⟩:=hrel
   have HL:=Hp hL
   have c2:=Hp b6
   have HR:=Hp hR
   have HB:=Hp Y
   have g9:s.size<=256:=by omega
   clear hL b6 hR
   by_cases H:j<b.length
   ·have h3:(j:Int)<b.length:=by omega
    obtain⟨pd,rfl,i1,a0,a1,a2,a3⟩:=qE c3.out Y j H
    have b7:=e6.out b[j] (GZ9 _)
    have E1:=Hp (fun e=>(U3 (at_:=N) (base:=bV X) (s:=s) H e).symm.trans HR.out)
    have E2:=Hp (fun e=>(sQ (at_:=N) (base:=bV X) (s:=s) H e).trans HR.out)
    have E3:=Hp (show RO s.size b[j].kind b[j].at_ b[j].add (iX N (bV X) b[j]) (bV X)=0->(bS s b[j].kind b[j].at_ b[j].add (iX N (bV X) b[j]) (bV X)).size=s.size from fun e=>Rz e)
    obtain⟨q,hq⟩:=Nm (b[j]'H)
    rw[<-hq]at a0 a1 a2 a3 b7
    simp only[<-hq]at E1 E2 E3
    obtain⟨wq,a6⟩:=Nm (wr.alloc (.cells #[.int .i64 q.kind,.int .i64 q.at_,.int .i64 q.sym,.int .i64 q.add] 180))
    obtain⟨y0,y1,y2,y3,d2,V⟩:=oJ a6
    have g6:=a6.symm
    have h9:wr.heap.size<wq.heap.size:=by omega
    have cP:=Hp (JF X G.heap.size sA sC N s q wq (HL.kept V) ((e5.below Y).below V) (by omega) d8 d7 (by have:=e9.out;omega))
    have a4:=Hp (Y.trans (V.mono Y.size))
    obtain⟨E,hE⟩:=Nm (RO s.size q.kind q.at_ q.add (iX N (bV X) q) (bV X))
    obtain⟨T,hT⟩:=Nm (bS s q.kind q.at_ q.add (iX N (bV X) q) (bV X))
    simp only[<-hE,<-hT]at cP E1 E2 E3
    clear hq a6 d2 V hE hT Y b7
    by_cases tE:E=0
    ·subst tE
     have e2:=Hp (E2.out rfl)
     have e3:=Hp ((E3.out rfl).trans c2.out)
     go_wp2_with (go_at_call 163;(with_reducible refine(cP.out).mono ?_);rintro e w5 ⟨rfl,P,O⟩;have c4:=Hp P;have b3:=Hp O;clear P O)
     go_roundw
     case rel=>exact⟨j+1,T,by omega,by go_num,c4.out,e3.out,e2.out,a4.grown b3.out a4.size (fun g hg=>by injection hg with hg;omega)⟩
     case measure=>(simp[intOf];try omega)
    ·have e1:=Hp (E1.out tE)
     have h5:(E != 0)=true:=by simp[tE]
     have e0:=Hp tE
     clear tE
     go_wp2_with (go_at_call 163;(with_reducible refine(cP.out).mono ?_);rintro e w5 ⟨rfl,P,O⟩;have c4:=Hp P;have b3:=Hp O;clear P O)
     go_ret2
     refine⟨?_,H0.trans ((f.trans ((a4.grown b3.out a4.size (fun g hg=>by injection hg with hg;omega)).mono f.size)).mono H0.size)⟩
     rw[HI.out,<-e1.out,if_pos e0.out];rfl
   ·have e1:=Hp ((U9 (at_:=N) (base:=bV X) (s:=s) H).symm.trans HR.out)
    obtain rfl:j=b.length:=by omega
    have c6:=Hp (H0.trans ((f.trans (Y.mono f.size)).mono H0.size))
    have a:=f.trans (Y.mono f.size)
    have m0:=(a.cell (p:=⟨w.heap.size+1,0,none⟩) B).trans f0
    have m1:=(a.cell (p:=⟨w.heap.size+1,1,none⟩) B).trans f1
    have m2:=(a.cell (p:=⟨w.heap.size+1,2,none⟩) B).trans f2
    have m3:=(a.cell (p:=⟨w.heap.size+1,3,none⟩) B).trans f3
    have m4:=(a.cell (p:=⟨w.heap.size+1,4,none⟩) B).trans f4
    have m5:=(a.cell (p:=⟨w.heap.size+1,5,none⟩) B).trans f5
    have m6:=(a.cell (p:=⟨w.heap.size+1,6,none⟩) B).trans f6
    obtain⟨M,c0⟩:∃M:Nat,aH X.m=M:=⟨(aH X.m).toNat,by omega⟩
    have cB:=Hp (fun W=>uQ M W (by omega))
    have e7:=Hp (Ll (64*M) s)
    have c5:=Hp (Aj (64*M))
    rw[c0]at cM d1 d0
    have f8:=Hp (show(aH X.m).toNat=M by omega)
    have i3:M<=4:=by omega
    have d4:s.size<=64*M:=by have:=c2.out;omega
    clear Y a H f0 f1 f2 f3 f4 f5 f6 f7 k0 k1 k2 c9 b1 c0
    go_wp2_with (go_at_call 164;(with_reducible refine(cM.out _).mono ?_);rintro e w6 ⟨rfl,a9⟩;have c7:=Hp a9;have b2:=HL.out.kept a9;have z9:w6.cell? ⟨G.heap.size,9,none⟩=some (.string s):=b2.cell 9;have h2:=b2.lt;clear a9 b2 m0 m1 m2 m3 m4 m5 m6)
    have K:=Hp (show fI w6 (fun W'=>Below w6.heap.size w6 W'/\W'.cell? ⟨G.heap.size,9,none⟩=some (.string s)) from dE (by repeat' first|(with_reducible exact bC.cell (by first|omega|(simp;omega)|(simp only[aA];omega)))|refine bC.and ?_ ?_))
    have d:=Hp (K.now ⟨GZ4 _ _,by assumption⟩)
    have u:=Hp K.D
    have t:=Hp K.S
    have y:=Hp K.A
    have b4:=Hp K.X
    have g5:=Hp K.L
    generalize ffs (64*M)=F at*
    have g1:s.size<=F.size:=by rw[c5.out];exact d4
    have g2:F.size<=256:=by rw[c5.out];omega
    have g3:∀W,(Op.stringOp .add s (F.extract s.size F.size)).run Tryz.prog W=.ok (.string (s++F.extract s.size F.size)) W:=fun W=>run_string_add_sum _ _ _ (by rw[ByteArray.size_extract];omega)
    clear z9
    go_region_held3 (fun W'=>Below w6.heap.size w6 W'/\W'.cell? ⟨G.heap.size,9,none⟩=some (.string s)) (first|exact d.out|exact u.out _ d.out|exact t.out _ _ (by assumption) (by assumption)|exact t.out _ _ d.out (by assumption)|exact t.out _ _ (u.out _ d.out) (by assumption)|exact t.out _ _ (u.out _ (by assumption)) (by assumption)|exact u.out _ (by assumption)|exact y.out _ _ (by assumption)|exact y.out _ _ d.out|exact y.out _ _ (u.out _ d.out)|exact u.out _ (y.out _ _ (by assumption))|exact y.out _ _ (t.out _ _ d.out (by assumption))|exact y.out _ _ (t.out _ _ (u.out _ d.out) (by assumption))|exact b4.out _ _ _ _ (GZ3 _) (by assumption)|exact b4.out _ _ _ _ (GZ3 _) (t.out _ _ (y.out _ _ d.out) (by assumption))|exact b4.out _ _ _ _ (GZ3 _) (t.out _ _ (u.out _ (y.out _ _ d.out)) (by assumption))|assumption) (first|(go_at_call 90;(with_reducible refine(cB.out _).mono ?_);rintro e w7 ⟨rfl,i2⟩))
    have hB:=Hp (g5.out _ (by assumption))
    go_wp2_with fail
    go_ret2
    refine⟨?_,c6.trans ((c7.trans (hB.mono c7.size)).mono c6.size)⟩
    rw[HI.out,<-e1.out,if_neg (by simp),f8.out]
    show _=Ending.returned (.tuple #[.string (bs (pad (64*M) (tx s))),.int .i64 0])
    rw[<-e7.out];rfl
 ·rw[if_pos te]at hI
  have h4:(er != 0)=true:=by simp[te]
  have HI:=Hp hI
  clear hI te a5
  go_enter Tryz.func88,Tryz.ntmps88
  go_wp2_with (go_at_call 135;(with_reducible refine(cA.out).mono ?_);rintro e G ⟨⟨sA,sC,rfl,Q⟩,C⟩;have f:=Hp C;clear Q C)
  go_ret2
  exact⟨by rw[HI.out];rfl,H0.trans (f.mono H0.size)⟩
end
section
open Go.RowKit
open Gs (Tx)
theorem Uc {k:Krn}{l:List Plc}(h:aX k l=0):∀x∈l,aL x.m=0/\0<=x.first/\x.first<=16:=fun x c=>by
 obtain⟨_,d,_,_⟩:=dM h
 obtain⟨_,a,_⟩:=cZ d
 obtain⟨b,e⟩:=a x c
 have:=gK b
 simp only[kE,Bool.and_eq_true,decide_eq_true_eq]at e
 exact⟨b,by omega,by omega⟩
def qK (a:Tx)(r:Tx×Int):Tx×Int:=if r.2≠0 then([],r.2)else(a++r.1,0)
theorem J5 {k:Krn}{l:List Plc}:∀{r:List Plc}{a:Int},(bU k l r a).2≠0->(bU k l r a).1=[]
 | [],a,h=>absurd rfl h
 |x::r,a,h=>by
  unfold bU at h ⊢
  split
  ·rfl
  ·rename_i c
   rw[if_neg c]at h
   split
   ·rfl
   ·rename_i b
    rw[if_neg b]at h
    exact absurd rfl h
theorem Dk {k:Krn}{l r:List Plc}{a:Int}:qK [] (bU k l r a)=bU k l r a:=by
 unfold qK
 split
 ·rename_i h;rw[<-J5 h]
 ·rename_i h
  have b:(bU k l r a).2=0:=by omega
  rw[<-b];rfl
theorem IU {k:Krn}{l:List Plc}{pre:Tx}{a:Int}{j:Nat}(b:j<l.length)(e:(fE k l l[j]).2≠0):qK pre (bU k l (l.drop j) a)=([],(fE k l l[j]).2):=by
 rw[GY4 b]
 unfold bU
 rw[if_pos e]
 unfold qK
 rw[if_pos e]
theorem Cs {k:Krn}{l:List Plc}{pre:Tx}{a:Int}{j:Nat}(b:j<l.length)(e:(fE k l l[j]).2=0):
  qK (pre++(List.replicate (64*(l[j].first -a)).toNat 255++(fE k l l[j]).1)) (bU k l (l.drop (j+1)) (aR l[j]))=qK pre (bU k l (l.drop j) a):=by
 rw[GY4 b]
 conv=>rhs;unfold bU
 rw[if_neg (by omega)]
 unfold qK
 by_cases h:(bU k l (l.drop (j+1)) (aR l[j])).2=0
 ·simp only[h,ne_eq,not_true_eq_false,if_false,List.append_assoc]
 ·simp only[ne_eq,h,not_false_eq_true,if_true]
theorem IW {k:Krn}{l:List Plc}{pre:Tx}{a:Int}{j:Nat}(b:¬j<l.length):qK pre (bU k l (l.drop j) a)=(pre++List.replicate (64*(16 -a)).toNat 255,0):=by
 rw[List.drop_eq_nil_of_le (by omega)]
 unfold bU qK
 rw[if_neg (by simp)]
theorem PE (n:Nat)(t:Tx):(ffs n++bs t).data.toList=List.replicate n 255++t:=by
 rw[dY];rfl
theorem Q9 :Holds 137:=⟨by kernel_rfl,by decide⟩
theorem Fp {l:List Plc}{a:Int}{j:Nat}(h:bW a (l.drop j))(b:j<l.length):a<=l[j].first/\1<=aH l[j].m/\aH l[j].m<=4/\bW (aR l[j]) (l.drop (j+1)):=by
 rw[GY4 b]at h
 exact h
theorem Bo (k:Krn)(A:Option Addr)(c:Nat)(l:List Plc)(w:World)(hk:k.ok w)(h:aU w A l):
  Calls Tryz.prog 24 #[k.v,.slice A l.length c] w fun e w'=>e=.returned (.tuple #[.string (bs (TL k l)),.int .i64 (iP k l)])/\Below w.heap.size w w':=by
 obtain⟨w0,P⟩:=Nm (w.alloc (.cells #[.int .i64 k.major,.int .i64 k.minor,.slice k.eA k.ex.length k.eC] 24))
 obtain⟨g0,g1,g2,hz,H⟩:=uE P
 have O:w.heap.size<w0.heap.size:=by omega
 have H0:=Hp H
 have e9:=P.symm
 have c1:=Hp (uI k A c l w0 (hk.below H) (h.below H))
 have a2:=h.len
 unfold big at a2
 have HP:=Hp h
 have HK:=Hp hk
 have b5:=Hp (fun(e:aX k l=0)=>(dM e).2.2.2)
 have b2:=Hp (fun(e:aX k l=0)=>(cZ (dM e).2.1).2.2)
 have b7:=Hp (fun(e:aX k l=0)=>Uc e)
 obtain⟨T,I⟩:=Nm (TL k l)
 obtain⟨E,J⟩:=Nm (iP k l)
 rw[<-I,<-J]
 unfold TL at I
 unfold iP at J
 obtain⟨L,hL⟩:=Nm (aX k l)
 simp only[<-hL]at c1 b5 b2 b7 I J
 clear P H hz hL h hk
 by_cases Y:L=0
 ·subst Y
  rw[if_neg (by omega)]at I J
  obtain⟨R,S⟩:=Nm (bU k l l 0)
  rw[<-S]at I J
  have d4:=Hp S.symm
  have a9:=Hp (show R=(T,E) by rw[I,J])
  have b1:=Hp (b2.out rfl)
  have b4:=Hp (b5.out rfl)
  have b6:=Hp (b7.out rfl)
  clear I J S
  go_enter Tryz.func24,Tryz.ntmps24
  go_wp2_with (go_at_call 86;(with_reducible refine(c1.out).mono ?_);rintro e z ⟨rfl,g⟩;have M:=Hp (H0.out.trans (g.mono (by omega)));have k0:=(g.cell (p:=⟨w.heap.size,0,none⟩) O).trans g0;have k1:=(g.cell (p:=⟨w.heap.size,1,none⟩) O).trans g1;have k2:=(g.cell (p:=⟨w.heap.size,2,none⟩) O).trans g2;have N:w.heap.size<z.heap.size:=(by have:=g.size;omega);clear g)
  have d5:=Hp (Lib.fresh_isBuilder 137 5 z)
  have c8:=Hp (fun cs=>(GZ4 z.heap.size z).alloc (GZ3 _) (.cells cs 137))
  have d8:=Hp k0
  have d7:=Hp k1
  have d6:=Hp k2
  clear g0 g1 g2 k0 k1 k2
  go_loopw [8,21] (fun v i wr=>∃(j:Nat)(a:Int)(pre:Tx),j<=l.length/\i=.int .i64 j/\v=.int .i64 a/\0<=a/\a<=16/\bW a (l.drop j)/\(pre.length:Int)=64*a/\Bld 137 z.heap.size pre wr/\qK pre (bU k l (l.drop j) a)=R/\Below z.heap.size z wr) (fun _ i _=>l.length -(intOf i).toNat)
  case atStart=>exact⟨0,0,[],by omega,rfl,rfl,by omega,by omega,b1.out,rfl,d5.out,by rw[Dk];exact d4.out,c8.out _⟩
  case round=>
   obtain⟨j,a,pre,hj,rfl,rfl,h1,h0,a0,a1,hB,hR,V⟩:=hrel
   have HB:=Hp V
   have b9:=Hp hB
   have g7:=hB.lt
   have HR:=Hp hR
   have b3:=Hp a1
   have b0:=Hp a0
   have f8:pre.length<=1024:=by omega
   clear hB hR a1 a0
   by_cases f:j<l.length
   ·have g3:(j:Int)<l.length:=by omega
    obtain⟨r1,r2,r3,r4⟩:=Fp b0.out f
    obtain⟨q1,q2,q3⟩:=b6.out l[j] (GZ9 _)
    have D:=M.trans (V.mono M.size)
    obtain⟨ad,rfl,g8,f0,f1,f2,f3,f4,f5,f6,f7⟩:=RS HP.row D j f
    have m0:=(V.cell (p:=⟨w.heap.size,0,none⟩) N).trans d8.out
    have m1:=(V.cell (p:=⟨w.heap.size,1,none⟩) N).trans d7.out
    have m2:=(V.cell (p:=⟨w.heap.size,2,none⟩) N).trans d6.out
    have E1:=Hp (fun e=>(IU (k:=k) (pre:=pre) (a:=a) f e).symm.trans HR.out)
    have E2:=Hp (fun e=>(Cs (k:=k) (pre:=pre) (a:=a) f e).trans HR.out)
    have E3:=Hp (fun(e:(fE k l (l[j]'f)).2=0)=>wH (k:=k) (l:=l) (x:=l[j]'f) e)
    have cI:=Hp (fun W(Q:Below w.heap.size w W)=>Dc k (some ad) c l l[j] W (HK.below Q) (HP.below Q) ((HP.each l[j] (GZ9 _)).below Q) b4.out q1 q2 q3)
    have ht:=(aY q1).2.2.1
    have cE:=Hp (fun W=>zR l[j] W ht q2 q3)
    have d1:aR l[j]=l[j].first+aH l[j].m:=rfl
    have a3:=bW.le r4
    obtain⟨y,hy⟩:=Nm (l[j]'f)
    simp only[<-hy]at f0 f1 f2 f3 f4 f5 f6 f7 E1 E2 E3 cI cE d1 a3 r1 r2 r3 r4 q2 q3
    have R4:=Hp r4
    obtain⟨wq,C⟩:=Nm (wr.alloc (.cells #[.string y.m.name,.int .i64 y.m.major,.int .i64 y.m.minor,.string y.m.text,.slice y.m.eA y.m.ex.length y.m.eC,.slice y.m.iA y.m.im.length y.m.iC,.slice y.m.pA y.m.pa.length y.m.pC,.int .i64 y.first] 83))
    obtain⟨y0,y1,y2,y3,y4,y5,y6,y7,c9,s⟩:=zH C
    have a5:wq.heap[wr.heap.size]? =some (.cells #[.string y.m.name,.int .i64 y.m.major,.int .i64 y.m.minor,.string y.m.text,.slice y.m.eA y.m.ex.length y.m.eC,.slice y.m.iA y.m.im.length y.m.iC,.slice y.m.pA y.m.pa.length y.m.pC,.int .i64 y.first] 83 (0,0)):=by rw[C];exact heap_alloc_new _ _
    have d9:=Hp a5
    have e8:=C.symm
    have Z:wr.heap.size<wq.heap.size:=by omega
    have n0:=(s.cell (p:=⟨w.heap.size,0,none⟩) (show w.heap.size<wr.heap.size by omega)).trans m0
    have n1:=(s.cell (p:=⟨w.heap.size,1,none⟩) (show w.heap.size<wr.heap.size by omega)).trans m1
    have n2:=(s.cell (p:=⟨w.heap.size,2,none⟩) (show w.heap.size<wr.heap.size by omega)).trans m2
    have b8:=Hp s
    have K:=Hp (D.trans (s.mono D.size))
    clear V D hy C c9 s a5 m0 m1 m2 q1 ht r4
    obtain⟨⟨G,ge⟩,hG⟩:∃G,G=fE k l y:=⟨_,rfl⟩
    simp only[<-hG]at cI E1 E2 E3
    clear hG
    by_cases tE:ge=0
    ·subst tE
     have e2:=Hp (E2.out rfl)
     have e3:=E3.out rfl
     obtain⟨n,hn⟩:∃n:Nat,y.first -a=n:=⟨(y.first -a).toNat,by omega⟩
     have cB:=Hp (fun W=>uQ n W (by omega))
     have q:(bs G).size=G.length:=rfl
     have r:=Aj (64*n)
     have g9:∀W,(Op.stringOp .add (ffs (64*n)) (bs G)).run Tryz.prog W=.ok (.string (ffs (64*n)++bs G)) W:=fun W=>run_string_add_sum _ _ _ (by rw[q,r];omega)
     have U:=Hp (PE (64*n) G)
     have d0:(ffs (64*n)++bs G).size<=2048:=by rw[ByteArray.size_append,q,r];omega
     have HN:=Hp (show(64*(y.first -a)).toNat=64*n by omega)
     have e4:=Hp e3
     obtain⟨X,hX⟩:=Nm (ffs (64*n)++bs G)
     rw[<-hX]at d0
     simp only[<-hX]at g9 U
     have cW:=Hp (fun W Q=>jW 137 z.heap.size Q9 pre X W Q (by omega))
     generalize ffs (64*n)=F at*
     clear q r hX e3
     go_wp2_with (first
      |(go_at_call 88;(with_reducible refine(cI.out _ K.out).mono ?_);rintro e w5 ⟨rfl,d⟩
        have o:=Hp d
        have z7:=(d.cell (p:=⟨wr.heap.size,7,none⟩) Z).trans y7
        have g6:=d.size
        clear d)
      |(go_at_call 90;(with_reducible refine(cB.out _).mono ?_);rintro e w6 ⟨rfl,t⟩
        have e6:=Hp t
        have d3:=Hp (((b9.below b8).below o).below t)
        have e0:=Hp ((t.block _ (by omega)).trans ((o.block _ Z).trans d9.out))
        clear t z7)
      |(go_at_call 89;(with_reducible refine(cW.out _ d3.out).mono ?_);rintro e B ⟨⟨u,rfl⟩,a8,a7,a4⟩
        have b:=a4.heap e0.out (by omega) (by decide)
        have c0:B.cell? ⟨wr.heap.size,0,none⟩=some (.string y.m.name):=by rw[Lib.cell_of_heap b];rfl
        have c1:B.cell? ⟨wr.heap.size,1,none⟩=some (.int .i64 y.m.major):=by rw[Lib.cell_of_heap b];rfl
        have c2:B.cell? ⟨wr.heap.size,2,none⟩=some (.int .i64 y.m.minor):=by rw[Lib.cell_of_heap b];rfl
        have c3:B.cell? ⟨wr.heap.size,3,none⟩=some (.string y.m.text):=by rw[Lib.cell_of_heap b];rfl
        have c4:B.cell? ⟨wr.heap.size,4,none⟩=some (.slice y.m.eA y.m.ex.length y.m.eC):=by rw[Lib.cell_of_heap b];rfl
        have c5:B.cell? ⟨wr.heap.size,5,none⟩=some (.slice y.m.iA y.m.im.length y.m.iC):=by rw[Lib.cell_of_heap b];rfl
        have c6:B.cell? ⟨wr.heap.size,6,none⟩=some (.slice y.m.pA y.m.pa.length y.m.pC):=by rw[Lib.cell_of_heap b];rfl
        have c7:B.cell? ⟨wr.heap.size,7,none⟩=some (.int .i64 y.first):=by rw[Lib.cell_of_heap b];rfl
        have e5:=Hp a7
        have d2:=Hp a8
        have f9:wr.heap.size<B.heap.size:=(ZL b)
        clear a8 a7 a4 b)
      |(go_at_call 91;(with_reducible refine(cE.out _).mono ?_);rintro e w8 ⟨rfl,a6⟩))
     go_roundw
     case rel=>
      refine⟨j+1,aR y,pre++X.data.toList,by omega,by go_num,rfl,by omega,a3,R4.out,?_,d2.below a6,?_,?_⟩
      ·rw[U.out,GZ8,GZ8,List.length_replicate]
       have:=b3.out
       have:=e4.out
       omega
      ·rw[U.out,<-HN.out];exact e2.out
      ·exact HB.trans ((b8.mono (by omega)).trans ((o.mono (by omega)).trans ((e6.mono (by omega)).trans (e5.trans (a6.mono (by omega))))))
     case measure=>(simp[intOf];try omega)
    ·have e1:=Hp (E1.out tE)
     have g4:(ge != 0)=true:=by simp[tE]
     clear E2 E3 tE
     go_wp2_with (go_at_call 88;(with_reducible refine(cI.out _ K.out).mono ?_);rintro e w5 ⟨rfl,d⟩;have o:=Hp d;clear d)
     go_ret2
     refine⟨?_,K.trans (o.mono K.size)⟩
     have:=e1.trans a9.out
     obtain⟨rfl,rfl⟩:=Prod.mk.inj this
     rfl
   ·have e1:=Hp ((IW (k:=k) (pre:=pre) (a:=a) f).symm.trans HR.out)
    obtain rfl:j=l.length:=by omega
    obtain⟨n,hn⟩:∃n:Nat,16 -a=n:=⟨(16 -a).toNat,by omega⟩
    have cB:=Hp (fun W=>uQ n W (by omega))
    have cS:=Hp (fun W Q hs=>Tryz.Builder_String_any z.heap.size z.heap.size pre W Q hs)
    have q:(bs pre).size=pre.length:=rfl
    have r:=Aj (64*n)
    have g9:∀W,(Op.stringOp .add (bs pre) (ffs (64*n))).run Tryz.prog W=.ok (.string (bs pre++ffs (64*n))) W:=fun W=>run_string_add_sum _ _ _ (by rw[q,r];omega)
    have HX:=Hp (show bs pre++ffs (64*n)=bs (pre++List.replicate (64*n) 255) from ba_eq (by rw[dY];rfl))
    have HN:=Hp (show(64*(16 -a)).toNat=64*n by omega)
    generalize ffs (64*n)=F at*
    clear q r f
    go_wp2_with (first
     |(go_at_call 92;(with_reducible refine(cS.out _ b9.out (by omega)).mono ?_);rintro e w5 ⟨rfl,d⟩;have o:=Hp d;clear d)
     |(go_at_call 90;(with_reducible refine(cB.out _).mono ?_);rintro e w6 ⟨rfl,t⟩))
    go_ret2
    refine⟨?_,M.trans ((HB.trans (o.trans (t.mono (by have:=o.size;omega)))).mono M.size)⟩
    have:=e1.trans a9.out
    rw[HN.out]at this
    obtain⟨rfl,rfl⟩:=Prod.mk.inj this
    rw[<-HX.out]
    rfl
 ·rw[if_pos Y]at I J
  have g5:(L != 0)=true:=by simp[Y]
  have e7:(L==0)=false:=by simp[Y]
  subst I J
  clear Y
  go_enter Tryz.func24,Tryz.ntmps24
  go_wp2_with (go_at_call 86;(with_reducible refine(c1.out).mono ?_);rintro e z ⟨rfl,g⟩)
  go_ret2
  exact⟨rfl,H0.trans (g.mono (by omega))⟩
end
section
open Go.RowKit
theorem VG (k:Krn)(A:Option Addr)(c:Nat)(l:List Plc)(nm tx:ByteArray)(mj mn:Int)(ex:List Exp)(f:List Imp)(pa:List Pat)(eA Y pA:Option Addr)(eC r pC:Nat)(w:World)(hk:k.ok w)(h:aU w A l)(K:TC w Y f)(b5:f.length<=6)(hp:iB k l=0):
  Calls Tryz.prog 230 #[k.v,.slice A l.length c,.agg #[.string nm,.int .i64 mj,.int .i64 mn,.string tx,.slice eA ex.length eC,.slice Y f.length r,.slice pA pa.length pC]] w fun e w'=>
   (∃(A':Option Addr)(c':Nat),e=.returned (.tuple #[.slice A' (aN k l f).1.length c',.int .i64 (aN k l f).2])/\AB w' A' (aN k l f).1)/\Below w.heap.size w w':=by
 obtain⟨wk,C⟩:=Nm (w.alloc (.cells #[.int .i64 k.major,.int .i64 k.minor,.slice k.eA k.ex.length k.eC] 24))
 obtain⟨g0,g1,g2,a3,L⟩:=uE C
 obtain⟨F,D⟩:=Nm (wk.alloc (.cells #[.string nm,.int .i64 mj,.int .i64 mn,.string tx,.slice eA ex.length eC,.slice Y f.length r,.slice pA pa.length pC] 70))
 obtain⟨_,_,_,_,_,f5,_,o,m⟩:=wE D
 rw[a3]at f5 o m
 have k0:=(m.cell (p:=⟨w.heap.size,0,none⟩) (by simp)).trans g0
 have k1:=(m.cell (p:=⟨w.heap.size,1,none⟩) (by simp)).trans g1
 have k2:=(m.cell (p:=⟨w.heap.size,2,none⟩) (by simp)).trans g2
 have H0:=Hp (show Below w.heap.size w F from L.trans (m.mono (by omega)))
 have HZ:=Hp o
 have a9:=C.symm
 have b0:=D.symm
 have a8:=Hp K
 obtain⟨R,hR⟩:=Nm (aN k l f)
 rw[<-hR]
 have HR:=Hp hR
 clear C D L m g0 g1 g2 K hR o
 have cA:=Hp (fun W(g:Below w.heap.size w W)i=>Cg k A c l i W (hk.below g) (h.below g) hp)
 clear hk h hp
 go_enter Tryz.func230,Tryz.ntmps230
 go_wp2_with fail
 go_loopw [8,9] (fun v i wr=>∃(j:Nat)(pre:List Int),j<=f.length/\i=.int .i64 j/\pre.length=j/\Ints wr F.heap.size v pre/\glue pre (aN k l (f.drop j))=R/\Below F.heap.size F wr) (fun _ i _=>f.length -(intOf i).toNat)
 case atStart=>exact⟨0,[],by omega,rfl,rfl,Ints.nil _ _,by rw[HR.out];exact Gb,GZ4 _ _⟩
 case round=>
  obtain⟨j,pre,hj,rfl,H,J,hG,g⟩:=hrel
  have HG:=Hp hG
  have HB:=Hp g
  have HI:=Hp J
  have Q:=Hp H
  clear hG J H
  obtain⟨vA,vc,rfl,G⟩:=HI.row
  have b4:=g.size
  have o:=HZ.out
  have b3:w.heap.size+1<wr.heap.size:=by omega
  have b2:w.heap.size<wr.heap.size:=by omega
  have r0:=(g.cell (p:=⟨w.heap.size,0,none⟩) (by simp;omega)).trans k0
  have r1:=(g.cell (p:=⟨w.heap.size,1,none⟩) (by simp;omega)).trans k1
  have r2:=(g.cell (p:=⟨w.heap.size,2,none⟩) (by simp;omega)).trans k2
  have r5:=(g.cell (p:=⟨w.heap.size+1,5,none⟩) (by simp;omega)).trans f5
  have U:=Hp (show Below w.heap.size w wr from H0.trans (g.mono H0.size))
  clear o
  by_cases t:j<f.length
  ·have b1:(j:Int)<f.length:=by omega
   obtain⟨a,rfl,b7,h0,h1,h2,h3⟩:=TA a8.out.1 U.out j t
   have T:=Hp (fun W g=>cA.out W g f[j])
   obtain⟨V,hV⟩:=Nm (addrOf k l f[j])
   have E:=Hp (fun he=>(Fw (k:=k) (l:=l) (pre:=pre) t he).symm.trans HG.out)
   have e2:=Hp (fun he=>(Jw (k:=k) (l:=l) (pre:=pre) t he).trans HG.out)
   rw[<-hV]at E e2
   simp only[<-hV]at T
   clear hV g
   obtain⟨v1,v2⟩:=V
   simp only at E e2 T
   have b6:(a.add (j*4)).block<wr.heap.size:=by rw[aA];omega
   have P:(Below wr.heap.size wr wr/\wr.cell? ⟨w.heap.size,0,none⟩=some (.int .i64 k.major)/\wr.cell? ⟨w.heap.size,1,none⟩=some (.int .i64 k.minor)/\wr.cell? ⟨w.heap.size,2,none⟩=some (.slice k.eA k.ex.length k.eC)/\wr.cell? ⟨w.heap.size+1,5,none⟩=some (.slice (some a) f.length r)/\wr.cell? (a.add (j*4))=some (.string f[j].mod)/\wr.cell? ⟨(a.add (j*4)).block,(a.add (j*4)).off+1,none⟩=some (.string f[j].name)/\wr.cell? ⟨(a.add (j*4)).block,(a.add (j*4)).off+2,none⟩=some (iv f[j].major)/\wr.cell? ⟨(a.add (j*4)).block,(a.add (j*4)).off+3,none⟩=some (iv f[j].minor)):=⟨GZ4 _ _,r0,r1,r2,r5,h0,h1,h2,h3⟩
   have N:∀d:World,(Below wr.heap.size wr d/\d.cell? ⟨w.heap.size,0,none⟩=some (.int .i64 k.major)/\d.cell? ⟨w.heap.size,1,none⟩=some (.int .i64 k.minor)/\d.cell? ⟨w.heap.size,2,none⟩=some (.slice k.eA k.ex.length k.eC)/\d.cell? ⟨w.heap.size+1,5,none⟩=some (.slice (some a) f.length r)/\d.cell? (a.add (j*4))=some (.string f[j].mod)/\d.cell? ⟨(a.add (j*4)).block,(a.add (j*4)).off+1,none⟩=some (.string f[j].name)/\d.cell? ⟨(a.add (j*4)).block,(a.add (j*4)).off+2,none⟩=some (iv f[j].major)/\d.cell? ⟨(a.add (j*4)).block,(a.add (j*4)).off+3,none⟩=some (iv f[j].minor))->(Below wr.heap.size wr d.drew/\d.drew.cell? ⟨w.heap.size,0,none⟩=some (.int .i64 k.major)/\d.drew.cell? ⟨w.heap.size,1,none⟩=some (.int .i64 k.minor)/\d.drew.cell? ⟨w.heap.size,2,none⟩=some (.slice k.eA k.ex.length k.eC)/\d.drew.cell? ⟨w.heap.size+1,5,none⟩=some (.slice (some a) f.length r)/\d.drew.cell? (a.add (j*4))=some (.string f[j].mod)/\d.drew.cell? ⟨(a.add (j*4)).block,(a.add (j*4)).off+1,none⟩=some (.string f[j].name)/\d.drew.cell? ⟨(a.add (j*4)).block,(a.add (j*4)).off+2,none⟩=some (iv f[j].major)/\d.drew.cell? ⟨(a.add (j*4)).block,(a.add (j*4)).off+3,none⟩=some (iv f[j].minor)):=fun d ⟨b,a0,a1,a2,a5,i0,i1,i2,Z⟩=>⟨b.drew,a0,a1,a2,a5,i0,i1,i2,Z⟩
   have M:∀d q:World,(Below wr.heap.size wr d/\d.cell? ⟨w.heap.size,0,none⟩=some (.int .i64 k.major)/\d.cell? ⟨w.heap.size,1,none⟩=some (.int .i64 k.minor)/\d.cell? ⟨w.heap.size,2,none⟩=some (.slice k.eA k.ex.length k.eC)/\d.cell? ⟨w.heap.size+1,5,none⟩=some (.slice (some a) f.length r)/\d.cell? (a.add (j*4))=some (.string f[j].mod)/\d.cell? ⟨(a.add (j*4)).block,(a.add (j*4)).off+1,none⟩=some (.string f[j].name)/\d.cell? ⟨(a.add (j*4)).block,(a.add (j*4)).off+2,none⟩=some (iv f[j].major)/\d.cell? ⟨(a.add (j*4)).block,(a.add (j*4)).off+3,none⟩=some (iv f[j].minor))->Below d.heap.size d q->(Below wr.heap.size wr q/\q.cell? ⟨w.heap.size,0,none⟩=some (.int .i64 k.major)/\q.cell? ⟨w.heap.size,1,none⟩=some (.int .i64 k.minor)/\q.cell? ⟨w.heap.size,2,none⟩=some (.slice k.eA k.ex.length k.eC)/\q.cell? ⟨w.heap.size+1,5,none⟩=some (.slice (some a) f.length r)/\q.cell? (a.add (j*4))=some (.string f[j].mod)/\q.cell? ⟨(a.add (j*4)).block,(a.add (j*4)).off+1,none⟩=some (.string f[j].name)/\q.cell? ⟨(a.add (j*4)).block,(a.add (j*4)).off+2,none⟩=some (iv f[j].major)/\q.cell? ⟨(a.add (j*4)).block,(a.add (j*4)).off+3,none⟩=some (iv f[j].minor)):=fun d q ⟨b,a0,a1,a2,a5,i0,i1,i2,Z⟩g=>
    have s:=b.size
    ⟨b.trans (g.mono s),(g.cell (by simp;omega)).trans a0,(g.cell (by simp;omega)).trans a1,(g.cell (by simp;omega)).trans a2,(g.cell (by simp;omega)).trans a5,(g.cell (by omega)).trans i0,(g.cell (by simp;omega)).trans i1,(g.cell (by simp;omega)).trans i2,(g.cell (by simp;omega)).trans Z⟩
   have O:∀d:World,(Below wr.heap.size wr d/\d.cell? ⟨w.heap.size,0,none⟩=some (.int .i64 k.major)/\d.cell? ⟨w.heap.size,1,none⟩=some (.int .i64 k.minor)/\d.cell? ⟨w.heap.size,2,none⟩=some (.slice k.eA k.ex.length k.eC)/\d.cell? ⟨w.heap.size+1,5,none⟩=some (.slice (some a) f.length r)/\d.cell? (a.add (j*4))=some (.string f[j].mod)/\d.cell? ⟨(a.add (j*4)).block,(a.add (j*4)).off+1,none⟩=some (.string f[j].name)/\d.cell? ⟨(a.add (j*4)).block,(a.add (j*4)).off+2,none⟩=some (iv f[j].major)/\d.cell? ⟨(a.add (j*4)).block,(a.add (j*4)).off+3,none⟩=some (iv f[j].minor))->Below w.heap.size w d:=fun d hc=>U.trans (hc.1.mono (by omega))
   have B:=Hp P
   have y:=Hp N
   have x:=Hp M
   have z:=Hp O
   clear P N M O
   by_cases u:v2=0
   ·obtain rfl:=u
    have S:=Hp (e2.out rfl)
    go_wp2_with fail
    go_region_held3 (fun d=>Below wr.heap.size wr d/\d.cell? ⟨w.heap.size,0,none⟩=some (.int .i64 k.major)/\d.cell? ⟨w.heap.size,1,none⟩=some (.int .i64 k.minor)/\d.cell? ⟨w.heap.size,2,none⟩=some (.slice k.eA k.ex.length k.eC)/\d.cell? ⟨w.heap.size+1,5,none⟩=some (.slice (some a) f.length r)/\d.cell? (a.add (j*4))=some (.string f[j].mod)/\d.cell? ⟨(a.add (j*4)).block,(a.add (j*4)).off+1,none⟩=some (.string f[j].name)/\d.cell? ⟨(a.add (j*4)).block,(a.add (j*4)).off+2,none⟩=some (iv f[j].major)/\d.cell? ⟨(a.add (j*4)).block,(a.add (j*4)).off+3,none⟩=some (iv f[j].minor)) (first|exact B.out|exact y.out _ (by assumption)|exact x.out _ _ (by assumption) (by assumption)|assumption) (first|(go_at_call 258;refine(T.out _ (z.out _ (by assumption))).mono ?_;rintro e X ⟨rfl,a7⟩))
    clear B y x z
    have n:Below wr.heap.size wr X:=And.left (by assumption)
    have a4:=n.size
    go_wp2_with (at_builtin;refine BQ _ rfl _ _ rfl F.heap.size (.slice vA pre.length vc) pre v1 rfl rfl (own_below HI.out n (GZ3 _)) (by rw[Q.out];omega) (by omega) ?_;intro v' w4 I a6)
    go_roundw
    case rel=>exact⟨j+1,pre++[v1],by omega,by go_num,by simp[Q.out],I,S.out,(HB.trans (n.mono (by omega))).trans a6⟩
    case measure=>(simp[intOf];try omega)
   ·have u':(v2 != 0)=true:=by simp[u]
    have S:=Hp (E.out u)
    clear u
    go_wp2_with fail
    go_region_held3 (fun d=>Below wr.heap.size wr d/\d.cell? ⟨w.heap.size,0,none⟩=some (.int .i64 k.major)/\d.cell? ⟨w.heap.size,1,none⟩=some (.int .i64 k.minor)/\d.cell? ⟨w.heap.size,2,none⟩=some (.slice k.eA k.ex.length k.eC)/\d.cell? ⟨w.heap.size+1,5,none⟩=some (.slice (some a) f.length r)/\d.cell? (a.add (j*4))=some (.string f[j].mod)/\d.cell? ⟨(a.add (j*4)).block,(a.add (j*4)).off+1,none⟩=some (.string f[j].name)/\d.cell? ⟨(a.add (j*4)).block,(a.add (j*4)).off+2,none⟩=some (iv f[j].major)/\d.cell? ⟨(a.add (j*4)).block,(a.add (j*4)).off+3,none⟩=some (iv f[j].minor)) (first|exact B.out|exact y.out _ (by assumption)|exact x.out _ _ (by assumption) (by assumption)|assumption) (first|(go_at_call 258;refine(T.out _ (z.out _ (by assumption))).mono ?_;rintro e X ⟨rfl,a7⟩))
    clear B y x z
    have n:Below wr.heap.size wr X:=And.left (by assumption)
    have a4:=n.size
    go_wp2_with fail
    go_ret2
    exact⟨⟨none,0,by rw[<-S.out];rfl,by rw[<-S.out];exact Row.nil⟩,U.trans (n.mono (by omega))⟩
  ·have E:=Hp ((Hf (k:=k) (l:=l) (pre:=pre) t).symm.trans HG.out)
   go_wp2_with fail
   go_ret2
   exact⟨⟨vA,vc,by rw[<-E.out];rfl,by rw[<-E.out];exact G⟩,U.out⟩
end
section
open Go.RowKit
open Gs (Tx)
open Gr (Tab)
theorem Tryz.Nf :(Tryz.prog.info? 4).map (fun i=>(i.zero,i.size,i.bytes))=some (some (.bool false),1,1):=by kernel_rfl
theorem Tryz.Kl :(Tryz.prog.info? 221).map (fun i=>(i.zero,i.size,i.bytes))=some (some (.slice none 0 0),1,24):=by kernel_rfl
structure Mat (w:World)(B0 n O:Nat)(R C:Nat->Nat)(t:Tab):Prop where
 row:∀i,i<n->w.cell? ⟨O,i,none⟩=some (.slice (some ⟨R i,0,none⟩) n (C i))
 cell:∀i k,i<n->k<n->w.cell? ⟨R i,k,none⟩=some (.bool (t.at i k))
 free:∀i k,i<n->k<n->w.frozen? ⟨R i,k,none⟩=false
 one:∀i k,i<n->k<n->R i=R k->i=k
 off:∀i,i<n->R i≠O/\B0<=R i
 low:B0<=O
 sq:t.sq n
section
variable {w w':World} {B0 n O:Nat} {R C:Nat->Nat} {t:Tab}
theorem Mat.lt (h:Mat w B0 n O R C t){i:Nat}(a:i<n):R i<w.heap.size:=World.block_lt_of_cell? _ _ (h.cell i i a a)
theorem Mat.ltO (h:Mat w B0 n O R C t){i:Nat}(a:i<n):O<w.heap.size:=World.block_lt_of_cell? _ _ (h.row i a)
theorem Mat.drew (h:Mat w B0 n O R C t):Mat w.drew B0 n O R C t:=⟨h.row,h.cell,h.free,h.one,h.off,h.low,h.sq⟩
theorem Mat.below {B:Nat}(h:Mat w B0 n O R C t)(c:Below B w w')(d:w.heap.size<=B):Mat w' B0 n O R C t where
 row:=fun i a=>(c.cell (p:=⟨O,i,none⟩) (GY0 (h.ltO a) d)).trans (h.row i a)
 cell:=fun i k a b=>(c.cell (p:=⟨R i,k,none⟩) (GY0 (h.lt a) d)).trans (h.cell i k a b)
 free:=fun i k a b=>(c.frozen (p:=⟨R i,k,none⟩) (GY0 (h.lt a) d)).trans (h.free i k a b)
 one:=h.one
 off:=h.off
 low:=h.low
 sq:=h.sq
theorem Mat.store {i k:Nat}(h:Mat w B0 n O R C t)(g:i<n)(m:k<n){v:Bool}{f:Tab}(l:f.sq n)(j:∀a b,f.at a b=if a=i/\b=k then v else t.at a b):Mat (w.setCell ⟨R i,k,none⟩ (.bool v)) B0 n O R C f where
 row:=fun a c=>by
  rw[World.cell?_setCell_far _ _ _ _ (show R i≠O from(h.off i g).1)]
  exact h.row a c
 cell:=fun a b c d=>by
  rw[j]
  by_cases e:a=i/\b=k
  ·obtain⟨rfl,rfl⟩:=e
   rw[if_pos ⟨rfl,rfl⟩]
   exact World.cell?_setCell_same _ _ _ (h.cell a b c d)
  ·rw[if_neg e,World.cell?_setCell_other _ _ _ _ (fun q=>by
    injection q with q1 q2 _
    exact e ⟨(h.one i a g c q1).symm,q2.symm⟩)]
   exact h.cell a b c d
 free:=fun a b c d=>by rw[World.frozen?_setCell];exact h.free a b c d
 one:=h.one
 off:=h.off
 low:=h.low
 sq:=l
theorem Mat.fill {m i k:Nat}(h:Mat w B0 n O R C t)(c:i<n)(d:k<n){v:Bool}(e:v=(t.at i k || t.at i m&&t.at m k)):Mat (w.setCell ⟨R i,k,none⟩ (.bool v)) B0 n O R C (Tab.fill m i k t):=
 h.store c d (Tab.Jt h.sq c) (fun a b=>by rw[Tab.zJ h.sq c d,e])
end
def Qu (w:World)(B0:Nat)(v:Value)(n:Nat)(t:Tab):Prop:=∃(A:Option Addr)(c:Nat),v=.slice A n c/\(0<n->∃O R C,A=some ⟨O,0,none⟩/\Mat w B0 n O R C t)
def tK (m i:Nat)(t:Tab)(k:Nat):Tab:=(List.range k).foldl (fun t k=>Tab.fill m i k t) t
def tI (n m:Nat)(t:Tab)(i:Nat):Tab:=(List.range i).foldl (fun t i=>Tab.row n m i t) t
def tM (n:Nat)(t:Tab)(m:Nat):Tab:=(List.range m).foldl (fun t m=>Tab.phase n m t) t
theorem Pv (m i:Nat)(t:Tab)(k:Nat):tK m i t (k+1)=Tab.fill m i k (tK m i t k):=by unfold tK;rw[List.range_succ,List.foldl_append];rfl
theorem PS (n m:Nat)(t:Tab)(i:Nat):tI n m t (i+1)=tK m i (tI n m t i) n:=by unfold tI;rw[List.range_succ,List.foldl_append];rfl
theorem PK (n:Nat)(t:Tab)(m:Nat):tM n t (m+1)=tI n m (tM n t m) n:=by unfold tM;rw[List.range_succ,List.foldl_append];rfl
theorem GM {w:World}{a g n c:Nat}{e:TypeId}{b:List Value}(h:w.ownsRow a e 1 (.slice (some ⟨g,0,none⟩) n c) n b):
  (∀k u,b[k]? =some u->w.cell? ⟨g,k,none⟩=some u)/\(∀k,w.frozen? ⟨g,k,none⟩=false)/\a<=g/\g<w.heap.size:=by
 have d:=World.ownsRow.lt h g rfl
 have j:=h.cells (g:=g) rfl
 refine⟨fun k u i=>?_,fun k=>?_,d.1,d.2⟩
 ·have:=j k u i
  have e:(⟨g,0,none⟩:Addr).add k=⟨g,k,none⟩:=by unfold Addr.add;split<;>simp_all
  rwa [e]at this
 ·rcases h.2 with⟨m,_⟩|⟨q,p,o,f,_,l,_⟩
  ·cases m
  ·injection f with ha _ _
   injection ha with ha
   injection ha with ha _ _
   subst ha
   exact frozen_of_row _ _ _ _ _ l
def BR (w:World)(a:Nat)(v:Value)(b:List Bool):Prop:=w.ownsRow a 4 1 v b.length (b.map Value.bool)
theorem Mx {w:World}{b a size n:Nat}{e:TypeId}{v:Value}{f:List Value}(h:w.ownsRow b e size v n f)(l:a<=b):w.ownsRow a e size v n f:=by
 refine⟨h.1,?_⟩
 rcases h.2 with i|⟨g,d,c,k,m,j⟩
 ·exact .inl i
 ·exact .inr ⟨g,d,c,k,by omega,j⟩
theorem Gd (W:World){i:Array Oper}{c:List Oper}{o:Oper}{a:Act}{Q:Exit->Act->World->Prop}(q:o.guard=none)(s x:Operand)
  (y:o.op=.call {callee:=.builtin .append,args:=#[s,x],argTypes:=#[221,221]}) (b:Nat) (v:Value) (j:List Bool) (n:Bool) (w:a.eval s=v)
  (u:a.eval x=.slice (some ⟨W.heap.size,0,none⟩) 1 1) (d:BR W b v j) (A:j.length<=1000000) (g:b<=W.heap.size)
  (h:∀k w',BR w' b k (j++[n])->Below b W w'->wpList Tryz.prog i Q c (a.put o.dst k) w'):wpList Tryz.prog i Q (o::c) a (W.alloc (.cells #[.bool n] 4)):=by
 obtain⟨t,z,p,m,l⟩:=info_parts Tryz.Nf
 refine wpList_append_own_at (W.alloc (.cells #[.bool n] 4)) q s x 221 y b 4 t (.bool false) 1 1 Tryz.underlying221 z p m l rfl (by decide) v j.length (j.map Value.bool) w (d.alloc _) ⟨W.heap.size,0,none⟩ 1 1 [.bool n] u rfl
  (cell_one_new _ _ _) (by simp[Value.oneCell']) (by simp only[maxLen];omega) (by omega) (by simp;omega) ?_
 intro k r e f _ _
 refine h k r ?_ (((GZ4 b W).alloc g _).grown f (by simp;omega) (iW d))
 unfold BR
 simpa using e
def heads (n:Nat)(R C:Nat->Nat)(i:Nat):List Value:=(List.range i).map (fun a=>.slice (some ⟨R a,0,none⟩) n (C a))
theorem Gf (W:World){k:Array Oper}{c:List Oper}{o:Oper}{a:Act}{Q:Exit->Act->World->Prop}(t:o.guard=none)(s x:Operand)
  (E:o.op=.call {callee:=.builtin .append,args:=#[s,x],argTypes:=#[219,219]}) (b:Nat) (v:Value) (n i:Nat) (R C:Nat->Nat) (u:Value) (B:u.oneCell'=true) (D:a.eval s=v)
  (A:a.eval x=.slice (some ⟨W.heap.size,0,none⟩) 1 1) (l:W.ownsRow b 221 1 v i (heads n R C i)) (G:i<=1000000) (w:b<=W.heap.size)
  (h:∀j w',w'.ownsRow b 221 1 j (i+1) (heads n R C i++[u])->W.grownBy w' v.ownBlock->(j.ownBlock=v.ownBlock\/∃g,j.ownBlock=some g/\W.heap.size<=g)->wpList Tryz.prog k Q c (a.put o.dst j) w'):wpList Tryz.prog k Q (o::c) a (W.alloc (.cells #[u] 221)):=by
 obtain⟨z,F,r,q,p⟩:=info_parts Tryz.Kl
 refine wpList_append_own_at (W.alloc (.cells #[u] 221)) t s x 219 E b 221 z (.slice none 0 0) 1 24 Tryz.underlying219 F r q p rfl (by decide) v i (heads n R C i) D (l.alloc _) ⟨W.heap.size,0,none⟩ 1 1 [u] A rfl
  (cell_one_new _ _ _) (by simp[B]) (by simp only[maxLen];omega) (by omega) (by simp;omega) ?_
 intro j y d f _ m
 refine h j y d ((World.grownBy_alloc W _ _).trans f) ?_
 rcases m with e|e
 ·exact .inl e
 ·exact .inr ⟨_,e,by simp⟩
theorem Oc {l:List Plc}{i k:Nat}(b:i<l.length)(a:k<l.length):kV l i k=asks l[i].m (tx l[k].m.name):=by
 unfold kV
 rw[GY5 b]
 show asks l[i].m (nmN l k)=_
 rw[Sq a]
def vU (l:List Plc)(i k:Nat):List Bool:=(List.range k).map (kV l i)
theorem Tv (l:List Plc)(i k:Nat):(vU l i k).length=k:=by simp[vU]
theorem L8 (l:List Plc)(i k:Nat):vU l i (k+1)=vU l i k++[kV l i k]:=by unfold vU;rw[List.range_succ,List.map_append];rfl
structure vF (l:List Plc)(w:World)(v:Value)(i:Nat)(wr:World):Prop where
 rows:∃R C:Nat->Nat,wr.ownsRow w.heap.size 221 1 v i (heads l.length R C i)/\(∀a,a<i->BR wr w.heap.size (.slice (some ⟨R a,0,none⟩) l.length (C a)) (vU l a l.length))/\
  (∀a b,a<i->b<i->R a=R b->a=b)/\(∀a,a<i->v.ownBlock≠some (R a))
 bel:Below w.heap.size w wr
theorem vF.start (l:List Plc)(w:World):vF l w (.slice none 0 0) 0 w:=⟨⟨fun _=>0,fun _=>0,World.ownsRow_nil _ _ _ _,fun _ h=>by omega,fun _ _ h=>by omega,fun _ h=>by omega⟩,GZ4 _ _⟩
theorem vF.mat {l:List Plc}{w wr:World}{v:Value}(h:vF l w v l.length wr):Qu wr w.heap.size v l.length (Tab.mk (kV l) l.length):=by
 obtain⟨R,C,d,p,t,s⟩:=h.rows
 obtain⟨A,c,rfl⟩:=bG d
 refine⟨A,c,rfl,fun q=>?_⟩
 obtain⟨g,u,o,_⟩:=d.form q
 injection o with hA _ hc
 subst hA hc
 obtain⟨n,y,m,x⟩:=GM d
 have j:∀a,a<l.length->_:=fun a r=>GM (show wr.ownsRow w.heap.size 4 1 (.slice (some ⟨R a,0,none⟩) l.length (C a)) l.length ((vU l a l.length).map Value.bool) from by
  have:=p a r;unfold BR at this;rwa [Tv]at this)
 refine⟨g,R,C,rfl,fun i b=>n i _ (by simp[heads,b]),fun i k b f=>(j i b).1 k _ (by simp[vU,Tab.O8 _ b f,f]),fun i k b f=>(j i b).2.1 k,t,
  fun i b=>⟨fun e=>s i b (by simp[Value.ownBlock,e]),(j i b).2.2.1⟩,m,Tab.QD _ _⟩
theorem vF.step {l:List Plc}{w wr r x:World}{v s:Value}{i g c:Nat}{R C:Nat->Nat}(j:Below w.heap.size w wr)(F:wr.ownsRow w.heap.size 221 1 v i (heads l.length R C i))(y:∀a,a<i->BR wr w.heap.size (.slice (some ⟨R a,0,none⟩) l.length (C a)) (vU l a l.length))
  (J:∀a b,a<i->b<i->R a=R b->a=b) (E:∀a,a<i->v.ownBlock≠some (R a)) (u:Below wr.heap.size wr r) (D:BR r wr.heap.size (.slice (some ⟨g,0,none⟩) l.length c) (vU l i l.length))
  (o:x.ownsRow w.heap.size 221 1 s (i+1) (heads l.length R C i++[.slice (some ⟨g,0,none⟩) l.length c])) (m:r.grownBy x v.ownBlock) (p:s.ownBlock=v.ownBlock\/∃q,s.ownBlock=some q/\r.heap.size<=q):vF l w s (i+1) x:=by
 have B:=j.size
 have G:=World.ownsRow.lt D g rfl
 have h:∀q,v.ownBlock=some q->w.heap.size<=q/\q<wr.heap.size:=fun q t=>World.ownsRow.lt F q t
 have n:v.ownBlock≠some g:=fun e=>by have:=(h g e).2;omega
 refine⟨⟨fun a=>if a=i then g else R a,fun a=>if a=i then c else C a,?_,fun a k=>?_,fun a b k H e=>?_,fun a k=>?_⟩,?_⟩
 ·have e:heads l.length (fun a=>if a=i then g else R a) (fun a=>if a=i then c else C a) (i+1)=heads l.length R C i++[.slice (some ⟨g,0,none⟩) l.length c]:=by
   unfold heads
   rw[List.range_succ,List.map_append]
   congr 1
   ·refine List.map_congr_left (fun a k=>?_)
    have:=List.mem_range.1 k
    simp[show a≠i by omega]
   ·simp
  rw[e];exact o
 ·by_cases e:a=i
  ·subst e
   simp only[if_true]
   exact(Mx D B).kept m (.inr (fun q=>n q.symm))
  ·simp only[if_neg e]
   have I:=own_below (y a (by omega)) u (GZ3 _)
   exact I.kept m (.inr (fun q=>E a (by omega) q.symm))
 ·have d:∀a,a<i->R a<wr.heap.size:=fun a k=>(World.ownsRow.lt (y a k) (R a) rfl).2
  dsimp only at e
  by_cases f:a=i<;>by_cases A:b=i
  ·omega
  ·rw[if_pos f,if_neg A]at e;have:=d b (by omega);omega
  ·rw[if_neg f,if_pos A]at e;have:=d a (by omega);omega
  ·rw[if_neg f,if_neg A]at e;exact J a b (by omega) (by omega) e
 ·have d:∀a,a<i->R a<wr.heap.size:=fun a k=>(World.ownsRow.lt (y a k) (R a) rfl).2
  have K:=u.size
  rcases p with z|⟨q,z,t⟩
  ·rw[z]
   by_cases f:a=i
   ·simp only[if_pos f];exact n
   ·simp only[if_neg f];exact E a (by omega)
  ·rw[z]
   by_cases f:a=i
   ·simp only[if_pos f];intro e;injection e with e;omega
   ·simp only[if_neg f];intro e;injection e with e;have:=d a (by omega);omega
 ·exact(j.trans (u.mono B)).grown m (by have:=u.size;omega) (fun q t=>(h q t).1)
end
end Go.Proofs.YtjiedaialianmaaGreat
