import Derived.Test.YtjiedaialianmaaGreatA07
import Derived.Test.YtjiedaialianmaaGreatA09
set_option maxRecDepth 100000
set_option maxHeartbeats 4000000
namespace Go.Proofs.YtjiedaialianmaaGreat
section
open Go.RowKit
theorem Lm {w2 W w3:World}{p:Addr}{v:Value}(hp:p.block<w2.heap.size)(h:Below w2.heap.size w2 W/\W.cell? p=some v)(k:Below W.heap.size W w3):Below w2.heap.size w2 w3/\w3.cell? p=some v:=
 ⟨kS h.1 k,(k.cell (p:=p) (GY0 hp h.1.size)).trans h.2⟩
theorem Cz {w2 W:World}{p:Addr}{v:Value}(h:Below w2.heap.size w2 W/\W.cell? p=some v):Below w2.heap.size w2 W.drew/\W.drew.cell? p=some v:=
 ⟨h.1.drew,h.2⟩
theorem Ec {P:Program}(s t:ByteArray)(a k:Nat)(hs:s.size<=140737488351232)(ht:t.size<=140737488351232)(h4:a+k<=s.size):
  IntKind.i64.wrap ((a:Int)+k)=(a:Int)+k/\(0:Int)<=(a:Int)+k/\((a:Int)+k).toNat=a+k/\(a:Int)+k<=s.size/\
   (∀W,(Op.stringOp .add (s.extract 0 a) t).run P W=.ok (.string (s.extract 0 a++t)) W)/\
   (∀W,(Op.stringOp .add (s.extract 0 a++t) (s.extract (a+k) s.size)).run P W=.ok (.string (s.extract 0 a++t++s.extract (a+k) s.size)) W):=by
 have hz1:(s.extract 0 a).size<=s.size:=by rw[ByteArray.size_extract];omega
 have hz2:(s.extract (a+k) s.size).size<=s.size:=by rw[ByteArray.size_extract];omega
 exact⟨IntWalk.i64_in _ (by omega),by omega,by omega,by omega,fun W=>run_string_add_sum _ _ _ (by omega),fun W=>run_string_add_sum _ _ _ (by rw[ByteArray.size_append];omega)⟩
theorem Ls (s:ByteArray)(a k:Nat)(l:List UInt8):s.extract 0 a++⟨l.toArray⟩++s.extract (a+k) s.size=⟨(s.data.toList.take a++l++s.data.toList.drop (a+k)).toArray⟩:=by
 refine ba_eq ?_
 rw[dY,dY,Lib.extract_to_end,Lib.extract_data]
 simp
end
section
open Go
def Po (first whole:Bool)(x:Plc):Bool:=!first || (decide (0<=x.first)&&decide (x.first<=16 -(if whole then aH x.m else 1)))
theorem Nc :Po true true=kE:=by funext x;simp[Po,kE]
end
section
open Go
def jA (l:List Plc)(i:Nat):Bool:=l.any fun x=>decide (x.first<=i)&&decide ((i:Int)<aR x)
theorem wQ :∀{l:List Plc}{a:Int}{i:Nat},bW a l->(i:Int)<a->jA l i=false
 | [],_,_,_,_=>rfl
 |x::l,a,i,⟨h1,h2,h3,h4⟩,hi=>by
  have:=wQ (i:=i) h4 (by unfold aR;omega)
  unfold jA at this ⊢
  rw[List.any_cons,this]
  simp;omega
def bump (out:List Run):List Run:=match out.getLast? with
 |none=>out
 |some r=>out.dropLast++[⟨r.first,r.many+1⟩]
theorem yC (pre:List Run)(r:Run):bump (pre++[r])=pre++[⟨r.first,r.many+1⟩]:=by
 unfold bump
 simp
def bF (u:Nat->Bool):Nat->List Run
 |0=>[]
 |i+1=>if u i=true then bF u i else if 0<i/\u (i -1)=false then bump (bF u i)else bF u i++[⟨i,1⟩]
theorem UM {u:Nat->Bool}:∀{i:Nat},0<i->u (i -1)=false->∃(pre:List Run)(r:Run),bF u i=pre++[r]/\0<=r.many/\r.many<=(i:Int)
 |i+1,_,h=>by
  simp only[Nat.add_sub_cancel]at h
  by_cases h1:0<i/\u (i -1)=false
  ·obtain⟨pre,r,e,hr⟩:=UM h1.1 h1.2
   refine⟨pre,⟨r.first,r.many+1⟩,?_,by simp;omega⟩
   rw[bF,if_neg (by simp[h]),if_pos h1,e,yC]
  ·exact⟨bF u i,⟨i,1⟩,by rw[bF,if_neg (by simp[h]),if_neg h1],by simp;omega⟩
theorem sK {u:Nat->Bool}{i:Nat}(h:u i=true):bF u (i+1)=bF u i:=by rw[bF,if_pos h]
theorem TZ {u:Nat->Bool}{i:Nat}(h:u i=false)(h1:¬(0<i/\u (i -1)=false)):bF u (i+1)=bF u i++[⟨i,1⟩]:=by rw[bF,if_neg (by simp[h]),if_neg h1]
theorem tT {u:Nat->Bool}{i:Nat}(h:u i=false)(h1:0<i/\u (i -1)=false):bF u (i+1)=bump (bF u i):=by rw[bF,if_neg (by simp[h]),if_pos h1]
theorem pO {u:Nat->Bool}{a:Nat}(h0:a=0\/u (a -1)=true):∀(n:Nat),(∀i,a<=i->i<a+n->u i=false)->bF u (a+n)=bF u a++Rb a ((a:Int)+n)
 |0,_=>by simp[Rb]
 |n+1,h=>by
  have ih:=pO h0 n (fun i h1 h2=>h i h1 (by omega))
  have hu:u (a+n)=false:=h _ (by omega) (by omega)
  rw[show a+(n+1)=a+n+1 by omega]
  by_cases hn:n=0
  ·subst hn
   have h1:¬(0<a+0/\u (a+0 -1)=false):=by
    rintro⟨h1,h2⟩
    rcases h0 with h0|h0
    ·omega
    ·simp only[Nat.add_zero]at h2;rw[h0]at h2;cases h2
   rw[TZ hu h1]
   simp[Rb]
   rw[if_pos (by omega),show(a:Int)+1 -a=1 by omega]
  ·have h1:0<a+n/\u (a+n -1)=false:=⟨by omega,h _ (by omega) (by omega)⟩
   rw[tT hu h1,ih]
   unfold Rb
   rw[if_pos (by omega),if_pos (by omega),yC]
   simp;omega
theorem sN {u:Nat->Bool}{a:Nat}:∀(n:Nat),(∀i,a<=i->i<a+n->u i=true)->bF u (a+n)=bF u a
 |0,_=>rfl
 |n+1,h=>by
  rw[show a+(n+1)=a+n+1 by omega,sK (h _ (by omega) (by omega))]
  exact sN n fun i h1 h2=>h i h1 (by omega)
theorem tX (u:Nat->Bool):∀(l:List Plc)(a:Nat),(∀i,a<=i->u i=jA l i)->(a=0\/u (a -1)=true)->bW a l->bF u 16=bF u a++dC a l
 | [],a,h,h0,hr=>by
  have ha:(a:Int)<=16:=hr
  have:=pO h0 (16 -a) (fun i h1 h2=>(h i h1).trans rfl)
  rw[show a+(16 -a)=16 by omega]at this
  rw[this,dC]
  congr 2
  omega
 |x::l,a,h,h0,hr=>by
  have hle:=hr.2.2.2.le
  obtain⟨h1,h2,h3,h4⟩:=hr
  obtain⟨b,hb⟩:∃b:Nat,x.first=b:=⟨x.first.toNat,by omega⟩
  obtain⟨c,hc⟩:∃c:Nat,aR x=c:=⟨(aR x).toNat,by unfold aR;omega⟩
  have hbc:b+aH x.m=c:=by rw[<-hc,<-hb];rfl
  have hx:∀i:Nat,a<=i->u i=(decide (b<=i)&&decide (i<c) || jA l i):=fun i hi=>by
   rw[h i hi];unfold jA;rw[List.any_cons,hb,hc];simp
  have hbelow:∀i:Nat,i<c->jA l i=false:=fun i hi=>wQ h4 (by omega)
  have g1:=pO h0 (b -a) (fun i hi1 hi2=>by rw[hx i hi1,hbelow i (by omega)];simp;omega)
  rw[show a+(b -a)=b by omega]at g1
  have g2:=sN (u:=u) (a:=b) (c -b) (fun i hi1 hi2=>by rw[hx i (by omega)];simp;omega)
  rw[show b+(c -b)=c by omega]at g2
  have ih:=tX u l c (fun i hi=>by rw[hx i (by omega)];simp;omega) (.inr (by rw[hx (c -1) (by omega)];simp;omega)) (by rw[<-hc];exact h4)
  rw[ih,g2,g1,dC,hc,hb,List.append_assoc]
  congr 3
  omega
theorem zF {l:List Plc}(h:bW 0 l):bF (jA l) 16=RI l:=by
 have:=tX (jA l) l 0 (fun _ _=>rfl) (.inl rfl) h
 simpa[bF,RI]using this
end
section
open Go.RowKit
def Tn (l:List Exp)(nm:ByteArray):Int:=if(iR l nm).2=0 then(iR l nm).1 else-1
theorem Io {l:List Exp}{nm:ByteArray}{j:Nat}(h:j<l.length)(e:idxOf (called nm) l=j):Tn l nm=l[j].at_:=by
 rcases gW (called nm) l with⟨e1,_⟩|⟨n,hn,e1,e2⟩
 ·omega
 ·obtain rfl:n=j:=by omega
  unfold Tn;rw[tZ hn e2];rfl
theorem IM {l:List Exp}{nm:ByteArray}(e:idxOf (called nm) l= -1):Tn l nm= -1:=by
 rcases gW (called nm) l with⟨_,e2⟩|⟨n,hn,e1,_⟩
 ·unfold Tn;rw[uV e2];rfl
 ·omega
theorem lX (A:Option Addr)(c:Nat)(l:List Plc)(nm:ByteArray)(w:World)(h:Row Plc.cells 8 w A l)(hl:l.length<=big):
  Calls Tryz.prog 105 #[.slice A l.length c,.string nm] w fun e w'=>e=.returned (.int .i64 (idxOf (named nm) l))/\Below w.heap.size w w':=by
 unfold big at hl
 have HP:=Hp h
 clear h
 obtain⟨R,hR⟩:=Nm (idxOf (named nm) l)
 rw[<-hR]
 have HR:=Hp hR
 clear hR
 go_enter Tryz.func105,Tryz.ntmps105
 go_wp2_with fail
 go_loopw [5] (fun i wr=>∃j:Nat,j<=l.length/\i=.int .i64 j/\(∀k(hk:k<l.length),k<j->named nm l[k]=false)/\Below w.heap.size w wr) (fun i _=>l.length -(intOf i).toNat)
 case atStart=>exact⟨0,by omega,rfl,by omega,GZ4 _ _⟩
 case round=>
  obtain⟨j,hj,rfl,hN,hb⟩:=hrel
  have HN:=Hp hN
  have HB:=Hp hb
  clear hN
  by_cases hlt:j<l.length
  ·have hlt':(j:Int)<l.length:=by omega
   obtain⟨ad,rfl,hab,h0,h1,h2,h3,h4,h5,h6,h7⟩:=RS HP.out hb j hlt
   clear hb
   by_cases he:l[j].m.name=nm
   ·have e1:=Hp (fJ hlt HN.out (show named nm l[j]=true by simp[named,he]))
    have he':=str_eq he
    have HEE:=Hp he
    clear he
    have hrr:=Hp (HR.trans e1.out)
    go_wp2_with fail
    go_ret
    exact⟨aC hrr.symm,HB.out⟩
   ·have he':=mY he
    have HEE:=Hp (show named nm l[j]=false by simp[named,he])
    clear he
    go_wp2_with fail
    go_roundw
    case rel=>exact⟨j+1,by omega,by go_num,fun k hk hkj=>by rcases Nat.lt_succ_iff_lt_or_eq.1 hkj with h|rfl;exact HN.out k hk h;exact HEE.out,HB.out⟩
    case measure=>(simp[intOf];try omega)
  ·have e1:=Hp (gT (q:=named nm) (l:=l) (fun k hk=>HN.out k hk (by omega)))
   have hrr:=Hp (HR.trans e1.out)
   go_wp2_with fail
   go_ret
   exact⟨aC hrr.symm,HB.out⟩
theorem vM (A:Option Addr)(c:Nat)(l:List Exp)(nm:ByteArray)(w:World)(h:Row Exp.cells 2 w A l)(hl:l.length<=big):
  Calls Tryz.prog 286 #[.slice A l.length c,.string nm] w fun e w'=>e=.returned (.int .i64 (Tn l nm))/\Below w.heap.size w w':=by
 unfold big at hl
 have HP:=Hp h
 clear h
 obtain⟨R,hR⟩:=Nm (Tn l nm)
 rw[<-hR]
 have HR:=Hp hR
 clear hR
 go_enter Tryz.func286,Tryz.ntmps286
 go_wp2_with fail
 go_loopw [5] (fun i wr=>∃j:Nat,j<=l.length/\i=.int .i64 j/\(∀k(hk:k<l.length),k<j->called nm l[k]=false)/\Below w.heap.size w wr) (fun i _=>l.length -(intOf i).toNat)
 case atStart=>exact⟨0,by omega,rfl,by omega,GZ4 _ _⟩
 case round=>
  obtain⟨j,hj,rfl,hN,hb⟩:=hrel
  have HN:=Hp hN
  have HB:=Hp hb
  clear hN
  by_cases hlt:j<l.length
  ·have hlt':(j:Int)<l.length:=by omega
   obtain⟨ad,rfl,hab,h0,h1⟩:=mF HP.out hb j hlt
   clear hb
   by_cases he:l[j].name=nm
   ·have e1:=Hp (fJ hlt HN.out (show called nm l[j]=true by simp[called,he]))
    have he':=str_eq he
    have HEE:=Hp he
    clear he
    have hrr:=Hp (HR.trans (Io hlt e1.out))
    go_wp2_with fail
    go_ret
    exact⟨aC hrr.symm,HB.out⟩
   ·have he':=mY he
    have HEE:=Hp (show called nm l[j]=false by simp[called,he])
    clear he
    go_wp2_with fail
    go_roundw
    case rel=>exact⟨j+1,by omega,by go_num,fun k hk hkj=>by rcases Nat.lt_succ_iff_lt_or_eq.1 hkj with h|rfl;exact HN.out k hk h;exact HEE.out,HB.out⟩
    case measure=>(simp[intOf];try omega)
  ·have e1:=Hp (gT (q:=called nm) (l:=l) (fun k hk=>HN.out k hk (by omega)))
   have hrr:=Hp (HR.trans (IM e1.out))
   go_wp2_with fail
   go_ret
   exact⟨aC hrr.symm,HB.out⟩
theorem Cg (k:Krn)(A:Option Addr)(c:Nat)(l:List Plc)(i:Imp)(w:World)(hk:k.ok w)(h:aU w A l)(hp:iB k l=0):
  Calls Tryz.prog 258 #[k.v,.slice A l.length c,i.v] w fun e w'=>e=.returned (.tuple #[.int .i64 (addrOf k l i).1,.int .i64 (addrOf k l i).2])/\Below w.heap.size w w':=by
 obtain⟨wk,hwk⟩:=Nm (w.alloc (.cells #[.int .i64 k.major,.int .i64 k.minor,.slice k.eA k.ex.length k.eC] 24))
 obtain⟨g0,g1,g2,hzk,hbk⟩:=uE hwk
 obtain⟨w0,hw0⟩:=Nm (wk.alloc (.cells #[.string i.mod,.string i.name,.int .i64 i.major,.int .i64 i.minor] 173))
 obtain⟨f0,f1,f2,f3,hz0,hb0⟩:=oJ hw0
 rw[hzk]at f0 f1 f2 f3 hz0 hb0
 have k0:=(hb0.cell (p:=⟨w.heap.size,0,none⟩) (by simp)).trans g0
 have k1:=(hb0.cell (p:=⟨w.heap.size,1,none⟩) (by simp)).trans g1
 have k2:=(hb0.cell (p:=⟨w.heap.size,2,none⟩) (by simp)).trans g2
 have H0:=Hp (show Below w.heap.size w w0 from hbk.trans (hb0.mono (by omega)))
 have HZ:=Hp hz0
 have hwk':=hwk.symm
 have hw0':=hw0.symm
 have kq:=rX i.mod
 obtain⟨R,hR⟩:=Nm (addrOf k l i)
 rw[<-hR]
 have HL:=h.len
 unfold big at HL
 have HP:=Hp h
 have HPE:=Hp hp
 have cK:=Hp (fun W(hb:Below w.heap.size w W)=>vM k.eA k.eC k.ex i.name W (hk.below hb).ex.1 (hk.below hb).ex.2.1)
 clear hwk hw0 hbk hb0 hk h hp g0 g1 g2 hz0
 by_cases t0:i.mod=RG
 ·rw[yV t0]at hR
  rw[show decide (i.mod=RG)=true by simp[t0]]at kq
  clear t0
  by_cases t1:k.major≠i.major
  ·rw[if_pos (.inl t1)]at hR
   have t1':(k.major != i.major)=true:=by simp[t1]
   clear t1
   go_enter Tryz.func258,Tryz.ntmps258
   go_wp2_with fail
   go_ret2
   exact⟨by rw[hR];rfl,H0.out⟩
  have t1':(k.major != i.major)=false:=by simpa using t1
  by_cases t2:k.minor<i.minor
  ·rw[if_pos (.inr t2)]at hR
   clear t1
   go_enter Tryz.func258,Tryz.ntmps258
   go_wp2_with fail
   go_ret2
   exact⟨by rw[hR];rfl,H0.out⟩
  have t2':decide (k.minor<i.minor)=false:=by simpa using t2
  rw[if_neg (by simp only[not_or];exact⟨t1,t2⟩)]at hR
  clear t1 t2
  have hec:=nJ k.ex i.name
  have hr:=UE (nm:=i.name) (fun x hx=>((Ee (Uo HPE.out).1) x hx).2) (by omega:(0:Int)<4096)
  unfold Tn at cK
  rw[<-hR]at cK hec hr
  clear hR
  obtain⟨r1,r2⟩:=R
  simp only at hec hr cK ⊢
  by_cases u:r2=0
  ·obtain rfl:=u
   rw[if_pos rfl]at cK
   have q1:decide (r1<0)=false:=by simp;omega
   go_enter Tryz.func258,Tryz.ntmps258
   go_wp2_with (first|(go_at_call 286;(with_reducible refine(cK.out _ H0.out).mono ?_);rintro e w1 ⟨rfl,hb1⟩))
   go_ret2
   exact⟨rfl,H0.trans (hb1.mono H0.size)⟩
  ·obtain⟨rfl,rfl⟩:r1=0/\r2=5:=by omega
   rw[if_neg u]at cK
   go_enter Tryz.func258,Tryz.ntmps258
   go_wp2_with (first|(go_at_call 286;(with_reducible refine(cK.out _ H0.out).mono ?_);rintro e w1 ⟨rfl,hb1⟩))
   go_ret2
   exact⟨rfl,H0.trans (hb1.mono H0.size)⟩
 ·rw[show decide (i.mod=RG)=false by simp[t0]]at kq
  have hz0:=HZ.out
  have hz1:w.heap.size+1<w0.heap.size:=by omega
  have hz2:w.heap.size<w0.heap.size:=by omega
  have cP:=Hp (lX A c l i.mod w0 (HP.row.below H0.out) (by unfold big;omega))
  clear hz0
  rcases gW (named i.mod) l with⟨e1,e2⟩|⟨n,hn,e1,e2⟩
  ·rw[DV t0 e2]at hR
   rw[e1]at cP
   clear e1 e2 t0
   go_enter Tryz.func258,Tryz.ntmps258
   go_wp2_with (first|(go_at_call 105;(with_reducible refine(cP.out).mono ?_);rintro e w1 ⟨rfl,hb1⟩;obtain⟨hc1,hf1⟩:=aJ hb1;have hz1:w.heap.size<w1.heap.size:=by have:=hb1.size;(try simp at this);omega))
   go_ret2
   exact⟨by rw[hR];rfl,H0.trans (hb1.mono (by omega))⟩
  ·rw[Dv t0 e2]at hR
   rw[e1]at cP
   clear e1 e2 t0
   have hn':(n:Int)<l.length:=by omega
   have HK:=Hp (fun W(hbW:Below w.heap.size w W)=>RS HP.row hbW n hn)
   obtain⟨ad,rfl,hab,_⟩:=RS HP.row (GZ4 _ _) n hn
   have hmo:=HP.each l[n] (GZ9 _)
   obtain⟨p1,p2,p3⟩:=D5 HPE.out (x:=l[n]) (GZ9 _)
   have cE:=Hp (fun W(hb:Below w.heap.size w W)=>vM (l[n]'hn).m.eA (l[n]'hn).m.eC (l[n]'hn).m.ex i.name W (hmo.below hb).ex.1 (hmo.below hb).ex.2.1)
   have hr:=UE (nm:=i.name) (Nj p3) (by omega:(0:Int)<256)
   have hec:=nJ (l[n]'hn).m.ex i.name
   obtain⟨V,hV⟩:=Nm (iR (l[n]'hn).m.ex i.name)
   unfold Tn at cE
   rw[<-hV]at cE hec hr hR
   have q1:wrap64 (64*(l[n]'hn).first)=64*(l[n]'hn).first:=IntWalk.wrap64_in _ (by omega)
   have q2:wrap64 (4096+64*(l[n]'hn).first)=4096+64*(l[n]'hn).first:=IntWalk.wrap64_in _ (by omega)
   have q3:=Hp (show wrap64 (4096+64*(l[n]'hn).first+V.1)=4096+64*(l[n]'hn).first+V.1 by rw[IntWalk.wrap64_in _ (by omega)])
   have HBM:=Hp (show(ad.add (n*8)).block<w.heap.size by rw[aA];exact hab)
   clear hV hmo p3
   by_cases t1:l[n].m.major≠i.major\/l[n].m.minor<i.minor
   ·rw[if_pos t1]at hR
    by_cases t2:l[n].m.major=i.major
    ·have t3:l[n].m.minor<i.minor:=by rcases t1 with h|h;exact absurd t2 h;exact h
     have t2':(l[n].m.major != i.major)=false:=by simp[t2]
     clear t1 t2
     go_enter Tryz.func258,Tryz.ntmps258
     go_wp2_with (go_at_call 105;refine(cP.out).mono ?_;rintro e w1 ⟨rfl,hb1⟩;obtain⟨hc1,hf1⟩:=aJ hb1;obtain⟨_,ead,_,m0,m1,m2,m3,m4,m5,m6,m7⟩:=HK.out _ (H0.trans (hb1.mono (by omega)));obtain rfl:=GY3 ead;have hwz:=hb1.size;have hz3:w.heap.size+1<w1.heap.size:=(by omega);have hz4:w.heap.size<w1.heap.size:=(by omega);have hbm:(ad.add (n*8)).block<w1.heap.size:=GY0 HBM.out (by omega))
     go_ret2
     exact⟨by rw[hR];rfl,(H0.trans (hb1.mono (by omega))).alloc (by omega) _⟩
    ·have t2':(l[n].m.major != i.major)=true:=by simp[t2]
     clear t1 t2
     go_enter Tryz.func258,Tryz.ntmps258
     go_wp2_with (go_at_call 105;refine(cP.out).mono ?_;rintro e w1 ⟨rfl,hb1⟩;obtain⟨hc1,hf1⟩:=aJ hb1;obtain⟨_,ead,_,m0,m1,m2,m3,m4,m5,m6,m7⟩:=HK.out _ (H0.trans (hb1.mono (by omega)));obtain rfl:=GY3 ead;have hwz:=hb1.size;have hz3:w.heap.size+1<w1.heap.size:=(by omega);have hz4:w.heap.size<w1.heap.size:=(by omega);have hbm:(ad.add (n*8)).block<w1.heap.size:=GY0 HBM.out (by omega))
     go_ret2
     exact⟨by rw[hR];rfl,(H0.trans (hb1.mono (by omega))).alloc (by omega) _⟩
   ·rw[if_neg t1]at hR
    have t2':(l[n].m.major != i.major)=false:=by simp;omega
    have t3':decide (l[n].m.minor<i.minor)=false:=by simp;omega
    clear t1
    obtain⟨v1,v2⟩:=V
    simp only at hec hr cE hR q3
    by_cases u:v2=0
    ·obtain rfl:=u
     rw[if_neg (by simp)]at hR
     rw[if_pos rfl]at cE
     have q4:decide (v1<0)=false:=by simp;omega
     go_enter Tryz.func258,Tryz.ntmps258
     go_wp2_with (first|(go_at_call 105;refine(cP.out).mono ?_;rintro e w1 ⟨rfl,hb1⟩;obtain⟨hc1,hf1⟩:=aJ hb1;obtain⟨_,ead,_,m0,m1,m2,m3,m4,m5,m6,m7⟩:=HK.out _ (H0.trans (hb1.mono (by omega)));obtain rfl:=GY3 ead;have hwz:=hb1.size;have hz3:w.heap.size+1<w1.heap.size:=(by omega);have hz4:w.heap.size<w1.heap.size:=(by omega);have hbm:(ad.add (n*8)).block<w1.heap.size:=GY0 HBM.out (by omega))|(go_at_call 286;refine(cE.out _ ((H0.trans (hb1.mono (by omega))).alloc (by omega) _)).mono ?_;rintro e w2 ⟨rfl,hb2⟩;obtain⟨_,ead,_,m0,m1,m2,m3,m4,m5,m6,m7⟩:=HK.out _ (((H0.trans (hb1.mono (by omega))).alloc (by omega) _).trans (hb2.mono (by simp;omega)));obtain rfl:=GY3 ead))
     go_ret2
     exact⟨(Tu (b:=4096+64*(l[n]'hn).first+v1) (d:=0) (by first|exact q3.out|omega) rfl).trans (by rw[hR]),((H0.trans (hb1.mono (by omega))).alloc (by omega) _).trans (hb2.mono (by simp;omega))⟩
    ·obtain⟨rfl,rfl⟩:v1=0/\v2=5:=by omega
     rw[if_pos (by simp)]at hR
     rw[if_neg u]at cE
     go_enter Tryz.func258,Tryz.ntmps258
     go_wp2_with (first|(go_at_call 105;refine(cP.out).mono ?_;rintro e w1 ⟨rfl,hb1⟩;obtain⟨hc1,hf1⟩:=aJ hb1;obtain⟨_,ead,_,m0,m1,m2,m3,m4,m5,m6,m7⟩:=HK.out _ (H0.trans (hb1.mono (by omega)));obtain rfl:=GY3 ead;have hwz:=hb1.size;have hz3:w.heap.size+1<w1.heap.size:=(by omega);have hz4:w.heap.size<w1.heap.size:=(by omega);have hbm:(ad.add (n*8)).block<w1.heap.size:=GY0 HBM.out (by omega))|(go_at_call 286;refine(cE.out _ ((H0.trans (hb1.mono (by omega))).alloc (by omega) _)).mono ?_;rintro e w2 ⟨rfl,hb2⟩))
     go_ret2
     exact⟨by rw[hR];rfl,((H0.trans (hb1.mono (by omega))).alloc (by omega) _).trans (hb2.mono (by simp;omega))⟩
end
section
open Go.RowKit
open Gs (Tx)
theorem Mr {l:List Plc}(hn:(txs l).Nodup){i:Nat}(hi:i<l.length):idxOf (named l[i].m.name) l=i:=by
 refine fJ hi (fun k hk hki=>?_) (by simp[named])
 unfold named
 refine GY7 (fun e=>?_)
 have:=yB hn k i hk hi (by rw[Sq hk,Sq hi,e])
 omega
theorem OP {l:List Plc}{i:Nat}(hi:i<l.length)(h:idxOf (named l[i].m.name) l<i):dD l=true:=by
 rw[SQ]
 intro hn
 rw[Mr hn hi]at h;omega
theorem Nz {l:List Plc}(h:∀i(hi:i<l.length),¬idxOf (named l[i].m.name) l<i):dD l=false:=by
 cases e:dD l
 ·rfl
 ·rw[SQ]at e
  refine absurd ?_ e
  refine List.pairwise_iff_getElem.2 (fun i j hi hj hij en=>?_)
  rw[eZ]at hi hj
  have e1:=xB hi
  have e2:=xB hj
  rw[e1,e2]at en
  have en:=FC en
  refine h j hj ?_
  rcases Sb (named l[j].m.name) l with⟨_,hno⟩|⟨q,hq,eq,_,hmin⟩
  ·have:=hno l[j] (GZ9 _);simp[named]at this
  ·rw[eq]
   have:¬i<q:=fun hlt=>by have:=hmin i hi hlt;simp[named,en]at this
   omega
theorem Fe (A:Option Addr)(c:Nat)(l:List Plc)(w:World)(h:Row Plc.cells 8 w A l)(hl:l.length<=big):
  Calls Tryz.prog 175 #[.slice A l.length c] w fun e w'=>e=.returned (.bool (dD l))/\Below w.heap.size w w':=by
 have HL:=Hp hl
 unfold big at hl
 have HP:=Hp h
 clear h
 obtain⟨R,hR⟩:=Nm (dD l)
 rw[<-hR]
 have HR:=Hp hR
 clear hR
 go_enter Tryz.func175,Tryz.ntmps175
 go_wp2_with fail
 go_loopw [3] (fun i wr=>∃j:Nat,j<=l.length/\i=.int .i64 j/\(∀k(hk:k<l.length),k<j->(k:Int)<=idxOf (named l[k].m.name) l)/\Below w.heap.size w wr) (fun i _=>l.length -(intOf i).toNat)
 case atStart=>exact⟨0,by omega,rfl,by omega,GZ4 _ _⟩
 case round=>
  obtain⟨j,hj,rfl,hN,hb⟩:=hrel
  have HN:=Hp hN
  have HB:=Hp hb
  clear hN
  by_cases hlt:j<l.length
  ·have hlt':(j:Int)<l.length:=by omega
   have hpl:=lX A c l l[j].m.name wr (HP.below hb) HL.out
   obtain⟨ad,rfl,hab,h0,h1,h2,h3,h4,h5,h6,h7⟩:=RS HP.out hb j hlt
   obtain⟨pi,hpi⟩:=Nm (idxOf (named l[j].m.name) l)
   rw[<-hpi]at hpl
   have c1:=Hp hpl
   clear hb hpl
   by_cases he:pi<j
   ·have hrr:=Hp (show R=true by rw[HR.out];exact OP hlt (by omega))
    clear hpi
    go_wp2_with (go_at_call 105;refine(c1.out).mono ?_;rintro e w3 ⟨rfl,hb3⟩)
    go_ret
    exact⟨aV hrr.symm,HB.trans (hb3.mono HB.size)⟩
   ·have HEE:=Hp (show(j:Int)<=idxOf (named l[j].m.name) l by omega)
    have he':decide (pi<j)=false:=by simp;omega
    clear hpi he
    go_wp2_with (go_at_call 105;refine(c1.out).mono ?_;rintro e w3 ⟨rfl,hb3⟩)
    go_roundw
    case rel=>exact⟨j+1,by omega,by go_num,fun k hk hkj=>by rcases Nat.lt_succ_iff_lt_or_eq.1 hkj with h|rfl;exact HN.out k hk h;exact HEE.out,HB.trans (hb3.mono HB.size)⟩
    case measure=>(simp[intOf];try omega)
  ·have hrr:=Hp (show R=false by rw[HR.out];exact Nz (fun i hi=>by have:=HN.out i hi (by omega);omega))
   clear hb
   go_wp2_with fail
   go_ret
   exact⟨aV hrr.symm,HB.out⟩
end
section
open Go
theorem Je (l:List Plc)(a:Int):((Rj a l).getD l).map (·.m)=l.map (·.m):=by
 cases h:Rj a l with
 |none=>rfl
 |some l'=>exact rM h
end
end Go.Proofs.YtjiedaialianmaaGreat
