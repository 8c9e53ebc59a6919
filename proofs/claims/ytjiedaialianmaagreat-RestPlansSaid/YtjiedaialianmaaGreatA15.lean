import Derived.Test.YtjiedaialianmaaGreatA10
import Derived.Test.YtjiedaialianmaaGreatA12
set_option maxRecDepth 100000
set_option maxHeartbeats 4000000
namespace Go.Proofs.YtjiedaialianmaaGreat
section
open Go.RowKit
theorem zR (x:Plc)(w:World)(h:x.m.text.size<=256)(E:0<=x.first)(C:x.first<=16):
  Calls Tryz.prog 91 #[x.v] w fun e s=>e=.returned (.int .i64 (aR x))/\Below w.heap.size w s:=by
 obtain⟨k,i⟩:=Nm (w.alloc (.cells #[.string x.m.name,.int .i64 x.m.major,.int .i64 x.m.minor,.string x.m.text,.slice x.m.eA x.m.ex.length x.m.eC,.slice x.m.iA x.m.im.length x.m.iC,.slice x.m.pA x.m.pa.length x.m.pC,.int .i64 x.first] 83))
 obtain⟨O,N,K,J,I,H,G,F,R,p⟩:=zH i
 have o:=i.symm
 have u:w.heap.size<k.heap.size:=by omega
 have P:=Hp p
 have y:0<=aH x.m/\aH x.m<=4:=by unfold aH;omega
 have q:=Hp (fun W=>qG x.m W (by unfold big;omega))
 obtain⟨M,l⟩:=Nm (aH x.m)
 have t:=Hp (show IntKind.i64.wrap (x.first+M)=x.first+M from IntWalk.i64_in _ (by omega))
 have r:=Hp (show x.first+M=aR x by unfold aR;rw[l])
 rw[<-l]at q
 clear i p l y h E C
 have g:=Hp (show fI k (fun b=>Below k.heap.size k b/\b.cell? ⟨w.heap.size,0,none⟩=some (.string x.m.name)/\b.cell? ⟨w.heap.size,1,none⟩=some (.int .i64 x.m.major)/\b.cell? ⟨w.heap.size,2,none⟩=some (.int .i64 x.m.minor)/\b.cell? ⟨w.heap.size,3,none⟩=some (.string x.m.text)/\b.cell? ⟨w.heap.size,4,none⟩=some (.slice x.m.eA x.m.ex.length x.m.eC)/\b.cell? ⟨w.heap.size,5,none⟩=some (.slice x.m.iA x.m.im.length x.m.iC)/\b.cell? ⟨w.heap.size,6,none⟩=some (.slice x.m.pA x.m.pa.length x.m.pC)/\b.cell? ⟨w.heap.size,7,none⟩=some (.int .i64 x.first)) from dE (by repeat' first|(with_reducible exact bC.cell (by first|omega|(simp;omega)|(simp only[aA];omega)))|refine bC.and ?_ ?_))
 have a:=Hp (g.now ⟨GZ4 _ _,by assumption,by assumption,by assumption,by assumption,by assumption,by assumption,by assumption,by assumption⟩)
 have d:=Hp g.D
 have c:=Hp g.S
 have f:=Hp g.A
 have j:=Hp g.X
 have n:=Hp g.L
 clear O N K J I H G F
 go_enter Tryz.func91,Tryz.ntmps91
 go_wp2_with fail
 go_region_held3 (fun b=>Below k.heap.size k b/\b.cell? ⟨w.heap.size,0,none⟩=some (.string x.m.name)/\b.cell? ⟨w.heap.size,1,none⟩=some (.int .i64 x.m.major)/\b.cell? ⟨w.heap.size,2,none⟩=some (.int .i64 x.m.minor)/\b.cell? ⟨w.heap.size,3,none⟩=some (.string x.m.text)/\b.cell? ⟨w.heap.size,4,none⟩=some (.slice x.m.eA x.m.ex.length x.m.eC)/\b.cell? ⟨w.heap.size,5,none⟩=some (.slice x.m.iA x.m.im.length x.m.iC)/\b.cell? ⟨w.heap.size,6,none⟩=some (.slice x.m.pA x.m.pa.length x.m.pC)/\b.cell? ⟨w.heap.size,7,none⟩=some (.int .i64 x.first)) (first|exact a.out|exact d.out _ a.out|exact c.out _ _ (by assumption) (by assumption)|exact c.out _ _ a.out (by assumption)|exact c.out _ _ (d.out _ a.out) (by assumption)|exact c.out _ _ (d.out _ (by assumption)) (by assumption)|exact d.out _ (by assumption)|exact f.out _ _ (by assumption)|exact f.out _ _ a.out|exact f.out _ _ (d.out _ a.out)|exact d.out _ (f.out _ _ (by assumption))|exact f.out _ _ (c.out _ _ a.out (by assumption))|exact f.out _ _ (c.out _ _ (d.out _ a.out) (by assumption))|exact j.out _ _ _ _ (GZ3 _) (by assumption)|exact j.out _ _ _ _ (GZ3 _) (c.out _ _ (f.out _ _ a.out) (by assumption))|exact j.out _ _ _ _ (GZ3 _) (c.out _ _ (d.out _ (f.out _ _ a.out)) (by assumption))|assumption) (first|(go_at_call 164;refine(q.out _).mono ?_;rintro e Q ⟨rfl,z⟩))
 have B:=n.out _ (by assumption)
 clear a d c f
 go_wp2_with fail
 go_ret
 exact⟨aC (by first|exact r.out|exact t.trans r.out),P.trans (B.mono (by omega))⟩
theorem MV (x:Plc)(w:World)(h:aL x.m=0):
  Calls Tryz.prog 201 #[x.v] w fun e F=>e=.returned (.bool (kE x))/\Below w.heap.size w F:=by
 obtain⟨j,k⟩:=Nm (w.alloc (.cells #[.string x.m.name,.int .i64 x.m.major,.int .i64 x.m.minor,.string x.m.text,.slice x.m.eA x.m.ex.length x.m.eC,.slice x.m.iA x.m.im.length x.m.iC,.slice x.m.pA x.m.pa.length x.m.pC,.int .i64 x.first] 83))
 obtain⟨U,T,R,Q,P,O,N,K,Y,C⟩:=zH k
 have z:=k.symm
 have I:w.heap.size<j.heap.size:=by omega
 have y:=Hp C
 have B:=gK h
 have J:=(aY h).2.2.1
 have q:=Hp (fun W=>qG x.m W (by unfold big;omega))
 obtain⟨M,t⟩:=Nm (aH x.m)
 rw[<-t]at q B
 have V:IntKind.i64.wrap (16 -M)=16 -M:=IntWalk.i64_in _ (by omega)
 have n:kE x=(decide (0<=x.first)&&decide (x.first<=16 -M)):=by unfold kE;rw[t]
 clear k C t B h J
 have i:=Hp (show fI j (fun f=>Below j.heap.size j f/\f.cell? ⟨w.heap.size,0,none⟩=some (.string x.m.name)/\f.cell? ⟨w.heap.size,1,none⟩=some (.int .i64 x.m.major)/\f.cell? ⟨w.heap.size,2,none⟩=some (.int .i64 x.m.minor)/\f.cell? ⟨w.heap.size,3,none⟩=some (.string x.m.text)/\f.cell? ⟨w.heap.size,4,none⟩=some (.slice x.m.eA x.m.ex.length x.m.eC)/\f.cell? ⟨w.heap.size,5,none⟩=some (.slice x.m.iA x.m.im.length x.m.iC)/\f.cell? ⟨w.heap.size,6,none⟩=some (.slice x.m.pA x.m.pa.length x.m.pC)/\f.cell? ⟨w.heap.size,7,none⟩=some (.int .i64 x.first)) from dE (by repeat' first|(with_reducible exact bC.cell (by first|omega|(simp;omega)|(simp only[aA];omega)))|refine bC.and ?_ ?_))
 have a:=Hp (i.now ⟨GZ4 _ _,by assumption,by assumption,by assumption,by assumption,by assumption,by assumption,by assumption,by assumption⟩)
 have c:=Hp i.D
 have b:=Hp i.S
 have d:=Hp i.A
 have g:=Hp i.X
 have l:=Hp i.L
 clear U T R Q P O N K
 by_cases p:0<=x.first
 ·by_cases r:x.first<=16 -M
  ·have o:=Hp (show true=kE x by rw[n];simp[p,r])
   clear n
   go_enter Tryz.func201,Tryz.ntmps201
   go_wp2_with fail
   go_region_held3 (fun f=>Below j.heap.size j f/\f.cell? ⟨w.heap.size,0,none⟩=some (.string x.m.name)/\f.cell? ⟨w.heap.size,1,none⟩=some (.int .i64 x.m.major)/\f.cell? ⟨w.heap.size,2,none⟩=some (.int .i64 x.m.minor)/\f.cell? ⟨w.heap.size,3,none⟩=some (.string x.m.text)/\f.cell? ⟨w.heap.size,4,none⟩=some (.slice x.m.eA x.m.ex.length x.m.eC)/\f.cell? ⟨w.heap.size,5,none⟩=some (.slice x.m.iA x.m.im.length x.m.iC)/\f.cell? ⟨w.heap.size,6,none⟩=some (.slice x.m.pA x.m.pa.length x.m.pC)/\f.cell? ⟨w.heap.size,7,none⟩=some (.int .i64 x.first)) (first|exact a.out|exact c.out _ a.out|exact b.out _ _ (by assumption) (by assumption)|exact b.out _ _ a.out (by assumption)|exact b.out _ _ (c.out _ a.out) (by assumption)|exact b.out _ _ (c.out _ (by assumption)) (by assumption)|exact c.out _ (by assumption)|exact d.out _ _ (by assumption)|exact d.out _ _ a.out|exact d.out _ _ (c.out _ a.out)|exact c.out _ (d.out _ _ (by assumption))|exact d.out _ _ (b.out _ _ a.out (by assumption))|exact d.out _ _ (b.out _ _ (c.out _ a.out) (by assumption))|exact g.out _ _ _ _ (GZ3 _) (by assumption)|exact g.out _ _ _ _ (GZ3 _) (b.out _ _ (d.out _ _ a.out) (by assumption))|exact g.out _ _ _ _ (GZ3 _) (b.out _ _ (c.out _ (d.out _ _ a.out)) (by assumption))|assumption) (first|(go_at_call 164;refine(q.out _).mono ?_;rintro e E ⟨rfl,s⟩))
   have u:=l.out _ (by assumption)
   clear a c b d
   go_wp2_with fail
   go_ret
   exact⟨aV o.out,y.trans (u.mono (by omega))⟩
  ·have o:=Hp (show false=kE x by rw[n];simp[p,r])
   have G:decide (x.first<=16 -M)=false:=by simp;omega
   clear n r
   go_enter Tryz.func201,Tryz.ntmps201
   go_wp2_with fail
   go_region_held3 (fun f=>Below j.heap.size j f/\f.cell? ⟨w.heap.size,0,none⟩=some (.string x.m.name)/\f.cell? ⟨w.heap.size,1,none⟩=some (.int .i64 x.m.major)/\f.cell? ⟨w.heap.size,2,none⟩=some (.int .i64 x.m.minor)/\f.cell? ⟨w.heap.size,3,none⟩=some (.string x.m.text)/\f.cell? ⟨w.heap.size,4,none⟩=some (.slice x.m.eA x.m.ex.length x.m.eC)/\f.cell? ⟨w.heap.size,5,none⟩=some (.slice x.m.iA x.m.im.length x.m.iC)/\f.cell? ⟨w.heap.size,6,none⟩=some (.slice x.m.pA x.m.pa.length x.m.pC)/\f.cell? ⟨w.heap.size,7,none⟩=some (.int .i64 x.first)) (first|exact a.out|exact c.out _ a.out|exact b.out _ _ (by assumption) (by assumption)|exact b.out _ _ a.out (by assumption)|exact b.out _ _ (c.out _ a.out) (by assumption)|exact b.out _ _ (c.out _ (by assumption)) (by assumption)|exact c.out _ (by assumption)|exact d.out _ _ (by assumption)|exact d.out _ _ a.out|exact d.out _ _ (c.out _ a.out)|exact c.out _ (d.out _ _ (by assumption))|exact d.out _ _ (b.out _ _ a.out (by assumption))|exact d.out _ _ (b.out _ _ (c.out _ a.out) (by assumption))|exact g.out _ _ _ _ (GZ3 _) (by assumption)|exact g.out _ _ _ _ (GZ3 _) (b.out _ _ (d.out _ _ a.out) (by assumption))|exact g.out _ _ _ _ (GZ3 _) (b.out _ _ (c.out _ (d.out _ _ a.out)) (by assumption))|assumption) (first|(go_at_call 164;refine(q.out _).mono ?_;rintro e E ⟨rfl,s⟩))
   have u:=l.out _ (by assumption)
   clear a c b d
   go_wp2_with fail
   go_ret
   exact⟨aV o.out,y.trans (u.mono (by omega))⟩
 ·have o:=Hp (show false=kE x by rw[n];simp[p])
  have H:decide (0<=x.first)=false:=by simp;omega
  clear n p
  go_enter Tryz.func201,Tryz.ntmps201
  go_wp2_with fail
  have f0:=a.out.2.1
  have Z:=a.out.2.2.2.2.2.2.2.2
  clear a c b d l q
  go_quiet (fail)
  go_wp2_with fail
  go_ret
  exact⟨aV o.out,below_drewN y.out _⟩
theorem Ji (A:Option Addr)(c:Nat)(l:List Plc)(w:World)(h:aU w A l):
  Calls Tryz.prog 137 #[.slice A l.length c] w fun e w'=>e=.returned (.int .i64 (RY l))/\Below w.heap.size w w':=by
 have hl:=h.len
 unfold big at hl
 have HP:=Hp h
 have K:=Hp (Ht A c l 201 kE w (enters_of Tryz.func201 (by kernel_rfl) rfl) h (fun x _ R W=>MV x W R))
 obtain⟨E,t⟩:=Nm (bY kE l)
 rw[<-t]at K
 have v:RY l=if E≠0 then E else iI l:=by unfold RY;rw[t]
 clear h
 by_cases I:E=0
 ·obtain rfl:=I
  rw[if_neg (by omega)]at v
  obtain⟨h8,s⟩:=TB t.symm
  have H:=Hp (show∀x∈l,x.m.text.size<=256/\0<=x.first/\x.first<=16/\0<=aH x.m/\aH x.m<=4 from fun x R=>by
   obtain⟨J,Y⟩:=s x R
   have h3:=gK J
   simp only[kE,Bool.and_eq_true,decide_eq_true_eq]at Y
   exact⟨(aY J).2.2.1,by omega⟩)
  have M:=Hp v
  clear t v h8 s
  go_enter Tryz.func137,Tryz.ntmps137
  go_wp2_with (first|(go_at_call 198;refine(K.out).mono ?_;rintro e w2 ⟨rfl,u⟩))
  clear K
  go_loopw [4] (fun i wr=>∃j:Nat,1<=j/\(j<=l.length\/j=1)/\i=.int .i64 j/\jV l j=iI l/\Below w.heap.size w wr) (fun i _=>l.length -(intOf i).toNat)
  case atStart=>exact⟨1,by omega,by omega,rfl,Uu,u⟩
  case round=>
   obtain⟨j,B,hj,rfl,t,C⟩:=hrel
   have HE:=Hp t
   have HB:=Hp C
   clear t
   by_cases o:j<l.length
   ·have a0:(j:Int)<l.length:=by omega
    obtain⟨a,rfl,a7,h0,J,Y,h3,h4,h5,h6,h7⟩:=RS HP.row C j o
    obtain⟨k,hk⟩:∃k,j=k+1:=⟨j -1,by omega⟩
    have p:k<l.length:=by omega
    obtain⟨a8,e',a1,g0,g1,g2,g3,g4,g5,g6,g7⟩:=RS HP.row C k p
    obtain rfl:=GY3 e'
    have a4:=C.size
    have q1:IntKind.i64.wrap ((j:Int) -1)=k:=by rw[IntWalk.i64_in _ (by omega)];omega
    have HK:=Hp (show∀(h:j<l.length),l[j -1]'(Nat.lt_of_le_of_lt (Nat.sub_le _ _) h)=l[k]'p from fun h=>by simp only[show j -1=k by omega])
    have q2:(k:Int)<l.length:=by omega
    have q3:(0:Int)<=k:=by omega
    obtain⟨f1,f2,Z,f4,f5⟩:=H.out (l[k]'p) (GZ9 _)
    obtain⟨y,Q⟩:=Nm (l[k]'p)
    rw[<-Q]at f1 f2 Z f4 f5 g0 g1 g2 g3 g4 g5 g6 g7
    have HY:=Hp Q
    obtain⟨z,P⟩:=Nm (l[j].first)
    rw[<-P]at h7
    have HZ:=Hp P
    clear Q P
    have cE:=Hp (fun W=>zR y W f1 f2 Z)
    obtain⟨N,U⟩:=Nm (aR y)
    rw[<-U]at cE
    have HN:=Hp U
    clear f1 f2 Z f4 f5 U e'
    have a6:(a.add (j*8)).block<wr.heap.size:=by rw[aA];omega
    have a5:(a.add (k*8)).block<wr.heap.size:=by rw[aA];omega
    have r:=Hp (show fI wr (fun n=>Below wr.heap.size wr n/\n.cell? (a.add (k*8))=some (.string y.m.name)/\n.cell? ⟨(a.add (k*8)).block,(a.add (k*8)).off+1,none⟩=some (.int .i64 y.m.major)/\n.cell? ⟨(a.add (k*8)).block,(a.add (k*8)).off+2,none⟩=some (.int .i64 y.m.minor)/\n.cell? ⟨(a.add (k*8)).block,(a.add (k*8)).off+3,none⟩=some (.string y.m.text)/\n.cell? ⟨(a.add (k*8)).block,(a.add (k*8)).off+4,none⟩=some (.slice y.m.eA y.m.ex.length y.m.eC)/\n.cell? ⟨(a.add (k*8)).block,(a.add (k*8)).off+5,none⟩=some (.slice y.m.iA y.m.im.length y.m.iC)/\n.cell? ⟨(a.add (k*8)).block,(a.add (k*8)).off+6,none⟩=some (.slice y.m.pA y.m.pa.length y.m.pC)/\n.cell? ⟨(a.add (k*8)).block,(a.add (k*8)).off+7,none⟩=some (.int .i64 y.first)/\n.cell? ⟨(a.add (j*8)).block,(a.add (j*8)).off+7,none⟩=some (.int .i64 z)) from dE (by repeat' first|(with_reducible exact bC.cell (by first|omega|(simp;omega)|(simp only[aA];omega)))|refine bC.and ?_ ?_))
    have b:=Hp (r.now ⟨GZ4 _ _,by assumption,by assumption,by assumption,by assumption,by assumption,by assumption,by assumption,by assumption,by assumption⟩)
    have f:=Hp r.D
    have d:=Hp r.S
    have g:=Hp r.A
    have q:=Hp r.X
    have G:=Hp r.L
    clear hk h0 J Y h3 h4 h5 h6 h7 g0 g1 g2 g3 g4 g5 g6 g7 C
    by_cases O:z<N
    ·have F:=Hp ((yS o B (show l[j].first<aR l[j -1] by rw[show l[j -1]=l[k]'p from HK.out o,<-HZ.out,<-HY.out,<-HN.out];exact O)).symm.trans HE.out)
     go_wp2_with fail
     go_region_held3 (fun n=>Below wr.heap.size wr n/\n.cell? (a.add (k*8))=some (.string y.m.name)/\n.cell? ⟨(a.add (k*8)).block,(a.add (k*8)).off+1,none⟩=some (.int .i64 y.m.major)/\n.cell? ⟨(a.add (k*8)).block,(a.add (k*8)).off+2,none⟩=some (.int .i64 y.m.minor)/\n.cell? ⟨(a.add (k*8)).block,(a.add (k*8)).off+3,none⟩=some (.string y.m.text)/\n.cell? ⟨(a.add (k*8)).block,(a.add (k*8)).off+4,none⟩=some (.slice y.m.eA y.m.ex.length y.m.eC)/\n.cell? ⟨(a.add (k*8)).block,(a.add (k*8)).off+5,none⟩=some (.slice y.m.iA y.m.im.length y.m.iC)/\n.cell? ⟨(a.add (k*8)).block,(a.add (k*8)).off+6,none⟩=some (.slice y.m.pA y.m.pa.length y.m.pC)/\n.cell? ⟨(a.add (k*8)).block,(a.add (k*8)).off+7,none⟩=some (.int .i64 y.first)/\n.cell? ⟨(a.add (j*8)).block,(a.add (j*8)).off+7,none⟩=some (.int .i64 z)) (first|exact b.out|exact f.out _ b.out|exact d.out _ _ (by assumption) (by assumption)|exact d.out _ _ b.out (by assumption)|exact d.out _ _ (f.out _ b.out) (by assumption)|exact d.out _ _ (f.out _ (by assumption)) (by assumption)|exact f.out _ (by assumption)|exact g.out _ _ (by assumption)|exact g.out _ _ b.out|exact g.out _ _ (f.out _ b.out)|exact f.out _ (g.out _ _ (by assumption))|exact g.out _ _ (d.out _ _ b.out (by assumption))|exact g.out _ _ (d.out _ _ (f.out _ b.out) (by assumption))|exact q.out _ _ _ _ (GZ3 _) (by assumption)|exact q.out _ _ _ _ (GZ3 _) (d.out _ _ (g.out _ _ b.out) (by assumption))|exact q.out _ _ _ _ (GZ3 _) (d.out _ _ (f.out _ (g.out _ _ b.out)) (by assumption))|assumption) (first|(go_at_call 91;refine(cE.out _).mono ?_;rintro e w3 ⟨rfl,T⟩))
     have V:=G.out _ (by assumption)
     clear b f d g
     go_wp2_with fail
     go_ret
     exact⟨aC (F.trans M.symm),HB.trans (V.mono (by omega))⟩
    ·have F:=Hp ((vS o B (show¬l[j].first<aR l[j -1] by rw[show l[j -1]=l[k]'p from HK.out o,<-HZ.out,<-HY.out,<-HN.out];exact O)).trans HE.out)
     have a2:decide (z<N)=false:=by simp;omega
     clear O
     go_wp2_with fail
     go_region_held3 (fun n=>Below wr.heap.size wr n/\n.cell? (a.add (k*8))=some (.string y.m.name)/\n.cell? ⟨(a.add (k*8)).block,(a.add (k*8)).off+1,none⟩=some (.int .i64 y.m.major)/\n.cell? ⟨(a.add (k*8)).block,(a.add (k*8)).off+2,none⟩=some (.int .i64 y.m.minor)/\n.cell? ⟨(a.add (k*8)).block,(a.add (k*8)).off+3,none⟩=some (.string y.m.text)/\n.cell? ⟨(a.add (k*8)).block,(a.add (k*8)).off+4,none⟩=some (.slice y.m.eA y.m.ex.length y.m.eC)/\n.cell? ⟨(a.add (k*8)).block,(a.add (k*8)).off+5,none⟩=some (.slice y.m.iA y.m.im.length y.m.iC)/\n.cell? ⟨(a.add (k*8)).block,(a.add (k*8)).off+6,none⟩=some (.slice y.m.pA y.m.pa.length y.m.pC)/\n.cell? ⟨(a.add (k*8)).block,(a.add (k*8)).off+7,none⟩=some (.int .i64 y.first)/\n.cell? ⟨(a.add (j*8)).block,(a.add (j*8)).off+7,none⟩=some (.int .i64 z)) (first|exact b.out|exact f.out _ b.out|exact d.out _ _ (by assumption) (by assumption)|exact d.out _ _ b.out (by assumption)|exact d.out _ _ (f.out _ b.out) (by assumption)|exact d.out _ _ (f.out _ (by assumption)) (by assumption)|exact f.out _ (by assumption)|exact g.out _ _ (by assumption)|exact g.out _ _ b.out|exact g.out _ _ (f.out _ b.out)|exact f.out _ (g.out _ _ (by assumption))|exact g.out _ _ (d.out _ _ b.out (by assumption))|exact g.out _ _ (d.out _ _ (f.out _ b.out) (by assumption))|exact q.out _ _ _ _ (GZ3 _) (by assumption)|exact q.out _ _ _ _ (GZ3 _) (d.out _ _ (g.out _ _ b.out) (by assumption))|exact q.out _ _ _ _ (GZ3 _) (d.out _ _ (f.out _ (g.out _ _ b.out)) (by assumption))|assumption) (first|(go_at_call 91;refine(cE.out _).mono ?_;rintro e w3 ⟨rfl,T⟩))
     have V:=G.out _ (by assumption)
     clear b f d g
     go_wp2_with fail
     go_roundw
     case rel=>exact⟨j+1,by omega,by omega,by go_num,F.out,HB.trans (V.mono (by omega))⟩
     case measure=>(simp[intOf];try omega)
   ·have F:=Hp ((yR o).symm.trans HE.out)
    go_wp2_with fail
    go_ret
    exact⟨aC (F.trans M.symm),HB.out⟩
 ·rw[if_pos I]at v
  have M:=Hp v
  have a3:(E != 0)=true:=by simp[I]
  clear t v I
  go_enter Tryz.func137,Tryz.ntmps137
  go_wp2_with (first|(go_at_call 198;refine(K.out).mono ?_;rintro e w2 ⟨rfl,u⟩))
  go_ret
  exact⟨aC M.symm,u⟩
theorem Uf (A:Option Addr)(c:Nat)(l:List Plc)(w:World)(h:aU w A l):
  Calls Tryz.prog 174 #[.slice A l.length c] w fun e w'=>e=.returned (.int .i64 (RY l))/\Below w.heap.size w w':=by
 have hl:=h.len
 unfold big at hl
 have HP:=Hp h
 have G:=Hp (xV A c l true true w h)
 rw[Nc]at G
 obtain⟨E,t⟩:=Nm (bY kE l)
 rw[<-t]at G
 have v:RY l=if E≠0 then E else iI l:=by unfold RY;rw[t]
 clear h
 by_cases J:E=0
 ·obtain rfl:=J
  rw[if_neg (by omega)]at v
  obtain⟨h8,s⟩:=TB t.symm
  have I:=Hp (show∀x∈l,x.m.text.size<=256/\0<=x.first/\x.first<=16/\0<=aH x.m/\aH x.m<=4 from fun x hx=>by
   obtain⟨K,Z⟩:=s x hx
   have h3:=gK K
   simp only[kE,Bool.and_eq_true,decide_eq_true_eq]at Z
   exact⟨(aY K).2.2.1,by omega⟩)
  have O:=Hp v
  clear t v h8 s
  go_enter Tryz.func174,Tryz.ntmps174
  go_wp2_with (first|(go_at_call 229;refine(G.out).mono ?_;rintro e w2 ⟨rfl,u⟩))
  clear G
  go_loopw [4] (fun i wr=>∃j:Nat,1<=j/\(j<=l.length\/j=1)/\i=.int .i64 j/\jV l j=iI l/\Below w.heap.size w wr) (fun i _=>l.length -(intOf i).toNat)
  case atStart=>exact⟨1,by omega,by omega,rfl,Uu,u⟩
  case round=>
   obtain⟨j,B,hj,rfl,t,C⟩:=hrel
   have HE:=Hp t
   have HB:=Hp C
   clear t
   by_cases o:j<l.length
   ·have a0:(j:Int)<l.length:=by omega
    obtain⟨a,rfl,a7,h0,K,Z,h3,h4,h5,h6,h7⟩:=RS HP.row C j o
    obtain⟨k,hk⟩:∃k,j=k+1:=⟨j -1,by omega⟩
    have p:k<l.length:=by omega
    obtain⟨a8,e',a1,g0,g1,g2,g3,g4,g5,g6,g7⟩:=RS HP.row C k p
    obtain rfl:=GY3 e'
    have a4:=C.size
    have q1:IntKind.i64.wrap ((j:Int) -1)=k:=by rw[IntWalk.i64_in _ (by omega)];omega
    have HK:=Hp (show∀(h:j<l.length),l[j -1]'(Nat.lt_of_le_of_lt (Nat.sub_le _ _) h)=l[k]'p from fun h=>by simp only[show j -1=k by omega])
    have q2:(k:Int)<l.length:=by omega
    have q3:(0:Int)<=k:=by omega
    obtain⟨f1,f2,f3,f4,f5⟩:=I.out (l[k]'p) (GZ9 _)
    obtain⟨y,R⟩:=Nm (l[k]'p)
    rw[<-R]at f1 f2 f3 f4 f5 g0 g1 g2 g3 g4 g5 g6 g7
    have HY:=Hp R
    obtain⟨z,Q⟩:=Nm (l[j].first)
    rw[<-Q]at h7
    have HZ:=Hp Q
    clear R Q
    have cE:=Hp (fun W=>lH y.m W (by unfold big;omega))
    obtain⟨N,U⟩:=Nm (aR y)
    obtain⟨M,V⟩:=Nm (aH y.m)
    rw[<-V]at cE f4 f5
    have q4:IntKind.i64.wrap (y.first+M)=N:=by rw[IntWalk.i64_in _ (by omega),U,V];rfl
    clear V
    have HN:=Hp U
    clear f1 f2 f3 f4 f5 U e'
    have a6:(a.add (j*8)).block<wr.heap.size:=by rw[aA];omega
    have a5:(a.add (k*8)).block<wr.heap.size:=by rw[aA];omega
    have r:=Hp (show fI wr (fun n=>Below wr.heap.size wr n/\n.cell? (a.add (k*8))=some (.string y.m.name)/\n.cell? ⟨(a.add (k*8)).block,(a.add (k*8)).off+1,none⟩=some (.int .i64 y.m.major)/\n.cell? ⟨(a.add (k*8)).block,(a.add (k*8)).off+2,none⟩=some (.int .i64 y.m.minor)/\n.cell? ⟨(a.add (k*8)).block,(a.add (k*8)).off+3,none⟩=some (.string y.m.text)/\n.cell? ⟨(a.add (k*8)).block,(a.add (k*8)).off+4,none⟩=some (.slice y.m.eA y.m.ex.length y.m.eC)/\n.cell? ⟨(a.add (k*8)).block,(a.add (k*8)).off+5,none⟩=some (.slice y.m.iA y.m.im.length y.m.iC)/\n.cell? ⟨(a.add (k*8)).block,(a.add (k*8)).off+6,none⟩=some (.slice y.m.pA y.m.pa.length y.m.pC)/\n.cell? ⟨(a.add (k*8)).block,(a.add (k*8)).off+7,none⟩=some (.int .i64 y.first)/\n.cell? ⟨(a.add (j*8)).block,(a.add (j*8)).off+7,none⟩=some (.int .i64 z)) from dE (by repeat' first|(with_reducible exact bC.cell (by first|omega|(simp;omega)|(simp only[aA];omega)))|refine bC.and ?_ ?_))
    have b:=Hp (r.now ⟨GZ4 _ _,by assumption,by assumption,by assumption,by assumption,by assumption,by assumption,by assumption,by assumption,by assumption⟩)
    have f:=Hp r.D
    have d:=Hp r.S
    have g:=Hp r.A
    have q:=Hp r.X
    have H:=Hp r.L
    clear hk h0 K Z h3 h4 h5 h6 h7 g0 g1 g2 g3 g4 g5 g6 g7 C
    by_cases P:z<N
    ·have F:=Hp ((yS o B (show l[j].first<aR l[j -1] by rw[show l[j -1]=l[k]'p from HK.out o,<-HZ.out,<-HY.out,<-HN.out];exact P)).symm.trans HE.out)
     go_wp2_with fail
     go_region_held3 (fun n=>Below wr.heap.size wr n/\n.cell? (a.add (k*8))=some (.string y.m.name)/\n.cell? ⟨(a.add (k*8)).block,(a.add (k*8)).off+1,none⟩=some (.int .i64 y.m.major)/\n.cell? ⟨(a.add (k*8)).block,(a.add (k*8)).off+2,none⟩=some (.int .i64 y.m.minor)/\n.cell? ⟨(a.add (k*8)).block,(a.add (k*8)).off+3,none⟩=some (.string y.m.text)/\n.cell? ⟨(a.add (k*8)).block,(a.add (k*8)).off+4,none⟩=some (.slice y.m.eA y.m.ex.length y.m.eC)/\n.cell? ⟨(a.add (k*8)).block,(a.add (k*8)).off+5,none⟩=some (.slice y.m.iA y.m.im.length y.m.iC)/\n.cell? ⟨(a.add (k*8)).block,(a.add (k*8)).off+6,none⟩=some (.slice y.m.pA y.m.pa.length y.m.pC)/\n.cell? ⟨(a.add (k*8)).block,(a.add (k*8)).off+7,none⟩=some (.int .i64 y.first)/\n.cell? ⟨(a.add (j*8)).block,(a.add (j*8)).off+7,none⟩=some (.int .i64 z)) (first|exact b.out|exact f.out _ b.out|exact d.out _ _ (by assumption) (by assumption)|exact d.out _ _ b.out (by assumption)|exact d.out _ _ (f.out _ b.out) (by assumption)|exact d.out _ _ (f.out _ (by assumption)) (by assumption)|exact f.out _ (by assumption)|exact g.out _ _ (by assumption)|exact g.out _ _ b.out|exact g.out _ _ (f.out _ b.out)|exact f.out _ (g.out _ _ (by assumption))|exact g.out _ _ (d.out _ _ b.out (by assumption))|exact g.out _ _ (d.out _ _ (f.out _ b.out) (by assumption))|exact q.out _ _ _ _ (GZ3 _) (by assumption)|exact q.out _ _ _ _ (GZ3 _) (d.out _ _ (g.out _ _ b.out) (by assumption))|exact q.out _ _ _ _ (GZ3 _) (d.out _ _ (f.out _ (g.out _ _ b.out)) (by assumption))|assumption) (first|(go_at_call 107;refine(cE.out _).mono ?_;rintro e w3 ⟨rfl,T⟩))
     have Y:=H.out _ (by assumption)
     clear b f d g
     go_wp2_with fail
     go_ret
     exact⟨aC (F.trans O.symm),HB.trans (Y.mono (by omega))⟩
    ·have F:=Hp ((vS o B (show¬l[j].first<aR l[j -1] by rw[show l[j -1]=l[k]'p from HK.out o,<-HZ.out,<-HY.out,<-HN.out];exact P)).trans HE.out)
     have a2:decide (z<N)=false:=by simp;omega
     clear P
     go_wp2_with fail
     go_region_held3 (fun n=>Below wr.heap.size wr n/\n.cell? (a.add (k*8))=some (.string y.m.name)/\n.cell? ⟨(a.add (k*8)).block,(a.add (k*8)).off+1,none⟩=some (.int .i64 y.m.major)/\n.cell? ⟨(a.add (k*8)).block,(a.add (k*8)).off+2,none⟩=some (.int .i64 y.m.minor)/\n.cell? ⟨(a.add (k*8)).block,(a.add (k*8)).off+3,none⟩=some (.string y.m.text)/\n.cell? ⟨(a.add (k*8)).block,(a.add (k*8)).off+4,none⟩=some (.slice y.m.eA y.m.ex.length y.m.eC)/\n.cell? ⟨(a.add (k*8)).block,(a.add (k*8)).off+5,none⟩=some (.slice y.m.iA y.m.im.length y.m.iC)/\n.cell? ⟨(a.add (k*8)).block,(a.add (k*8)).off+6,none⟩=some (.slice y.m.pA y.m.pa.length y.m.pC)/\n.cell? ⟨(a.add (k*8)).block,(a.add (k*8)).off+7,none⟩=some (.int .i64 y.first)/\n.cell? ⟨(a.add (j*8)).block,(a.add (j*8)).off+7,none⟩=some (.int .i64 z)) (first|exact b.out|exact f.out _ b.out|exact d.out _ _ (by assumption) (by assumption)|exact d.out _ _ b.out (by assumption)|exact d.out _ _ (f.out _ b.out) (by assumption)|exact d.out _ _ (f.out _ (by assumption)) (by assumption)|exact f.out _ (by assumption)|exact g.out _ _ (by assumption)|exact g.out _ _ b.out|exact g.out _ _ (f.out _ b.out)|exact f.out _ (g.out _ _ (by assumption))|exact g.out _ _ (d.out _ _ b.out (by assumption))|exact g.out _ _ (d.out _ _ (f.out _ b.out) (by assumption))|exact q.out _ _ _ _ (GZ3 _) (by assumption)|exact q.out _ _ _ _ (GZ3 _) (d.out _ _ (g.out _ _ b.out) (by assumption))|exact q.out _ _ _ _ (GZ3 _) (d.out _ _ (f.out _ (g.out _ _ b.out)) (by assumption))|assumption) (first|(go_at_call 107;refine(cE.out _).mono ?_;rintro e w3 ⟨rfl,T⟩))
     have Y:=H.out _ (by assumption)
     clear b f d g
     go_wp2_with fail
     go_roundw
     case rel=>exact⟨j+1,by omega,by omega,by go_num,F.out,HB.trans (Y.mono (by omega))⟩
     case measure=>(simp[intOf];try omega)
   ·have F:=Hp ((yR o).symm.trans HE.out)
    go_wp2_with fail
    go_ret
    exact⟨aC (F.trans O.symm),HB.out⟩
 ·rw[if_pos J]at v
  have O:=Hp v
  have a3:(E != 0)=true:=by simp[J]
  clear t v J
  go_enter Tryz.func174,Tryz.ntmps174
  go_wp2_with (first|(go_at_call 229;refine(G.out).mono ?_;rintro e w2 ⟨rfl,u⟩))
  go_ret
  exact⟨aC O.symm,u⟩
end
section
open Go.RowKit
theorem Tryz.PZ :(Tryz.prog.info? 3).map (fun i=>(i.zero,i.size,i.bytes))=some (some (.int .i64 0),1,8):=by kernel_rfl
def Ints (w:World)(a:Nat)(v:Value)(b:List Int):Prop:=w.ownsRow a 3 1 v b.length (b.map iv)
theorem own_below {w k:World}{a size n B:Nat}{e:TypeId}{v:Value}{j:List Value}(h:w.ownsRow a e size v n j)(l:Below B w k)(r:w.heap.size<=B):k.ownsRow a e size v n j:=by
 refine⟨h.1,?_⟩
 rcases h.2 with m|⟨g,i,f,q,p,d,o⟩
 ·exact .inl m
 ·refine .inr ⟨g,i,f,q,p,?_,o⟩
  have:g<w.heap.size:=by
   rcases Nat.lt_or_ge g w.heap.size with b|c
   ·exact b
   ·rw[Array.getElem?_eq_none c]at d;cases d
  rw[l.block g (by omega)];exact d
abbrev AB (w:World)(A:Option Addr)(a:List Int):Prop:=Row (fun n=>[iv n]) 1 w A a
theorem qJ (a:List Int):a.map iv=a.flatMap (fun n=>[iv n]):=by induction a with
 |nil=>rfl
 |cons x l ih=>simp[List.flatMap_cons,<-ih]
theorem Ints.row {w:World}{a:Nat}{v:Value}{b:List Int}(h:Ints w a v b):∃(A:Option Addr)(c:Nat),v=.slice A b.length c/\AB w A b:=by
 obtain⟨A,c,rfl⟩:=bG h
 refine⟨A,c,rfl,?_⟩
 have:=Reads.of_own h
 rwa [qJ]at this
theorem Ints.nil (w:World)(a:Nat):Ints w a (.slice none 0 0) []:=World.ownsRow_nil _ _ _ _
theorem BQ (W:World){i:Array Oper}{c:List Oper}{o:Oper}{a:Act}{Q:Exit->Act->World->Prop}(r:o.guard=none)(s x:Operand)
  (z:o.op=.call {callee:=.builtin .append,args:=#[s,x],argTypes:=#[89,89]}) (b:Nat) (v:Value) (j:List Int) (n:Int) (y:a.eval s=v)
  (w:a.eval x=.slice (some ⟨W.heap.size,0,none⟩) 1 1) (d:Ints W b v j) (B:j.length<=1000000) (g:b<=W.heap.size)
  (h:∀k l,Ints l b k (j++[n])->Below b W l->wpList Tryz.prog i Q c (a.put o.dst k) l):wpList Tryz.prog i Q (o::c) a (W.alloc (.cells #[.int .i64 n] 3)):=by
 obtain⟨u,A,q,p,m⟩:=info_parts Tryz.PZ
 refine wpList_append_own_at (W.alloc (.cells #[.int .i64 n] 3)) r s x 89 z b 3 u (.int .i64 0) 1 8 Tryz.underlying89 A q p m rfl (by decide) v j.length (j.map iv) y (d.alloc _) ⟨W.heap.size,0,none⟩ 1 1 [.int .i64 n] w rfl
  (cell_one_new _ _ _) (by simp[Value.oneCell']) (by simp only[maxLen];omega) (by omega) (by simp;omega) ?_
 intro k t e f _ _
 refine h k t ?_ (((GZ4 b W).alloc g _).grown f (by simp;omega) (iW d))
 unfold Ints
 simpa using e
theorem CZ (k:Krn)(A:Option Addr)(c:Nat)(l:List Plc)(nm tx:ByteArray)(mj mn:Int)(ex:List Exp)(a:List Imp)(X:List Pat)(eA G Z:Option Addr)(eC iC Y:Nat)(w:World)(hk:k.ok w)(h:aU w A l)(B:TC w G a)(a6:a.length<=6)(hp:iB k l=0):
  Calls Tryz.prog 135 #[k.v,.slice A l.length c,.agg #[.string nm,.int .i64 mj,.int .i64 mn,.string tx,.slice eA ex.length eC,.slice G a.length iC,.slice Z X.length Y]] w fun e S=>
   (∃(A':Option Addr)(c':Nat),e=.returned (.tuple #[.slice A' (aN k l a).1.length c',.int .i64 (aN k l a).2])/\AB S A' (aN k l a).1)/\Below w.heap.size w S:=by
 obtain⟨wk,n⟩:=Nm (w.alloc (.cells #[.int .i64 k.major,.int .i64 k.minor,.slice k.eA k.ex.length k.eC] 24))
 obtain⟨g0,g1,g2,H,C⟩:=uE n
 obtain⟨s,o⟩:=Nm (wk.alloc (.cells #[.string nm,.int .i64 mj,.int .i64 mn,.string tx,.slice eA ex.length eC,.slice G a.length iC,.slice Z X.length Y] 70))
 obtain⟨_,_,_,_,_,f5,_,g,d⟩:=wE o
 rw[H]at f5 g d
 have k0:=(d.cell (p:=⟨w.heap.size,0,none⟩) (by simp)).trans g0
 have k1:=(d.cell (p:=⟨w.heap.size,1,none⟩) (by simp)).trans g1
 have k2:=(d.cell (p:=⟨w.heap.size,2,none⟩) (by simp)).trans g2
 have H0:=Hp (show Below w.heap.size w s from C.trans (d.mono (by omega)))
 have HZ:=Hp g
 have a0:=n.symm
 have a1:=o.symm
 have P:=Hp B
 obtain⟨R,M⟩:=Nm (aN k l a)
 rw[<-M]
 have HR:=Hp M
 clear n o C d g0 g1 g2 B M g
 have cA:=Hp (fun W(f:Below w.heap.size w W)i=>FQ k A c l i W (hk.below f) (h.below f) hp)
 clear hk h hp
 go_enter Tryz.func135,Tryz.ntmps135
 go_wp2_with fail
 go_loopw [8,16] (fun v i wr=>∃(j:Nat)(pre:List Int),j<=a.length/\i=.int .i64 j/\pre.length=j/\Ints wr s.heap.size v pre/\glue pre (aN k l (a.drop j))=R/\Below s.heap.size s wr) (fun _ i _=>a.length -(intOf i).toNat)
 case atStart=>exact⟨0,[],by omega,rfl,rfl,Ints.nil _ _,by rw[HR.out];exact Gb,GZ4 _ _⟩
 case round=>
  obtain⟨j,pre,hj,rfl,I,z,hG,f⟩:=hrel
  have Q:=Hp hG
  have HB:=Hp f
  have HI:=Hp z
  have D:=Hp I
  clear hG z
  obtain⟨vA,vc,hv,x⟩:=HI.row
  have HV:=Hp hv
  clear hv
  have a5:=f.size
  have g:=HZ.out
  have a4:w.heap.size+1<wr.heap.size:=by omega
  have a3:w.heap.size<wr.heap.size:=by omega
  have r0:=(f.cell (p:=⟨w.heap.size,0,none⟩) (by simp;omega)).trans k0
  have r1:=(f.cell (p:=⟨w.heap.size,1,none⟩) (by simp;omega)).trans k1
  have r2:=(f.cell (p:=⟨w.heap.size,2,none⟩) (by simp;omega)).trans k2
  have r5:=(f.cell (p:=⟨w.heap.size+1,5,none⟩) (by simp;omega)).trans f5
  have O:=Hp (show Below w.heap.size w wr from H0.trans (f.mono H0.size))
  clear g
  by_cases m:j<a.length
  ·have a2:(j:Int)<a.length:=by omega
   obtain⟨ad,rfl,a7,h0,h1,h2,h3⟩:=TA P.out.1 O.out j m
   have F:=Hp (fun W f=>cA.out W f a[j])
   obtain⟨V,L⟩:=Nm (addrOf k l a[j])
   have r:=Hp (fun J=>(Fw (k:=k) (l:=l) (pre:=pre) m J).symm.trans Q.out)
   have N:=Hp (fun J=>(Jw (k:=k) (l:=l) (pre:=pre) m J).trans Q.out)
   rw[<-L]at r N
   simp only[<-L]at F
   clear L f
   obtain⟨U,T⟩:=V
   simp only at r N F
   have q:=Hp (O.alloc (by omega) (.cells #[.string a[j].mod,.string a[j].name,iv a[j].major,iv a[j].minor] 173))
   by_cases u:T=0
   ·obtain rfl:=u
    have E:=Hp (N.out rfl)
    go_wp2_with (first|(go_at_call 186;refine(F.out _ q.out).mono ?_;rintro e w2 ⟨rfl,b⟩;have t:=b.size)|(at_builtin;refine BQ _ rfl _ _ rfl s.heap.size _ pre U rfl rfl (own_below (HI.alloc _) b (GZ3 _)) (by rw[D.out];omega) (by simp at t;omega) ?_;intro v' w4 y K))
    go_roundw
    case rel=>exact⟨j+1,pre++[U],by omega,by go_num,by simp[D.out],y,E.out,(((HB.alloc (by omega) _).trans (b.mono (by simp;omega))).trans K)⟩
    case measure=>(simp[intOf];try omega)
   ·have u':(T != 0)=true:=by simp[u]
    have E:=Hp (r.out u)
    clear u
    go_wp2_with (go_at_call 186;refine(F.out _ q.out).mono ?_;rintro e w2 ⟨rfl,b⟩;have t:=b.size)
    go_ret2
    exact⟨⟨none,0,by rw[<-E.out];rfl,by rw[<-E.out];exact Row.nil⟩,q.trans (b.mono (by simp;omega))⟩
  ·have r:=Hp ((Hf (k:=k) (l:=l) (pre:=pre) m).symm.trans Q.out)
   go_wp2_with fail
   go_ret2
   exact⟨⟨vA,vc,by rw[<-r.out];rw[HV.out];rfl,by rw[<-r.out];exact x⟩,O.out⟩
end
section
open Go.RowKit
open Gs (Tx)
def ffs (n:Nat):ByteArray:=⟨(List.replicate n 255).toArray⟩
theorem Aj (n:Nat):(ffs n).size=n:=by simp[ffs,ByteArray.size]
theorem Ck :∀n,Lib.repeatL [255] n=List.replicate n 255
 |0=>rfl
 |n+1=>by rw[Lib.repeatL,Ck n,List.replicate_succ];rfl
theorem uQ (n:Nat)(w:World)(d:n<=16):Calls Tryz.prog 90 #[.int .i64 n] w fun e w'=>e=.returned (.string (ffs (64*n)))/\Below w.heap.size w w':=by
 have b:=Hp (fun W=>Tryz.strings_Repeat ⟨#[255]⟩ (64*n) W (by omega) (by show 1*(64*n)<=_;omega))
 have a:(⟨(Lib.repeatL (⟨#[255]⟩:ByteArray).data.toList (64*n)).toArray⟩:ByteArray)=ffs (64*n):=by
  show(⟨(Lib.repeatL [255] (64*n)).toArray⟩:ByteArray)=_
  rw[Ck];rfl
 rw[a]at b
 have c:(((64*n:Nat)):Int)=(n:Int)*64:=by omega
 rw[c]at b
 generalize ffs (64*n)=B at*
 clear a c
 go_enter Tryz.func90,Tryz.ntmps90
 go_wp2_with (go_at_call 166;refine(b.out _).mono ?_;rintro e w' ⟨rfl,a⟩)
 go_ret
 exact⟨rfl,a⟩
theorem uI (k:Krn)(A:Option Addr)(c:Nat)(l:List Plc)(w:World)(x:k.ok w)(h:aU w A l):
  Calls Tryz.prog 86 #[k.v,.slice A l.length c] w fun e w'=>e=.returned (.int .i64 (aX k l))/\Below w.heap.size w w':=by
 obtain⟨B,g⟩:=Nm (w.alloc (.cells #[.int .i64 k.major,.int .i64 k.minor,.slice k.eA k.ex.length k.eC] 24))
 obtain⟨I,H,G,F,j⟩:=uE g
 have f:=Hp j
 have u:=g.symm
 have p:=Hp (Br k B (x.below j))
 have o:=Hp (fun W(r:Below w.heap.size w W)=>Ji A c l W (h.below r))
 have s:=Hp (fun(e:RY l=0)W(r:Below w.heap.size w W)=>LQ A c l W (h.row.below r) (cZ e).1)
 obtain⟨E,d⟩:=Nm (aX k l)
 rw[<-d]
 unfold aX at d
 clear g j x h
 generalize bJ k=ke at*
 generalize RY l=re at*
 generalize dD l=tw at*
 by_cases n:ke=0
 ·obtain rfl:=n
  rw[if_neg (by omega)]at d
  by_cases m:re=0
  ·obtain rfl:=m
   rw[if_neg (by omega)]at d
   have y:=Hp (s.out rfl)
   cases tw
   ·rw[if_neg (by simp)]at d
    go_enter Tryz.func86,Tryz.ntmps86
    go_wp2_with (first|(go_at_call 84;(with_reducible refine(p.out).mono ?_);rintro e q ⟨rfl,a⟩)|(go_at_call 137;(with_reducible refine(o.out _ (f.out.trans (a.mono (by omega)))).mono ?_);rintro e t ⟨rfl,b⟩)|(go_at_call 155;(with_reducible refine(y.out _ ((f.out.trans (a.mono (by omega))).trans (b.mono (by have:=a.size;omega)))).mono ?_);rintro e z ⟨rfl,i⟩))
    go_ret
    exact⟨aC d.symm,((f.trans (a.mono (by omega))).trans (b.mono (by have:=a.size;omega))).trans (i.mono (by have:=a.size;have:=b.size;omega))⟩
   ·rw[if_pos rfl]at d
    go_enter Tryz.func86,Tryz.ntmps86
    go_wp2_with (first|(go_at_call 84;(with_reducible refine(p.out).mono ?_);rintro e q ⟨rfl,a⟩)|(go_at_call 137;(with_reducible refine(o.out _ (f.out.trans (a.mono (by omega)))).mono ?_);rintro e t ⟨rfl,b⟩)|(go_at_call 155;(with_reducible refine(y.out _ ((f.out.trans (a.mono (by omega))).trans (b.mono (by have:=a.size;omega)))).mono ?_);rintro e z ⟨rfl,i⟩))
    go_ret
    exact⟨aC d.symm,((f.trans (a.mono (by omega))).trans (b.mono (by have:=a.size;omega))).trans (i.mono (by have:=a.size;have:=b.size;omega))⟩
  ·rw[if_pos m]at d
   have C:(re==0)=false:=by simp[m]
   clear m s
   go_enter Tryz.func86,Tryz.ntmps86
   go_wp2_with (first|(go_at_call 84;(with_reducible refine(p.out).mono ?_);rintro e q ⟨rfl,a⟩)|(go_at_call 137;(with_reducible refine(o.out _ (f.out.trans (a.mono (by omega)))).mono ?_);rintro e t ⟨rfl,b⟩))
   go_ret
   exact⟨aC d.symm,(f.trans (a.mono (by omega))).trans (b.mono (by have:=a.size;omega))⟩
 ·rw[if_pos n]at d
  have D:(ke==0)=false:=by simp[n]
  clear n o s
  go_enter Tryz.func86,Tryz.ntmps86
  go_wp2_with (first|(go_at_call 84;(with_reducible refine(p.out).mono ?_);rintro e q ⟨rfl,a⟩))
  go_ret
  exact⟨aC d.symm,f.trans (a.mono (by omega))⟩
def Cu (x:Plc)(sA:Option Addr)(n sC:Nat)(s:ByteArray):Array Value:=
 #[.string x.m.name,.int .i64 x.m.major,.int .i64 x.m.minor,.string x.m.text,.slice x.m.eA x.m.ex.length x.m.eC,.slice x.m.iA x.m.im.length x.m.iC,.slice x.m.pA x.m.pa.length x.m.pC,.int .i64 x.first,.slice sA n sC,.string s]
def Lk (w:World)(p:Nat)(x:Plc)(sA:Option Addr)(n sC:Nat)(s:ByteArray):Prop:=w.heap[p]? =some (.cells (Cu x sA n sC s) 207 (0,0))
section
variable {w w':World} {p:Nat} {x:Plc} {sA:Option Addr} {n sC:Nat} {s:ByteArray}
theorem Lk.cell (h:Lk w p x sA n sC s)(i:Nat):w.cell? ⟨p,i,none⟩=(Cu x sA n sC s)[i]?:=cell_of_row _ _ _ _ _ _ h
theorem Lk.lt (h:Lk w p x sA n sC s):p<w.heap.size:=by
 rcases Nat.lt_or_ge p w.heap.size with a|a
 ·exact a
 ·unfold Lk at h;rw[Array.getElem?_eq_none a]at h;cases h
theorem Lk.frozen (h:Lk w p x sA n sC s)(i:Nat):w.frozen? ⟨p,i,none⟩=false:=frozen_of_row _ _ _ _ _ h
theorem Lk.kept (h:Lk w p x sA n sC s)(a:Below w.heap.size w w'):Lk w' p x sA n sC s:=(a.block p h.lt).trans h
theorem Lk.put (h:Lk w p x sA n sC s)(t:ByteArray):Lk (w.setCell ⟨p,9,none⟩ (.string t)) p x sA n sC t:=heap_setCell_same w p 9 _ _ _ h
end
theorem VL (x:Plc)(p:Nat)(w:World)(h:w.cell? ⟨p,7,none⟩=some (.int .i64 x.first))(f:0<=x.first)(d:x.first<=16):
  Calls Tryz.prog 222 #[.pointer (some ⟨p,0,none⟩)] w fun e w'=>e=.returned (.int .i64 (bV x))/\w=w':=by
 have c:IntKind.i64.wrap (x.first*64)=x.first*64:=IntWalk.i64_in _ (by omega)
 have b:IntKind.i64.wrap (4096+x.first*64)=4096+x.first*64:=IntWalk.i64_in _ (by omega)
 have a:=Hp (show 4096+x.first*64=bV x by unfold bV;omega)
 go_enter Tryz.func222,Tryz.ntmps222
 go_wp2_with fail
 go_ret
 exact⟨aC a.out,rfl⟩
end
section
open Go.RowKit
open Gs (Tx)
theorem Ai (w:World)(b i:Nat)(v:Value):w.grownBy (w.setCell ⟨b,i,none⟩ v) (some b):=⟨rfl,rfl,rfl,by simp,fun k _ a=>Below.heap_setCell _ _ _ _ (fun e=>a (by rw[e]))⟩
theorem KR {w c:World}{A:Option Addr}{l:List Int}(h:AB w A l)(g:Below w.heap.size w c)(i:Nat)(e:i<l.length):∃b,A=some b/\b.block<w.heap.size/\c.cell? (b.add i)=some (iv l[i]):=by
 obtain⟨b,rfl,a,f⟩:=Row.at_ (enc:=fun n=>[iv n]) (k:=1) (fun _=>rfl) h i e
 have d:=f 0 _ rfl
 rw[add_zero_,Nat.mul_one]at d
 exact⟨b,rfl,a,(g.cell (by rw[aA];exact a)).trans d⟩
theorem JF (x:Plc)(p:Nat)(sA:Option Addr)(sC:Nat)(r:List Int)(s:ByteArray)(q:Pat)(w:World)(h:Lk w p x sA r.length sC s)(hr:AB w sA r)(hs:s.size<=140737488351232)(h0:0<=x.first)(h1:x.first<=16)(hq:q.sym<r.length):
  Calls Tryz.prog 163 #[.pointer (some ⟨p,0,none⟩),.agg #[.int .i64 q.kind,.int .i64 q.at_,.int .i64 q.sym,.int .i64 q.add]] w fun e Z=>
   e=.returned (.int .i64 (RO s.size q.kind q.at_ q.add (iX r (bV x) q) (bV x)))/\Lk Z p x sA r.length sC (bS s q.kind q.at_ q.add (iX r (bV x) q) (bV x))/\w.grownBy Z (some p):=by
 obtain⟨j,M⟩:=Nm (w.alloc (.cells #[.int .i64 q.kind,.int .i64 q.at_,.int .i64 q.sym,.int .i64 q.add] 180))
 obtain⟨I,H,y,G,K,z⟩:=oJ M
 have b3:=h.lt
 have u:=h.kept z
 have b0:=Hp (hr.below z)
 have a6:=Hp u
 have H0:=Hp z
 have b6:=Hp K
 have o:j.cell? ⟨p,7,none⟩=some (.int .i64 x.first):=u.cell 7
 have z8:j.cell? ⟨p,8,none⟩=some (.slice sA r.length sC):=u.cell 8
 have v:j.cell? ⟨p,9,none⟩=some (.string s):=u.cell 9
 have a2:=M.symm
 have Q:=Hp (VL x p j o h0 h1)
 obtain⟨B,F⟩:=Nm (bV x)
 obtain⟨S,N⟩:=Nm (iX r (bV x) q)
 have C:=N
 unfold iX at C
 have cA:=Hp (fun W=>LZ s q.kind q.at_ q.sym q.add S B W hs)
 rw[<-N,<-F]
 rw[<-F]at C Q
 have a7:=Hp F.symm
 obtain⟨E,a5⟩:=Nm (RO s.size q.kind q.at_ q.add S B)
 obtain⟨T,a4⟩:=Nm (bS s q.kind q.at_ q.add S B)
 simp only[<-a5,<-a4]at cA ⊢
 clear N a5 a4 F M z u hr h
 by_cases t:q.sym<0
 ·rw[if_pos t]at C
  subst C
  have t':decide (0<=q.sym)=false:=by simp;omega
  clear t hq
  have HZ:=Hp (show Below j.heap.size j j/\j.cell? ⟨p,9,none⟩=some (.string s)/\j.cell? ⟨p,7,none⟩=some (.int .i64 x.first)/\j.cell? ⟨w.heap.size,0,none⟩=some (.int .i64 q.kind)/\j.cell? ⟨w.heap.size,1,none⟩=some (.int .i64 q.at_)/\j.cell? ⟨w.heap.size,2,none⟩=some (.int .i64 q.sym)/\j.cell? ⟨w.heap.size,3,none⟩=some (.int .i64 q.add) from⟨GZ4 _ _,v,o,I,H,y,G⟩)
  have a0:p<j.heap.size:=by omega
  have a1:w.heap.size<j.heap.size:=by omega
  clear o z8 K
  go_enter Tryz.func163,Tryz.ntmps163
  go_wp2_with (go_at_call 222;(with_reducible refine(Q.out).mono ?_);rintro e Z ⟨rfl,rfl⟩)
  obtain⟨i,k⟩:=Nm j
  subst k
  have U:=Hp (kM H0 (some p))
  have R:=a6
  clear v I H y G
  obtain⟨O,v,o,I,H,y,G⟩:=HZ.out
  have J:=o
  have g:=Hp (show fI i (fun f=>Below i.heap.size i f/\f.cell? ⟨p,9,none⟩=some (.string s)/\f.cell? ⟨p,7,none⟩=some (.int .i64 x.first)/\f.cell? ⟨w.heap.size,0,none⟩=some (.int .i64 q.kind)/\f.cell? ⟨w.heap.size,1,none⟩=some (.int .i64 q.at_)/\f.cell? ⟨w.heap.size,2,none⟩=some (.int .i64 q.sym)/\f.cell? ⟨w.heap.size,3,none⟩=some (.int .i64 q.add)) from dE (by repeat' first|(with_reducible exact bC.cell (by first|omega|(simp;omega)|(simp only[aA];omega)))|refine bC.and ?_ ?_))
  have a:=Hp (g.now ⟨GZ4 _ _,by assumption,by assumption,by assumption,by assumption,by assumption,by assumption⟩)
  have b:=Hp g.D
  have c:=Hp g.S
  have d:=Hp g.A
  have n:=Hp g.X
  have V:=Hp g.L
  have cB:=Hp (fun W(h:W.cell? ⟨p,7,none⟩=some (.int .i64 x.first))=>VL x p W h h0 h1)
  rw[a7.out]at cB
  clear v o I H y G J O
  go_region_held3 (fun f=>Below i.heap.size i f/\f.cell? ⟨p,9,none⟩=some (.string s)/\f.cell? ⟨p,7,none⟩=some (.int .i64 x.first)/\f.cell? ⟨w.heap.size,0,none⟩=some (.int .i64 q.kind)/\f.cell? ⟨w.heap.size,1,none⟩=some (.int .i64 q.at_)/\f.cell? ⟨w.heap.size,2,none⟩=some (.int .i64 q.sym)/\f.cell? ⟨w.heap.size,3,none⟩=some (.int .i64 q.add)) (first|exact a.out|exact b.out _ a.out|exact c.out _ _ (by assumption) (by assumption)|exact c.out _ _ a.out (by assumption)|exact c.out _ _ (b.out _ a.out) (by assumption)|exact c.out _ _ (b.out _ (by assumption)) (by assumption)|exact b.out _ (by assumption)|exact d.out _ _ (by assumption)|exact d.out _ _ a.out|exact d.out _ _ (b.out _ a.out)|exact b.out _ (d.out _ _ (by assumption))|exact d.out _ _ (c.out _ _ a.out (by assumption))|exact d.out _ _ (c.out _ _ (b.out _ a.out) (by assumption))|exact n.out _ _ _ _ (GZ3 _) (by assumption)|exact n.out _ _ _ _ (GZ3 _) (c.out _ _ (d.out _ _ a.out) (by assumption))|exact n.out _ _ _ _ (GZ3 _) (c.out _ _ (b.out _ (d.out _ _ a.out)) (by assumption))|assumption) (first|(go_at_call 222;(with_reducible refine(cB.out _ ?_).mono ?_);(first|exact a.out.2.2.1|exact(b.out _ a.out).2.2.1|exact(And.right (And.right (by assumption))).1);rintro e Z ⟨rfl,rfl⟩)|(go_at_call 223;(with_reducible refine(cA.out _).mono ?_);rintro e w3 ⟨rfl,a9⟩))
  have P:=V.out _ (by assumption)
  have Y:=Hp P
  have l:=Hp (R.kept P)
  have v:w3.cell? ⟨p,9,none⟩=some (.string s):=l.cell 9
  have a8:=l.frozen 9
  clear P
  go_wp2_with fail
  go_ret
  exact⟨rfl,l.put _,U.trans ((kM Y.out (some p)).trans (Ai _ p 9 _))⟩
 ·rw[if_neg t]at C
  obtain⟨m,hm⟩:∃m:Nat,q.sym=m:=⟨q.sym.toNat,by omega⟩
  have a3:m<r.length:=by omega
  have b4:(m:Int)<r.length:=by omega
  rw[hm]at C y t a2
  have t':decide (0<=(m:Int))=true:=by simp
  rw[Int.toNat_natCast,List.getD_eq_getElem?_getD,GY5 a3,Option.getD_some]at C
  obtain⟨ad,rfl,b5,i0⟩:=KR b0.out (GZ4 _ _) m a3
  rw[<-C]at i0
  rw[hm]at cA ⊢
  have a0:p<j.heap.size:=by omega
  have a1:w.heap.size<j.heap.size:=by omega
  have HQ:=Hp (And.intro v (And.intro o (And.intro I (And.intro H (And.intro y G)))))
  clear o v K C hq t hm I H G
  go_enter Tryz.func163,Tryz.ntmps163
  go_wp2_with (go_at_call 222;(with_reducible refine(Q.out).mono ?_);rintro e Z ⟨rfl,rfl⟩)
  go_quiet (fail)
  go_wp2_with fail
  obtain⟨i,k⟩:=Nm (j.drewN nq)
  rw[<-k]
  have U:=Hp (show w.grownBy i (some p) from k▸(kM (below_drewN H0.out nq) (some p)))
  have R:=Hp (show Lk i p x (some ad) r.length sC s from k▸a6.out)
  have HZ:=Hp (show Below i.heap.size i i/\i.cell? ⟨p,9,none⟩=some (.string s)/\i.cell? ⟨p,7,none⟩=some (.int .i64 x.first)/\i.cell? ⟨w.heap.size,0,none⟩=some (.int .i64 q.kind)/\i.cell? ⟨w.heap.size,1,none⟩=some (.int .i64 q.at_)/\i.cell? ⟨w.heap.size,2,none⟩=some (.int .i64 m)/\i.cell? ⟨w.heap.size,3,none⟩=some (.int .i64 q.add) from⟨GZ4 _ _,by subst k;exact HQ.out⟩)
  have b1:p<i.heap.size:=by rw[k];exact a0
  have b2:w.heap.size<i.heap.size:=by rw[k];exact a1
  clear k i0 z8 y
  obtain⟨O,v,o,I,H,y,G⟩:=HZ.out
  have J:=o
  have g:=Hp (show fI i (fun f=>Below i.heap.size i f/\f.cell? ⟨p,9,none⟩=some (.string s)/\f.cell? ⟨p,7,none⟩=some (.int .i64 x.first)/\f.cell? ⟨w.heap.size,0,none⟩=some (.int .i64 q.kind)/\f.cell? ⟨w.heap.size,1,none⟩=some (.int .i64 q.at_)/\f.cell? ⟨w.heap.size,2,none⟩=some (.int .i64 m)/\f.cell? ⟨w.heap.size,3,none⟩=some (.int .i64 q.add)) from dE (by repeat' first|(with_reducible exact bC.cell (by first|omega|(simp;omega)|(simp only[aA];omega)))|refine bC.and ?_ ?_))
  have a:=Hp (g.now ⟨GZ4 _ _,by assumption,by assumption,by assumption,by assumption,by assumption,by assumption⟩)
  have b:=Hp g.D
  have c:=Hp g.S
  have d:=Hp g.A
  have n:=Hp g.X
  have V:=Hp g.L
  have cB:=Hp (fun W(h:W.cell? ⟨p,7,none⟩=some (.int .i64 x.first))=>VL x p W h h0 h1)
  rw[a7.out]at cB
  clear v o I H y G J O
  go_region_held3 (fun f=>Below i.heap.size i f/\f.cell? ⟨p,9,none⟩=some (.string s)/\f.cell? ⟨p,7,none⟩=some (.int .i64 x.first)/\f.cell? ⟨w.heap.size,0,none⟩=some (.int .i64 q.kind)/\f.cell? ⟨w.heap.size,1,none⟩=some (.int .i64 q.at_)/\f.cell? ⟨w.heap.size,2,none⟩=some (.int .i64 m)/\f.cell? ⟨w.heap.size,3,none⟩=some (.int .i64 q.add)) (first|exact a.out|exact b.out _ a.out|exact c.out _ _ (by assumption) (by assumption)|exact c.out _ _ a.out (by assumption)|exact c.out _ _ (b.out _ a.out) (by assumption)|exact c.out _ _ (b.out _ (by assumption)) (by assumption)|exact b.out _ (by assumption)|exact d.out _ _ (by assumption)|exact d.out _ _ a.out|exact d.out _ _ (b.out _ a.out)|exact b.out _ (d.out _ _ (by assumption))|exact d.out _ _ (c.out _ _ a.out (by assumption))|exact d.out _ _ (c.out _ _ (b.out _ a.out) (by assumption))|exact n.out _ _ _ _ (GZ3 _) (by assumption)|exact n.out _ _ _ _ (GZ3 _) (c.out _ _ (d.out _ _ a.out) (by assumption))|exact n.out _ _ _ _ (GZ3 _) (c.out _ _ (b.out _ (d.out _ _ a.out)) (by assumption))|assumption) (first|(go_at_call 222;(with_reducible refine(cB.out _ ?_).mono ?_);(first|exact a.out.2.2.1|exact(b.out _ a.out).2.2.1|exact(And.right (And.right (by assumption))).1);rintro e Z ⟨rfl,rfl⟩)|(go_at_call 223;(with_reducible refine(cA.out _).mono ?_);rintro e w3 ⟨rfl,a9⟩))
  have P:=V.out _ (by assumption)
  have Y:=Hp P
  have l:=Hp (R.kept P)
  have v:w3.cell? ⟨p,9,none⟩=some (.string s):=l.cell 9
  have a8:=l.frozen 9
  clear P
  go_wp2_with fail
  go_ret
  exact⟨rfl,l.put _,U.trans ((kM Y.out (some p)).trans (Ai _ p 9 _))⟩
end
end Go.Proofs.YtjiedaialianmaaGreat
