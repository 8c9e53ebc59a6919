import Derived.Test.YtjiedaialianmaaGreatCPlays13
import Derived.Test.YtjiedaialianmaaGreatCPlays15
namespace Go.Proofs.YtjiedaialianmaaGreat
section
open Go
open Go.RowKit Go.Lib
open Gs (Tx)
theorem Al {S:List UInt8}:∀{n i:Nat}{r:List ByteArray}{e k:Nat}{b:List ByteArray}{d:Nat},fV S n i r e=some (k,b,d)->(∀s∈r,s.size<=800)->(∀s∈b,s.size<=800)/\b.length<=r.length+n
 |0,i,r,e,k,b,d,h,hr=>by
  simp only[fV,Option.some.injEq,Prod.mk.injEq]at h
  obtain⟨_,rfl,_⟩:=h
  exact⟨hr,GZ3 _⟩
 |n+1,i,r,e,k,b,d,h,hr=>by
  rw[fQ]at h
  split at h
  ·cases a:eU S (RV S i) r e with
   |none=>rw[a]at h;cases h
   |some p=>
    rw[a]at h
    have g:(∀s∈p.1,s.size<=800)/\p.1.length<=r.length+1:=by
     unfold eU at a
     split at a
     ·injection a with a;subst a;exact⟨hr,Nat.le_succ _⟩
     ·split at a
      ·cases a
      ·next l=>
       injection a with a;subst a
       refine⟨fun s c=>?_,by simp⟩
       rcases List.mem_append.1 c with c|c
       ·exact hr s c
       ·rw[List.mem_singleton.1 c]
        show((S.drop _).take _).toArray.size<=800
        simp only[List.size_toArray,GY6]
        omega
    obtain⟨f,j⟩:=Al (n:=n) h g.1
    exact⟨f,by omega⟩
  ·injection h with h
   injection h with _ h2
   injection h2 with h2 _
   subst h2
   exact⟨hr,by omega⟩
theorem kW (F:List ByteArray):(∀s∈bQ F,s.size<=800)/\(bQ F).length<=5000:=by
 unfold bQ
 by_cases h:bP F=0
 ·rw[if_pos h]
  have i:=fG h
  have e:=(fP.1 h).1.2
  unfold Re
  cases d:fV (flat F) ((flat F).length+1) 0 [] 0 with
  |none=>exact⟨by simp,by simp⟩
  |some p=>
   obtain⟨f,a,g⟩:=p
   obtain⟨c,b⟩:=Al d (by simp)
   refine⟨c,?_⟩
   show a.length<=5000
   simp only[List.length_nil]at b
   omega
 ·rw[if_neg h];exact⟨by simp,by simp⟩
theorem Bz :5000<=big:=by unfold big;omega
theorem rG (k:Krn)(f:Fl)(w:World)(b:k.ok w)(c:f.ok w):Calls Tryz.prog 20 #[k.v,f.v] w (U7 w (S9 k f.bl) k (reL k (bQ f.bl))):=
 Ay k f w b c (fun s a=>GY1 ((kW f.bl).1 s a) (GY1 (by omega) Bz)) (GY1 (kW f.bl).2 Bz)
theorem zP (k:Krn)(f:Fl)(b:Option Addr)(a:List Cm)(c:Nat)(w:World)(e:k.ok w)(g:f.ok w)(h:nE w b a):
  Calls Tryz.prog 18 #[k.v,f.v,.slice b a.length c] w (VY w (fD k f.bl a)):=
 OC k f b a c w e g (fun s d=>GY1 ((kW f.bl).1 s d) (GY1 (by omega) Bz)) (GY1 (kW f.bl).2 Bz) h
theorem Sv {w d:World}{E:Int}{k:Krn}{L:List Plc}{e:Ending}(h:U7 w E k L e d)(i:E=0->aZ k L=0):
  (∃c f b g,e=.returned (.tuple #[rgV c f b g,.int .i64 E])/\dL d c f b/\(E=0->c.bare=k.bare/\aD b=aD L)/\(E≠0->c.bare=Rk/\b=[]))/\Below w.heap.size w d:=by
 obtain⟨⟨c,f,b,g,j,a⟩,l⟩:=h
 refine⟨⟨c,f,b,g,j,?_,?_,?_⟩,l⟩
 ·by_cases t:E=0
  ·rw[t,wK0,wL0]at a
   exact uU a (i t)
  ·rw[wKE t,wLE t]at a
   have m:b=[]:=by have:=nY a.mods;exact GY9 this
   exact UQ.QB a (Sg d) (⟨Row.nil,Nat.zero_le _,by simp⟩:aU d none []) rfl
 ·intro t
  rw[t,wK0,wL0]at a
  exact⟨a.RU,a.mods⟩
 ·intro t
  rw[wKE t,wLE t]at a
  exact⟨a.RU,by have:=nY a.mods;exact GY9 this⟩
abbrev sbL :List Plc:=[⟨lW none none none 0 0 0,0⟩,⟨TH none none none 0 0 0,1⟩]
theorem II {l:List Plc}(h:aD l=aD sbL):l.length=2:=by have:=nY h;simpa using this
theorem Ku (A:Option Addr)(c:Nat)(z:Option Addr)(G:Nat)(o n m u t s:Option Addr)(l k j r q p:Nat)(W:World)(J:(RU A c).ok W)(K:nE W z (iU o n m u t s l k j r q p)):
  Calls Tryz.prog 19 #[rgV (RU A c) none [] 0,.slice z 4 G] W fun e d=>(∃a w b B i y,e=.returned (.tuple #[.agg #[.int .i64 a.major,.int .i64 a.minor,.slice a.eA a.ex.length a.eC,.slice w 2 B],.slice i 4 y,.int .i64 0])/\dL d a w b/\a.bare=(RU none 0).bare/\aD b=aD sbL/\b.length=2/\jN d i [0,0,4,0])/\Below W.heap.size W d:=by
 obtain⟨I,H⟩:=NA A c o n m u t s l k j r q p
 have g:=Be (A9 A c)
 have x:gV (RU A c) [] (iU o n m u t s l k j r q p).length=0:=by unfold gV;rw[g];rfl
 refine(K9 (RU A c) none 0 [] z (iU o n m u t s l k j r q p) G W J ⟨Row.nil,Nat.zero_le _,by simp⟩ K).mono ?_
 rintro e d ⟨⟨a,w,b,B,i,y,F,v,C⟩,L⟩
 have h:lZ (RU A c) [] (iU o n m u t s l k j r q p)=[0,0,4,0]:=by unfold lZ;rw[x,if_neg (by simp),I]
 rw[x,h]at F
 rw[h]at C
 rw[x,wK0,wL0]at v
 have D:aD b=aD sbL:=v.mods.trans (by rw[H];rfl)
 have E:=II D
 have f:jN d i [0,0,4,0]:=by have:=Reads.of_own C;rwa [qJ]at this
 exact⟨⟨a,w,b,B,i,y,by rw[F];unfold rgV;rw[E];rfl,uU v (lG _ g),v.RU.trans rfl,D,E,f⟩,L⟩
def sbF :List ByteArray:=List.replicate 10 blank
theorem Bp :bP sbF=0:=by kernel_rfl
theorem Gq :gZ sbF=0/\bQ sbF=[]:=by
 unfold gZ bQ
 rw[if_pos Bp,if_pos Bp,show Re (flat sbF)=some (0,[],0) from kR 10]
 exact⟨rfl,rfl⟩
structure Nq (F:List ByteArray):Prop where
 ok:bP F=0
 open_:gZ F=0
 like:∀k:Krn,k.bare=(RU none 0).bare->aD (reL k (bQ F))=aD sbL
theorem Ao (A:Option Addr)(c:Nat)(f:Fl)(H:Option Addr)(N:Nat)(j i h s r p:Option Addr)(g d b o n m:Nat)(W:World)(T:(RU A c).ok W)(U:f.ok W)(hF:f.bl=sbF)(V:nE W H (iU j i h s r p g d b o n m)):
  Calls Tryz.prog 18 #[(RU A c).v,f.v,.slice H 4 N] W fun e w=>(∃(u:Fl)(y:Option Addr)(x:Nat),e=.returned (.tuple #[u.v,.slice y 4 x,.int .i64 0])/\Rt w W.heap.size u u.bl/\Nq u.bl/\dN w W.heap.size (.slice y 4 x) [0,0,4,0])/\Below W.heap.size W w:=by
 obtain⟨I,O⟩:=NA A c j i h s r p g d b o n m
 have S:=Be (A9 A c)
 have K:=JInv.start Bp (kR 10)
 obtain⟨P,z⟩:=Ul (k:=RU A c) (iU j i h s r p g d b o n m) (l:=[]) K (by have:=Q7 j i h s r p g d b o n m;rw[fG Bp];show 0+5*0+Lf _+10<=128*10;omega)
 have C:=uD (k:=RU A c) (iU j i h s r p g d b o n m) (l:=[]) K
 have B:S9 (RU A c) sbF=0:=by unfold S9;rw[A9,Gq.1];rfl
 have G:fD (RU A c) sbF (iU j i h s r p g d b o n m)=RD (RU A c) [] sbF (iU j i h s r p g d b o n m):=by
  unfold fD
  rw[if_neg (by show¬40<4;omega),if_neg (by rw[B];simp),Gq.2];rfl
 refine(zP (RU A c) f H (iU j i h s r p g d b o n m) N W T U V).mono ?_
 rintro e w ⟨⟨u,y,x,L,t,J⟩,X⟩
 rw[hF,G,P,z,I]at L
 rw[hF,G]at t
 rw[hF,G,z,I]at J
 obtain⟨D,q,Z,F⟩:=C.inv
 rw[z,List.nil_append]at F
 obtain⟨R,Q⟩:=F.open_
 refine⟨⟨u,y,x,L,⟨t.own,t.cap,rfl⟩,⟨by rw[t.is];exact F.ok,by rw[t.is];exact R,fun k E=>?_⟩,J⟩,X⟩
 rw[t.is,Q]
 have M:=(mX (k:=RU A c) (iU j i h s r p g d b o n m) (eD (RU A c) [] (iU j i h s r p g d b o n m)) [] rfl).2
 rw[O]at M
 have Y:=(Bf (k:=k) (k':=RU A c) (E.trans rfl) (a:=gD ((SG (iU j i h s r p g d b o n m) (eD (RU A c) [] (iU j i h s r p g d b o n m))).map bytesOf)) (a':=gD ((SG (iU j i h s r p g d b o n m) (eD (RU A c) [] (iU j i h s r p g d b o n m))).map bytesOf)) (show aD ([]:List Plc)=aD [] from rfl) rfl).1
 exact Y.trans (M.trans rfl)
theorem UW (A:Option Addr)(c:Nat)(f:Fl)(W:World)(n:(RU A c).ok W)(o:f.ok W)(hF:Nq f.bl):
  Calls Tryz.prog 20 #[(RU A c).v,f.v] W fun e g=>(∃a d b j,e=.returned (.tuple #[.agg #[.int .i64 a.major,.int .i64 a.minor,.slice a.eA a.ex.length a.eC,.slice d 2 j],.int .i64 0])/\dL g a d b/\a.bare=(RU none 0).bare/\aD b=aD sbL/\b.length=2)/\Below W.heap.size W g:=by
 have i:S9 (RU A c) f.bl=0:=by unfold S9;rw[A9,hF.open_];rfl
 refine(rG (RU A c) f W n o).mono ?_
 intro e g h
 rw[i]at h
 obtain⟨⟨a,d,b,j,p,m,r,_⟩,q⟩:=Sv h (fun _=>oO (A9 A c) _)
 obtain⟨t,s⟩:=r rfl
 have k:aD b=aD sbL:=s.trans (hF.like _ rfl)
 have l:=II k
 exact⟨⟨a,d,b,j,by rw[p];unfold rgV;rw[l],m,t.trans rfl,k,l⟩,q⟩
end
section
open Go
set_option maxRecDepth 100000
set_option maxHeartbeats 8000000
open Go.RowKit Go.Lib
open Gs (Tx)
theorem Qm :lD 10=0:=by kernel_rfl
theorem IE (A a:Option Addr)(c b:Nat)(W:World)(h:jN W A [0,0,4,0])(f:jN W a [0,0,4,0]):Calls Tryz.prog 21 #[.slice A 4 c,.slice a 4 b] W fun e d=>e=.returned (.bool true)/\Below W.heap.size W d:=
 fO A a c b [0,0,4,0] W h f (by unfold big;simp)
theorem Oz (X:World):jN (X.alloc (.cells #[.int .i64 0,.int .i64 0,.int .i64 4,.int .i64 0] 30)) (some ⟨X.heap.size,0,none⟩) [0,0,4,0]:=Ry (enc:=fun n=>[iv n]) (k:=1) (fun _=>rfl) (heap_alloc_new X _) rfl
theorem Mc (X:World):jN (X.alloc (.cells #[.int .i64 0,.int .i64 0,.int .i64 4,.int .i64 0] 30)).drew (some ⟨X.heap.size,0,none⟩) [0,0,4,0]:=Oz X
theorem Mq {k a:Krn}{A f:Option Addr}{l b:List Plc}{c c':Nat}{W:World}(h:dL W k A l)(g:dL W a f b)(j:l.length=2)(d:b.length=2)(n:k.bare=a.bare)(m:aD l=aD b):
  Calls Tryz.prog 22 #[.agg #[.int .i64 k.major,.int .i64 k.minor,.slice k.eA k.ex.length k.eC,.slice A 2 c],.agg #[.int .i64 a.major,.int .i64 a.minor,.slice a.eA a.ex.length a.eC,.slice f 2 c']] W fun e i=>e=.returned (.bool true)/\Below W.heap.size W i:=by
 have:=Rw k a A f c c' l b W h.1 h.2 g.1 g.2 n m
 unfold rgV at this
 rwa [j,d]at this
theorem Mi (m:Mod)(W:World)(h:m.ok W)(b:gI m zeroMod):
  Calls Tryz.prog 66 #[.agg #[.int .i64 2,.string m.name,.int .i64 m.major,.int .i64 m.minor,.string m.text,.slice m.eA m.ex.length m.eC,.slice m.iA m.im.length m.iC,.slice m.pA m.pa.length m.pC,.string ⟨#[108,105,98]⟩],.agg #[.int .i64 2,.string ⟨#[]⟩,.int .i64 0,.int .i64 0,.string ⟨#[]⟩,.slice none 0 0,.slice none 0 0,.slice none 0 0,.string ⟨#[108,105,98]⟩]] W fun e a=>e=.returned (.bool true)/\Below W.heap.size W a:=
 nN ⟨2,m,⟨#[108,105,98]⟩⟩ ⟨2,zeroMod,⟨#[108,105,98]⟩⟩ W h (zero_ok W) (by show(⟨#[108,105,98]⟩:ByteArray).size<=big;decide) rfl b rfl
theorem QS :RL ⟨2,jB,⟨#[108,105,98]⟩⟩=0:=by kernel_rfl
theorem Oh :aS [2,108,105,98]=(0,⟨2,zeroMod,⟨#[108,105,98]⟩⟩):=by kernel_rfl
def BF (c:World)(p e:Value)(b:World):Prop:=
 ∃(a:Krn)(f:Option Addr)(d:List Plc)(g B:Nat),p=.pointer (some ⟨B,0,none⟩)/\e=.int .i64 0/\b.heap[B]? =some (.cells #[.int .i64 a.major,.int .i64 a.minor,.slice a.eA a.ex.length a.eC,.slice f 2 g] 39 (0,0))/\c.heap.size<=B/\dL b a f d/\a.bare=(RU none 0).bare/\aD d=aD sbL/\d.length=2/\Below c.heap.size c b
theorem BF.new {e b:World}{a:Krn}{d:Option Addr}{c:List Plc}{g:Nat}(f:Below e.heap.size e b)(h:dL b a d c)(l:a.bare=(RU none 0).bare)(k:aD c=aD sbL)(j:c.length=2):
  BF e (.pointer (some ⟨b.heap.size,0,none⟩)) (.int .i64 0) (b.alloc (.cells #[.int .i64 a.major,.int .i64 a.minor,.slice a.eA a.ex.length a.eC,.slice d 2 g] 39)):=by
 have i:Below b.heap.size b (b.alloc (.cells #[.int .i64 a.major,.int .i64 a.minor,.slice a.eA a.ex.length a.eC,.slice d 2 g] 39)):=ZB
 exact⟨a,d,c,g,_,rfl,rfl,heap_alloc_new _ _,f.size,h.below i,l,k,j,f.trans (i.mono f.size)⟩
theorem BF.old {c b:World}{a:Krn}{e:Option Addr}{d:List Plc}{g B:Nat}(f:b.heap[B]? =some (.cells #[.int .i64 0,.int .i64 0,.slice none 0 0,.slice none 0 0] 39 (0,0)))(j:c.heap.size<=B)(l:Below c.heap.size c b)(h:dL b a e d)(o:a.bare=(RU none 0).bare)(n:aD d=aD sbL)(m:d.length=2):
  BF c (.pointer (some ⟨B,0,none⟩)) (.int .i64 0) ((((b.setCell ⟨B,0,none⟩ (.int .i64 a.major)).setCell ⟨B,1,none⟩ (.int .i64 a.minor)).setCell ⟨B,2,none⟩ (.slice a.eA a.ex.length a.eC)).setCell ⟨B,3,none⟩ (.slice e 2 g)):=by
 obtain⟨k,i⟩:=gY f (.int .i64 a.major) (.int .i64 a.minor) (.slice a.eA a.ex.length a.eC) (.slice e 2 g)
 exact⟨a,e,d,g,B,rfl,rfl,k,j,h.other ⟨_,_,_,_,_,_,_,_,f⟩ i,o,n,m,l.trans ((i.below (GY2 (ZL f))).mono j)⟩
def uO (a:World)(p v e:Value)(b:World):Prop:=
 ∃(c:Fl)(f:Option Addr)(d B:Nat),p=.pointer (some ⟨B,0,none⟩)/\v=.slice f 4 d/\e=.int .i64 0/\b.heap[B]? =some (.cells (flA c) 29 (0,0))/\a.heap.size<=B/\Rt b a.heap.size c c.bl/\Nq c.bl/\dN b a.heap.size (.slice f 4 d) [0,0,4,0]/\Below a.heap.size a b
theorem Qi {b W a:World}{d:Fl}{g:Option Addr}{f:Nat}(c:Below b.heap.size b W)(e:Below W.heap.size W a)(h:Rt a W.heap.size d d.bl)(i:dN a W.heap.size (.slice g 4 f) [0,0,4,0]):Below b.heap.size b a/\Rt a b.heap.size d d.bl/\dN a b.heap.size (.slice g 4 f) [0,0,4,0]:=
 ⟨c.trans (e.mono c.size),h.down c.size,RH i c.size⟩
theorem uO.new {e d:World}{b:Fl}{i:Option Addr}{h:Nat}(f:Below e.heap.size e d)(j:Rt d e.heap.size b b.bl)(hF:Nq b.bl)(k:dN d e.heap.size (.slice i 4 h) [0,0,4,0]):
  uO e (.pointer (some ⟨d.heap.size,0,none⟩)) (.slice i 4 h) (.int .i64 0) (d.alloc (.cells #[.slice b.a b.bl.length b.c] 29)):=by
 have g:Below d.heap.size d (d.alloc (.cells #[.slice b.a b.bl.length b.c] 29)):=ZB
 exact⟨b,i,h,_,rfl,rfl,rfl,heap_alloc_new _ _,f.size,j.keep (Kp.of_below (ts:=[]) g) (by simp),hF,aO k g,f.trans (g.mono f.size)⟩
theorem uO.old {e d:World}{b:Fl}{g:Option Addr}{f B:Nat}{x:Value}(h:d.heap[B]? =some (.cells #[x] 29 (0,0)))(j:e.heap.size<=B)(m:Below e.heap.size e d)(k:Rt d e.heap.size b b.bl)(hF:Nq b.bl)(l:dN d e.heap.size (.slice g 4 f) [0,0,4,0]):
  uO e (.pointer (some ⟨B,0,none⟩)) (.slice g 4 f) (.int .i64 0) (d.setCell ⟨B,0,none⟩ (.slice b.a b.bl.length b.c)):=by
 have i:Kp [29] d (d.setCell ⟨B,0,none⟩ (.slice b.a b.bl.length b.c)):=Kp.set h (by simp) 0 _
 exact⟨b,g,f,B,rfl,rfl,rfl,heap_setCell_same d B 0 _ _ _ h,j,k.keep i (by decide),hF,own_kp l i (by decide),m.setCell (p:=⟨B,0,none⟩) j _⟩
theorem drop_at {l t:List Oper}{i:Nat}{o:Oper}(h:l.drop i=o::t):l.toArray[i]? =some o:=by
 rw[GZ2,<-List.head?_drop,h];rfl
theorem aM {P:Program}{f:Region.Mode}{l t:List Oper}{Q:Exit->Act->World->Prop}{S:World->Prop}{i:Nat}{e:Oper}{v:Value}{d:Nat}{b:Array Bool}{a:Act}{w:World}(n:l.drop i=e::t)
  (k:Region.noSelect l.toArray=true) (o:Region.free f l.toArray b i=true) (m:(Region.ready f l.toArray b).contains i=true)
  (q:∀c a w,Q (.panic c) (a.put e.dst v) w->Q (.panic c) a w) (j:Region.wanted e (yielded l.toArray a.tmps)=true) (g:∀w,S w->(execOp a.eval e).run P w=.ok (.value v) w) (p:S w)
  (h:wpAnyH P f l.toArray Q S d (b.setIfInBounds i true) (a.put e.dst v) w):wpAnyH P f l.toArray Q S (d+1) b a w:=
 wpAnyH_take (drop_at n) k o m q (.inl ⟨j,g⟩) p h
theorem TE {P:Program}{e:Region.Mode}{l t:List Oper}{Q:Exit->Act->World->Prop}{S:World->Prop}{i:Nat}{d:Oper}{c:Nat}{b:Array Bool}{a:Act}{w:World}(j:l.drop i=d::t)(g:Region.ready e l.toArray b=[i])
  (h:∀f:Act->World->Prop,Shut (∀a w,S w->(S w->wpAnyH P e l.toArray Q S c (b.setIfInBounds i true) a w)->f a w)->if Region.wanted d (yielded l.toArray a.tmps)=true then Oper.wp P d a w f Q else f (a.put d.dst undef) w):wpAnyH P e l.toArray Q S (c+1) b a w:=
 wpAnyH_ready g (by simp) (AllReadyH.cons (drop_at j) h AllReadyH.nil)
theorem dG (w:World):Calls Tryz.prog 12 #[] w fun e w'=>e=.returned (.bool true)/\Below w.heap.size w w':=by
 go_enter Tryz.func12,Tryz.ntmps12
 go_wp2_with fail
 refine(Sn _).mono ?_;rintro e w1 ⟨⟨A,c,rfl,n5⟩,k6⟩
 go_wp2_with fail
 refine(vB _).mono ?_;rintro e w2 ⟨⟨cA,cc,b1,b2,b3,a1,a2,a3,b4,b5,b6,a4,a5,a6,rfl,n6⟩,k5⟩
 have cR:=Hp (Ku A c cA cc b1 b2 b3 a1 a2 a3 b4 b5 b6 a4 a5 a6 w2 (n5.below k5) n6)
 have h6:=Hp (k6.trans (k5.mono k6.size))
 clear n5 k6 k5 n6
 go_wp2_with fail
 refine(cR.out).mono ?_;rintro e w3 ⟨⟨E,A3,l3,c3,T,o6,rfl,m9,n3,n2,n1,n0⟩,k4⟩
 obtain⟨w4,g7⟩:=Nm (w3.alloc (.cells #[.int .i64 E.major,.int .i64 E.minor,.slice E.eA E.ex.length E.eC,.slice A3 2 c3] 39))
 have h0:Below w3.heap.size w3 w4:=g7▸ZB
 have s8:=Hp (show w4.heap[w3.heap.size]? =some (.cells #[.int .i64 E.major,.int .i64 E.minor,.slice E.eA E.ex.length E.eC,.slice A3 2 c3] 39 (0,0)) by rw[g7];exact heap_alloc_new w3 _)
 have r8:=Hp (m9.below h0)
 have j3:=Hp (show jN w4 T [0,0,4,0] from Row.below n0 h0)
 have u8:=Hp n3
 have u6:=Hp n2
 have u4:=Hp n1
 have m4:=Hp (h6.trans ((k4.mono h6.size).trans (h0.mono (GY1 h6.size k4.size))))
 have m8:=g7.symm
 clear g7 k4 h0 m9 n3 n2 n1 n0 cR
 go_wp2_with fail
 have cF:=SL 10 w4
 rw[Qm]at cF
 refine cF.mono ?_;rintro e w5 ⟨k2,f5,rfl,j7⟩
 obtain⟨G,g0⟩:=Nm (w5.alloc (.cells #[.slice f5.a f5.bl.length f5.c] 29))
 have k1:Below w5.heap.size w5 G:=g0▸ZB
 have o3:f5.bl=sbF:=j7.is
 have h8:=j7.ok (.inr Bp)
 have R:=k2.trans (k1.mono k2.size)
 have l8:=Hp (show G.heap[w5.heap.size]? =some (.cells #[.slice f5.a f5.bl.length f5.c] 29 (0,0)) by rw[g0];exact heap_alloc_new w5 _)
 have l5:=Hp (h8.below k1)
 have l7:=Hp o3
 have s7:=Hp (aF R s8)
 have r7:=Hp (r8.below R)
 have j2:=Hp (show jN G T [0,0,4,0] from Row.below j3.out R)
 have m3:=Hp (m4.trans (R.mono m4.size))
 have l6:w5.heap.size<G.heap.size:=(ZL l8.out)
 have y6:=heap_cell l8.out 0
 simp only[GZ2,GZ0]at y6
 have h7:=g0.symm
 clear g0 k2 k1 R o3 h8 j7
 go_upto_region 3 with fail
 try rw[h7]
 have c2:=Hp (show fI G (fun g=>Below G.heap.size G g/\g.cell? ⟨w5.heap.size,0,none⟩=some (.slice f5.a f5.bl.length f5.c)) from dE (by repeat' first|(with_reducible exact bC.cell (by first|omega|(simp;omega)|(simp only[aA];omega)))|refine bC.and ?_ ?_))
 have r:=Hp (c2.now ⟨GZ4 _ _,by assumption⟩)
 have h5:=Hp c2.D
 have I:=Hp c2.S
 have U:=Hp c2.A
 have m1:=Hp c2.X
 have h4:=Hp c2.L
 go_cut [6,7,8] from 27 to 34 (fun p v e wx=>uO G p v e wx)
 case first=>
  have h2:=Hp (show∀g:World,Below (G.alloc (.cells #[.slice none 0 0] 29)).drew.heap.size (G.alloc (.cells #[.slice none 0 0] 29)).drew g->g.heap[G.heap.size]? =some (.cells #[.slice none 0 0] 29 (0,0)) from
   fun g Y=>(Y.block G.heap.size (by show G.heap.size<(G.alloc _).heap.size;simp)).trans (heap_alloc_new G _))
  have b9:=Hp (show∀M g:World,Below (M.alloc (.cells #[.slice none 0 0] 29)).heap.size (M.alloc (.cells #[.slice none 0 0] 29)) g->g.heap[M.heap.size]? =some (.cells #[.slice none 0 0] 29 (0,0)) from
   fun M g Y=>(Y.block M.heap.size (by simp)).trans (heap_alloc_new M _))
  have V:=Hp (show∀(W:World)(o:Obj),Below W.heap.size W (W.alloc o) from fun W o=>(GZ4 _ _).alloc (GZ3 _) o)
  go_region_held3 (fun g=>Below G.heap.size G g/\g.cell? ⟨w5.heap.size,0,none⟩=some (.slice f5.a f5.bl.length f5.c)) (first|with_reducible exact r.out|with_reducible exact h5.out _ r.out|with_reducible assumption|with_reducible exact I.out _ _ r.out n.out|with_reducible exact I.out _ _ r.out c4.out|with_reducible exact I.out _ _ r.out y.out|with_reducible exact U.out _ _ (h5.out _ r.out)|with_reducible exact U.out _ _ r.out|with_reducible exact h5.out _ (U.out _ _ r.out)|with_reducible exact U.out _ _ (I.out _ _ r.out n.out)|with_reducible exact U.out _ _ (I.out _ _ r.out c4.out)|with_reducible exact U.out _ _ (I.out _ _ r.out y.out)|with_reducible exact m1.out _ _ _ _ B.out (I.out _ _ r.out n.out)|with_reducible exact m1.out _ _ _ _ n.out.size (U.out _ _ (I.out _ _ r.out n.out))) (first
   |(go_at_call 69;(with_reducible refine(Sn _).mono ?_);rintro e w7 ⟨⟨A7,c7,rfl,j8⟩,b7⟩;have y:=Hp (mR (h4.out _ (by assumption)) b7);have e4:=Hp j8;(first|(have f0:=Hp (t0.out.below b7);have e3:=Hp j8;have f1:=Hp y.out)|(have f0:=Hp ((t0.out.below (V.out _ _)).below b7);have e3:=Hp j8;have f1:=Hp y.out)|skip);(first|(have f8:=aF b7 c5)|(have f8:=b9.out w8 w7 b7;have B:=Hp c4.out.size)|(have c5:=h2.out w7 b7;have B:=Hp (GZ3 G.heap.size))|skip))
   |(go_at_call 70;(with_reducible refine(vB _).mono ?_);rintro e w8 ⟨⟨o8,o7,d1,d2,d3,d4,d5,d6,g1,g2,g3,g4,g5,g6,rfl,k0⟩,b0⟩;have c4:=Hp (mR (h4.out _ (by assumption)) b0);have t0:=Hp k0;(first|(have e3:=Hp (e4.out.below b0);have f0:=Hp k0;have f1:=Hp c4.out)|(have e3:=Hp ((e4.out.below (V.out _ _)).below b0);have f0:=Hp k0;have f1:=Hp c4.out)|skip);(first|(have f8:=aF b0 c5)|(have f8:=b9.out w7 w8 b0;have B:=Hp y.out.size)|(have c5:=h2.out w8 b0;have B:=Hp (GZ3 G.heap.size))|skip))
   |(go_at_call 18;(first|(with_reducible refine(Ao A7 c7 f5 o8 o7 d1 d2 d3 d4 d5 d6 g1 g2 g3 g4 g5 g6 _ e3.out (l5.out.below f1.out) l7.out f0.out).mono ?_)|(with_reducible refine(Ao A7 c7 f5 o8 o7 d1 d2 d3 d4 d5 d6 g1 g2 g3 g4 g5 g6 _ (e3.out.below (V.out _ _)) ((l5.out.below f1.out).below (V.out _ _)) l7.out (f0.out.below (V.out _ _))).mono ?_));rintro e u ⟨⟨Z,b8,o5,rfl,g8,d8,g9⟩,C⟩;obtain⟨t9,t6,t7⟩:=Qi (h4.out _ (by assumption)) C g8 g9;have n:=Hp t9;have s0:=Hp t6;have s1:=Hp t7;have s9:=Hp d8;(first|(have q:=aF C f8;have z3:=heap_cell q 0;have f6:=heap_free q 0;simp only[GZ2,GZ0]at z3)|(have q:=b9.out w8 u C;have B:=Hp c4.out.size;have z3:=heap_cell q 0;have f6:=heap_free q 0;simp only[GZ2,GZ0]at z3)|(have q:=b9.out w7 u C;have B:=Hp y.out.size;have z3:=heap_cell q 0;have f6:=heap_free q 0;simp only[GZ2,GZ0]at z3)|skip)))
  all_goals(
   go_wp2_with fail
   go_meet
   first
    |exact uO.new n.out s0.out s9.out s1.out
    |exact uO.old q B.out n.out s0.out s9.out s1.out)
 case rest=>
  obtain⟨Z,b8,o5,B9,rfl,rfl,rfl,j9,u0,g8,d8,g9,C⟩:=hcut
  obtain⟨u,rfl⟩:=Nm wc
  have s6:=Hp (aF C s7)
  have r6:=Hp (r7.below C)
  have j1:=Hp (show jN u T [0,0,4,0] from Row.below j2.out C)
  have j4:=Hp (show jN u b8 [0,0,4,0] by have:=Reads.of_own g9;rwa [qJ]at this)
  have m2:=Hp (m3.trans (C.mono m3.size))
  have l4:=Hp (g8.ok (.inr d8.ok))
  have l0:=Hp d8
  have y9:=heap_cell j9 0
  have l9:B9<u.heap.size:=(ZL j9)
  simp only[GZ2,GZ0]at y9
  clear r h5 I U h4 m1 j9 u0 g8 d8 g9 C y6 l6 h7 m8 l8 l5 l7
  go_upto_region 4 with fail
  have c1:=Hp (show fI u (fun g=>Below u.heap.size u g/\g.cell? ⟨B9,0,none⟩=some (.slice Z.a Z.bl.length Z.c)) from dE (by repeat' first|(with_reducible exact bC.cell (by first|omega|(simp;omega)|(simp only[aA];omega)))|refine bC.and ?_ ?_))
  have x:=Hp (c1.now ⟨GZ4 _ _,by assumption⟩)
  have h3:=Hp c1.D
  have a7:=Hp c1.S
  have a8:=Hp c1.A
  have e0:=Hp c1.X
  have k8:=Hp c1.L
  go_cut [9,10] from 35 to 40 (fun p e wx=>BF u p e wx)
  case first=>
   have h2:=Hp (show∀g:World,Below (u.alloc (.cells #[.int .i64 0,.int .i64 0,.slice none 0 0,.slice none 0 0] 39)).drew.heap.size (u.alloc (.cells #[.int .i64 0,.int .i64 0,.slice none 0 0,.slice none 0 0] 39)).drew g->g.heap[u.heap.size]? =some (.cells #[.int .i64 0,.int .i64 0,.slice none 0 0,.slice none 0 0] 39 (0,0)) from
    fun g Y=>(Y.block u.heap.size (by show u.heap.size<(u.alloc _).heap.size;simp)).trans (heap_alloc_new u _))
   have b9:=Hp (show∀M g:World,Below (M.alloc (.cells #[.int .i64 0,.int .i64 0,.slice none 0 0,.slice none 0 0] 39)).heap.size (M.alloc (.cells #[.int .i64 0,.int .i64 0,.slice none 0 0,.slice none 0 0] 39)) g->g.heap[M.heap.size]? =some (.cells #[.int .i64 0,.int .i64 0,.slice none 0 0,.slice none 0 0] 39 (0,0)) from
    fun M g Y=>(Y.block M.heap.size (by simp)).trans (heap_alloc_new M _))
   have V:=Hp (show∀(W:World)(o:Obj),Below W.heap.size W (W.alloc o) from fun W o=>(GZ4 _ _).alloc (GZ3 _) o)
   have p9:=Hp (show∀(W:World),(Below u.heap.size u W/\W.cell? ⟨B9,0,none⟩=some (.slice Z.a Z.bl.length Z.c))->∀(b:Nat),u.heap.size<=b->∀v0 v1 v2 v3 M,M=(((W.setCell ⟨b,0,none⟩ v0).setCell ⟨b,1,none⟩ v1).setCell ⟨b,2,none⟩ v2).setCell ⟨b,3,none⟩ v3->(Below u.heap.size u M/\M.cell? ⟨B9,0,none⟩=some (.slice Z.a Z.bl.length Z.c)) from
    fun W hc b Y v0 v1 v2 v3 M e=>e▸e0.out _ b 3 v3 Y (e0.out _ b 2 v2 Y (e0.out _ b 1 v1 Y (e0.out _ b 0 v0 Y hc))))
   go_region_held3 (fun g=>Below u.heap.size u g/\g.cell? ⟨B9,0,none⟩=some (.slice Z.a Z.bl.length Z.c)) (first|with_reducible exact x.out|with_reducible exact h3.out _ x.out|with_reducible assumption|with_reducible exact a7.out _ _ x.out n.out|with_reducible exact a7.out _ _ x.out y.out|with_reducible exact a8.out _ _ (h3.out _ x.out)|with_reducible exact a8.out _ _ x.out|with_reducible exact h3.out _ (a8.out _ _ x.out)|with_reducible exact a8.out _ _ (a7.out _ _ x.out n.out)|with_reducible exact a8.out _ _ (a7.out _ _ x.out y.out)|with_reducible exact p9.out _ (a7.out _ _ x.out n.out) _ B.out _ _ _ _ _ rfl|with_reducible exact p9.out _ (a8.out _ _ (a7.out _ _ x.out n.out)) _ n.out.size _ _ _ _ _ rfl) (first
    |(go_at_call 69;(with_reducible refine(Sn _).mono ?_);rintro e m7 ⟨⟨t1,o9,rfl,n4⟩,i2⟩;have y:=Hp (mR (k8.out _ (by assumption)) i2);have e4:=Hp n4;(first|(have c5:=h2.out m7 i2;have B:=Hp (GZ3 u.heap.size))|skip))
    |(go_at_call 20;(first|(with_reducible refine(UW t1 o9 Z _ e4.out (l4.out.below y.out) l0.out).mono ?_)|(with_reducible refine(UW t1 o9 Z _ (e4.out.below (V.out _ _)) ((l4.out.below y.out).below (V.out _ _)) l0.out).mono ?_));rintro e f7 ⟨⟨z,m5,t5,h1,rfl,N,Q,P,O⟩,l⟩;have n:=Hp (mR (k8.out _ (by assumption)) l);have r5:=Hp N;have s5:=Hp Q;have s4:=Hp P;have s2:=Hp O;clear N Q P O;(first|(have q:=aF l c5;obtain⟨_,z0,z1,z2,z3,t4,t3,t2,f6⟩:=aB q)|(have q:=b9.out m7 f7 l;have B:=Hp y.out.size;obtain⟨_,z0,z1,z2,z3,t4,t3,t2,f6⟩:=aB q)|skip)))
   all_goals(
    go_wp2_with fail
    go_meet
    first
     |exact BF.new n.out r5.out s5.out s4.out s2.out
     |exact BF.old q B.out n.out r5.out s5.out s4.out s2.out)
  case rest=>
   obtain⟨z,m5,t5,h1,J,rfl,rfl,h9,o4,N,Q,P,O,l⟩:=hcut
   obtain⟨f7,rfl⟩:=Nm wc
   have j0:=Hp (aF l s6)
   have i7:=Hp (r6.below l)
   have e7:=Hp (show jN f7 T [0,0,4,0] from Row.below j1.out l)
   have e9:=Hp (show jN f7 b8 [0,0,4,0] from Row.below j4.out l)
   have f4:=Hp (m2.trans (l.mono m2.size))
   have i5:=Hp h9
   have e2:=Hp N
   have u7:=Hp Q
   have u5:=Hp P
   have u3:=Hp O
   clear x h3 a7 a8 k8 e0 h9 o4 N Q P O l y9 l9 l4 l0
   go_upto_region 5 with fail
   go_wp2_with fail
   refine(vB _).mono ?_;rintro e m6 ⟨⟨cA,cc,b1,b2,b3,a1,a2,a3,b4,b5,b6,a4,a5,a6,rfl,i0⟩,t⟩
   obtain⟨ad,rfl,k7,p0,p1,p2,p3,p4,p5,p6,p7,p8⟩:=Jv i0.row (GZ4 _ _) 2 (by show 2<4;omega)
   have u9:=Hp k7
   simp[Addr.add]at p0 p1 p2 p3 p4 p5 p6 p7 p8
   simp only[iU,jB,List.getElem_cons_succ,List.getElem_cons_zero,List.length_nil]at p0 p1 p2 p3 p4 p5 p6 p7 p8
   have cE:=Hp (show∀W,Calls Tryz.prog 61 #[.agg #[.int .i64 2,.string ⟨#[]⟩,.int .i64 0,.int .i64 0,.string ⟨#[]⟩,.slice none 0 0,.slice none 0 0,.slice none 0 0,.string ⟨#[108,105,98]⟩]] W fun e w'=>e=.returned (.tuple #[.string ⟨#[2,108,105,98]⟩,.int .i64 0])/\Below W.heap.size W w' from fun W=>
    (yD ⟨2,jB,⟨#[108,105,98]⟩⟩ W (zero_ok _) (by show(⟨#[108,105,98]⟩:ByteArray).size<=big;decide)).mono (by
     rintro e w' ⟨rfl,Y⟩
     exact⟨by rw[QS,if_neg (by simp),NB],Y⟩))
   have cD:=Hp (show∀W,Calls Tryz.prog 62 #[.string ⟨#[2,108,105,98]⟩] W fun e w'=>(∃m:Mod,e=.returned (.tuple #[.agg #[.int .i64 2,.string m.name,.int .i64 m.major,.int .i64 m.minor,.string m.text,.slice m.eA m.ex.length m.eC,.slice m.iA m.im.length m.iC,.slice m.pA m.pa.length m.pC,.string ⟨#[108,105,98]⟩],.int .i64 0])/\m.ok w'/\gI m zeroMod)/\Below W.heap.size W w' from fun W=>
    (nQ [2,108,105,98] W (by unfold big;simp)).mono (by
     rintro e w' ⟨⟨m,rfl,t8,_,hs⟩,Y⟩
     rw[Oh]at hs ⊢
     exact⟨⟨m,rfl,t8,hs⟩,Y⟩))
   have d7:=f4.trans (t.mono f4.size)
   have i9:=Hp (aF t j0)
   have i6:=Hp (i7.below t)
   have e6:=Hp (show jN m6 T [0,0,4,0] from Row.below e7.out t)
   have e8:=Hp (show jN m6 b8 [0,0,4,0] from Row.below e9.out t)
   have f3:=Hp d7
   have i4:=Hp (aF t i5)
   have e1:=Hp (e2.below t)
   clear t i0 k7 d7
   go_wp2_with fail
   refine(cE.out _).mono ?_;rintro e v9 ⟨rfl,i1⟩
   have f2:=Hp i1
   clear i1 p0 p1 p2 p3 p4 p5 p6 p7 p8 cE
   go_wp2_with fail
   refine(cD.out _).mono ?_;rintro e j ⟨⟨m,rfl,c8,c6⟩,d0⟩
   obtain⟨s,a9⟩:=Nm (j.alloc (.cells (cmA ⟨2,m,⟨#[108,105,98]⟩⟩) 102))
   have c9:Below j.heap.size j s:=a9▸ZB
   have k:=f2.trans ((d0.trans (c9.mono d0.size)).mono f2.size)
   have i8:=Hp (aF k i9)
   have r9:=Hp (i6.below k)
   have e5:=Hp (show jN s T [0,0,4,0] from Row.below e6.out k)
   have m0:=Hp (show jN s b8 [0,0,4,0] from Row.below e8.out k)
   have j6:=Hp (f3.trans (k.mono f3.size))
   have i3:=Hp (aF k i4)
   have k9:=Hp (e1.below k)
   have j5:=Hp (show s.heap[j.heap.size]? =some (.cells (cmA ⟨2,m,⟨#[108,105,98]⟩⟩) 102 (0,0)) by rw[a9];exact heap_alloc_new j _)
   have s3:=Hp (c8.below c9)
   have u2:=Hp c6
   clear d0 c9 k c8 c6 cD f2 i9 i6 e6 e8 f3 i4 e1 j0 i7 e7 e9 f4 i5 e2 s6 r6 j1 j4 m2 s7 r7 j2 m3 s8 r8 j3 m4 h6 u9
   go_upto_region 7 with fail
   rw[show j.alloc (.cells #[.int .i64 2,.string m.name,.int .i64 m.major,.int .i64 m.minor,.string m.text,.slice m.eA m.ex.length m.eC,.slice m.iA m.im.length m.iC,.slice m.pA m.pa.length m.pC,.string ⟨#[108,105,98]⟩] 102)=s from a9.symm]
   clear a9
   obtain⟨_,r0,r1,r2,r3,_⟩:=aB i8.out
   obtain⟨_,y0,y1,y2,y3,_⟩:=aB i3.out
   obtain⟨q0,q1,q2,q3,q4,q5,q6,q7,q8⟩:=dJ j5.out
   have l1:w3.heap.size<s.heap.size:=(ZL i8.out)
   have l2:J<s.heap.size:=(ZL i3.out)
   have l3:j.heap.size<s.heap.size:=(ZL j5.out)
   have c0:=Hp (show fI s (fun g=>Below s.heap.size s g/\g.cell? ⟨w3.heap.size,0,none⟩=some (.int .i64 E.major)/\g.cell? ⟨w3.heap.size,1,none⟩=some (.int .i64 E.minor)/\g.cell? ⟨w3.heap.size,2,none⟩=some (.slice E.eA E.ex.length E.eC)/\g.cell? ⟨w3.heap.size,3,none⟩=some (.slice A3 2 c3)/\g.cell? ⟨J,0,none⟩=some (.int .i64 z.major)/\g.cell? ⟨J,1,none⟩=some (.int .i64 z.minor)/\g.cell? ⟨J,2,none⟩=some (.slice z.eA z.ex.length z.eC)/\g.cell? ⟨J,3,none⟩=some (.slice m5 2 h1)/\g.cell? ⟨j.heap.size,0,none⟩=some (.int .i64 2)/\g.cell? ⟨j.heap.size,1,none⟩=some (.string m.name)/\g.cell? ⟨j.heap.size,2,none⟩=some (.int .i64 m.major)/\g.cell? ⟨j.heap.size,3,none⟩=some (.int .i64 m.minor)/\g.cell? ⟨j.heap.size,4,none⟩=some (.string m.text)/\g.cell? ⟨j.heap.size,5,none⟩=some (.slice m.eA m.ex.length m.eC)/\g.cell? ⟨j.heap.size,6,none⟩=some (.slice m.iA m.im.length m.iC)/\g.cell? ⟨j.heap.size,7,none⟩=some (.slice m.pA m.pa.length m.pC)/\g.cell? ⟨j.heap.size,8,none⟩=some (.string ⟨#[108,105,98]⟩)) from dE (by repeat' first|(with_reducible exact bC.cell (by first|omega|(simp;omega)|(simp only[aA];omega)))|refine bC.and ?_ ?_))
   have r4:=Hp (c0.now ⟨GZ4 _ _,by assumption,by assumption,by assumption,by assumption,by assumption,by assumption,by assumption,by assumption,by assumption,by assumption,by assumption,by assumption,by assumption,by assumption,by assumption,by assumption,by assumption⟩)
   have q9:=Hp c0.D
   have d9:=Hp c0.S
   have u1:=Hp c0.A
   have w0:=Hp c0.X
   have a0:=Hp c0.L
   refine wp_region_held_drew (S:=fun g=>Below s.heap.size s g/\g.cell? ⟨w3.heap.size,0,none⟩=some (.int .i64 E.major)/\g.cell? ⟨w3.heap.size,1,none⟩=some (.int .i64 E.minor)/\g.cell? ⟨w3.heap.size,2,none⟩=some (.slice E.eA E.ex.length E.eC)/\g.cell? ⟨w3.heap.size,3,none⟩=some (.slice A3 2 c3)/\g.cell? ⟨J,0,none⟩=some (.int .i64 z.major)/\g.cell? ⟨J,1,none⟩=some (.int .i64 z.minor)/\g.cell? ⟨J,2,none⟩=some (.slice z.eA z.ex.length z.eC)/\g.cell? ⟨J,3,none⟩=some (.slice m5 2 h1)/\g.cell? ⟨j.heap.size,0,none⟩=some (.int .i64 2)/\g.cell? ⟨j.heap.size,1,none⟩=some (.string m.name)/\g.cell? ⟨j.heap.size,2,none⟩=some (.int .i64 m.major)/\g.cell? ⟨j.heap.size,3,none⟩=some (.int .i64 m.minor)/\g.cell? ⟨j.heap.size,4,none⟩=some (.string m.text)/\g.cell? ⟨j.heap.size,5,none⟩=some (.slice m.eA m.ex.length m.eC)/\g.cell? ⟨j.heap.size,6,none⟩=some (.slice m.iA m.im.length m.iC)/\g.cell? ⟨j.heap.size,7,none⟩=some (.slice m.pA m.pa.length m.pC)/\g.cell? ⟨j.heap.size,8,none⟩=some (.string ⟨#[108,105,98]⟩)) (by kernel_rfl) (q9.out _ r4.out) (fun d=>?_)
   refine aM (i:=0) (v:=?_) rfl (by kernel_rfl) (by kernel_rfl) (by kernel_rfl) (fun _ _ _ h=>h) (by rfl) ?_ d ?_
   rotate_left
   ·(intro w f;(try dsimp only at f);go_simp;(try with_reducible rfl))
   try simp only[Act.put,GZ7,GZ5,GZ6]
   refine aM (i:=1) (v:=?_) rfl (by kernel_rfl) (by kernel_rfl) (by kernel_rfl) (fun _ _ _ h=>h) (by rfl) ?_ d ?_
   rotate_left
   ·(intro w f;(try dsimp only at f);go_simp;(try with_reducible rfl))
   try simp only[Act.put,GZ7,GZ5,GZ6]
   refine aM (i:=2) (v:=?_) rfl (by kernel_rfl) (by kernel_rfl) (by kernel_rfl) (fun _ _ _ h=>h) (by rfl) ?_ d ?_
   rotate_left
   ·(intro w f;(try dsimp only at f);go_simp;(try with_reducible rfl))
   try simp only[Act.put,GZ7,GZ5,GZ6]
   refine aM (i:=3) (v:=?_) rfl (by kernel_rfl) (by kernel_rfl) (by kernel_rfl) (fun _ _ _ h=>h) (by rfl) ?_ d ?_
   rotate_left
   ·(intro w f;(try dsimp only at f);go_simp;(try with_reducible rfl))
   try simp only[Act.put,GZ7,GZ5,GZ6]
   refine aM (i:=4) (v:=?_) rfl (by kernel_rfl) (by kernel_rfl) (by kernel_rfl) (fun _ _ _ h=>h) (by rfl) ?_ d ?_
   rotate_left
   ·(intro w f;(try dsimp only at f);go_simp;(try with_reducible rfl))
   try simp only[Act.put,GZ7,GZ5,GZ6]
   refine aM (i:=5) (v:=?_) rfl (by kernel_rfl) (by kernel_rfl) (by kernel_rfl) (fun _ _ _ h=>h) (by rfl) ?_ d ?_
   rotate_left
   ·(intro w f;(try dsimp only at f);go_simp;(try with_reducible rfl))
   try simp only[Act.put,GZ7,GZ5,GZ6]
   refine aM (i:=6) (v:=?_) rfl (by kernel_rfl) (by kernel_rfl) (by kernel_rfl) (fun _ _ _ h=>h) (by rfl) ?_ d ?_
   rotate_left
   ·(intro w f;(try dsimp only at f);go_simp;(try with_reducible rfl))
   try simp only[Act.put,GZ7,GZ5,GZ6]
   refine aM (i:=7) (v:=?_) rfl (by kernel_rfl) (by kernel_rfl) (by kernel_rfl) (fun _ _ _ h=>h) (by rfl) ?_ d ?_
   rotate_left
   ·(intro w f;(try dsimp only at f);go_simp;(try with_reducible rfl))
   try simp only[Act.put,GZ7,GZ5,GZ6]
   refine aM (i:=8) (v:=?_) rfl (by kernel_rfl) (by kernel_rfl) (by kernel_rfl) (fun _ _ _ h=>h) (by rfl) ?_ d ?_
   rotate_left
   ·(intro w f;(try dsimp only at f);go_simp;(try with_reducible rfl))
   try simp only[Act.put,GZ7,GZ5,GZ6]
   refine aM (i:=9) (v:=?_) rfl (by kernel_rfl) (by kernel_rfl) (by kernel_rfl) (fun _ _ _ h=>h) (by rfl) ?_ d ?_
   rotate_left
   ·(intro w f;(try dsimp only at f);go_simp;(try with_reducible rfl))
   try simp only[Act.put,GZ7,GZ5,GZ6]
   refine aM (i:=10) (v:=?_) rfl (by kernel_rfl) (by kernel_rfl) (by kernel_rfl) (fun _ _ _ h=>h) (by rfl) ?_ d ?_
   rotate_left
   ·(intro w f;(try dsimp only at f);go_simp;(try with_reducible rfl))
   try simp only[Act.put,GZ7,GZ5,GZ6]
   refine aM (i:=11) (v:=?_) rfl (by kernel_rfl) (by kernel_rfl) (by kernel_rfl) (fun _ _ _ h=>h) (by rfl) ?_ d ?_
   rotate_left
   ·(intro w f;(try dsimp only at f);go_simp;(try with_reducible rfl))
   try simp only[Act.put,GZ7,GZ5,GZ6]
   refine aM (i:=12) (v:=?_) rfl (by kernel_rfl) (by kernel_rfl) (by kernel_rfl) (fun _ _ _ h=>h) (by rfl) ?_ d ?_
   rotate_left
   ·(intro w f;(try dsimp only at f);go_simp;(try with_reducible rfl))
   try simp only[Act.put,GZ7,GZ5,GZ6]
   refine aM (i:=13) (v:=?_) rfl (by kernel_rfl) (by kernel_rfl) (by kernel_rfl) (fun _ _ _ h=>h) (by rfl) ?_ d ?_
   rotate_left
   ·(intro w f;(try dsimp only at f);go_simp;(try with_reducible rfl))
   try simp only[Act.put,GZ7,GZ5,GZ6]
   refine aM (i:=14) (v:=?_) rfl (by kernel_rfl) (by kernel_rfl) (by kernel_rfl) (fun _ _ _ h=>h) (by rfl) ?_ d ?_
   rotate_left
   ·(intro w f;(try dsimp only at f);go_simp;(try with_reducible rfl))
   try simp only[Act.put,GZ7,GZ5,GZ6]
   refine aM (i:=15) (v:=?_) rfl (by kernel_rfl) (by kernel_rfl) (by kernel_rfl) (fun _ _ _ h=>h) (by rfl) ?_ d ?_
   rotate_left
   ·(intro w f;(try dsimp only at f);go_simp;(try with_reducible rfl))
   try simp only[Act.put,GZ7,GZ5,GZ6]
   refine aM (i:=16) (v:=?_) rfl (by kernel_rfl) (by kernel_rfl) (by kernel_rfl) (fun _ _ _ h=>h) (by rfl) ?_ d ?_
   rotate_left
   ·(intro w f;(try dsimp only at f);go_simp;(try with_reducible rfl))
   try simp only[Act.put,GZ7,GZ5,GZ6]
   refine aM (i:=17) (v:=?_) rfl (by kernel_rfl) (by kernel_rfl) (by kernel_rfl) (fun _ _ _ h=>h) (by rfl) ?_ d ?_
   rotate_left
   ·(intro w f;(try dsimp only at f);go_simp;(try with_reducible rfl))
   try simp only[Act.put,GZ7,GZ5,GZ6]
   refine aM (i:=18) (v:=?_) rfl (by kernel_rfl) (by kernel_rfl) (by kernel_rfl) (fun _ _ _ h=>h) (by rfl) ?_ d ?_
   rotate_left
   ·(intro w f;(try dsimp only at f);go_simp;(try with_reducible rfl))
   try simp only[Act.put,GZ7,GZ5,GZ6]
   refine aM (i:=19) (v:=?_) rfl (by kernel_rfl) (by kernel_rfl) (by kernel_rfl) (fun _ _ _ h=>h) (by rfl) ?_ d ?_
   rotate_left
   ·(intro w f;(try dsimp only at f);go_simp;(try with_reducible rfl))
   try simp only[Act.put,GZ7,GZ5,GZ6]
   refine aM (i:=20) (v:=?_) rfl (by kernel_rfl) (by kernel_rfl) (by kernel_rfl) (fun _ _ _ h=>h) (by rfl) ?_ d ?_
   rotate_left
   ·(intro w f;(try dsimp only at f);go_simp;(try with_reducible rfl))
   try simp only[Act.put,GZ7,GZ5,GZ6]
   refine aM (i:=21) (v:=?_) rfl (by kernel_rfl) (by kernel_rfl) (by kernel_rfl) (fun _ _ _ h=>h) (by rfl) ?_ d ?_
   rotate_left
   ·(intro w f;(try dsimp only at f);go_simp;(try with_reducible rfl))
   try simp only[Act.put,GZ7,GZ5,GZ6]
   refine aM (i:=22) (v:=?_) rfl (by kernel_rfl) (by kernel_rfl) (by kernel_rfl) (fun _ _ _ h=>h) (by rfl) ?_ d ?_
   rotate_left
   ·(intro w f;(try dsimp only at f);go_simp;(try with_reducible rfl))
   try simp only[Act.put,GZ7,GZ5,GZ6]
   refine aM (i:=23) (v:=?_) rfl (by kernel_rfl) (by kernel_rfl) (by kernel_rfl) (fun _ _ _ h=>h) (by rfl) ?_ d ?_
   rotate_left
   ·(intro w f;(try dsimp only at f);go_simp;(try with_reducible rfl))
   try simp only[Act.put,GZ7,GZ5,GZ6]
   refine aM (i:=24) (v:=?_) rfl (by kernel_rfl) (by kernel_rfl) (by kernel_rfl) (fun _ _ _ h=>h) (by rfl) ?_ d ?_
   rotate_left
   ·(intro w f;(try dsimp only at f);go_simp;(try with_reducible rfl))
   try simp only[Act.put,GZ7,GZ5,GZ6]
   refine aM (i:=25) (v:=?_) rfl (by kernel_rfl) (by kernel_rfl) (by kernel_rfl) (fun _ _ _ h=>h) (by rfl) ?_ d ?_
   rotate_left
   ·(intro w f;(try dsimp only at f);go_simp;(try with_reducible rfl))
   try simp only[Act.put,GZ7,GZ5,GZ6]
   refine aM (i:=26) (v:=?_) rfl (by kernel_rfl) (by kernel_rfl) (by kernel_rfl) (fun _ _ _ h=>h) (by rfl) ?_ d ?_
   rotate_left
   ·(intro w f;(try dsimp only at f);go_simp;(try with_reducible rfl))
   try simp only[Act.put,GZ7,GZ5,GZ6]
   refine aM (i:=27) (v:=?_) rfl (by kernel_rfl) (by kernel_rfl) (by kernel_rfl) (fun _ _ _ h=>h) (by rfl) ?_ d ?_
   rotate_left
   ·(intro w f;(try dsimp only at f);go_simp;(try with_reducible rfl))
   try simp only[Act.put,GZ7,GZ5,GZ6]
   refine aM (i:=28) (v:=?_) rfl (by kernel_rfl) (by kernel_rfl) (by kernel_rfl) (fun _ _ _ h=>h) (by rfl) ?_ d ?_
   rotate_left
   ·(intro w f;(try dsimp only at f);go_simp;(try with_reducible rfl))
   try simp only[Act.put,GZ7,GZ5,GZ6]
   refine aM (i:=29) (v:=?_) rfl (by kernel_rfl) (by kernel_rfl) (by kernel_rfl) (fun _ _ _ h=>h) (by rfl) ?_ d ?_
   rotate_left
   ·(intro w f;(try dsimp only at f);go_simp;(try with_reducible rfl))
   try simp only[Act.put,GZ7,GZ5,GZ6]
   refine TE (i:=30) rfl (by kernel_rfl) (fun K F=>?_)
   clear d
   go_simp
   refine F.out _ _ (by exact u1.out _ _ (q9.out _ r4.out)) (fun d=>?_)
   clear F K
   try simp only[Act.put,GZ7,GZ5,GZ6]
   refine TE (i:=31) rfl (by kernel_rfl) (fun K F=>?_)
   go_simp
   go_at_call 21
   with_reducible refine(IE T (some ⟨_,0,none⟩) o6 4 _ (Row.below e5.out (a0.out _ d)) (Mc _)).mono ?_
   rintro e v8 ⟨rfl,o2⟩
   have H:=d9.out _ _ d o2
   clear d
   refine F.out _ _ (by exact H) (fun d=>?_)
   clear F K
   try simp only[Act.put,GZ7,GZ5,GZ6]
   refine aM (i:=32) (v:=?_) rfl (by kernel_rfl) (by kernel_rfl) (by kernel_rfl) (fun _ _ _ h=>h) (by rfl) ?_ d ?_
   rotate_left
   ·(intro w f;(try dsimp only at f);go_simp;(try with_reducible rfl))
   try simp only[Act.put,GZ7,GZ5,GZ6]
   refine aM (i:=33) (v:=?_) rfl (by kernel_rfl) (by kernel_rfl) (by kernel_rfl) (fun _ _ _ h=>h) (by rfl) ?_ d ?_
   rotate_left
   ·(intro w f;(try dsimp only at f);go_simp;(try with_reducible rfl))
   try simp only[Act.put,GZ7,GZ5,GZ6]
   refine aM (i:=34) (v:=?_) rfl (by kernel_rfl) (by kernel_rfl) (by kernel_rfl) (fun _ _ _ h=>h) (by rfl) ?_ d ?_
   rotate_left
   ·(intro w f;(try dsimp only at f);go_simp;(try with_reducible rfl))
   try simp only[Act.put,GZ7,GZ5,GZ6]
   refine aM (i:=35) (v:=?_) rfl (by kernel_rfl) (by kernel_rfl) (by kernel_rfl) (fun _ _ _ h=>h) (by rfl) ?_ d ?_
   rotate_left
   ·(intro w f;(try dsimp only at f);go_simp;(try with_reducible rfl))
   try simp only[Act.put,GZ7,GZ5,GZ6]
   refine TE (i:=36) rfl (by kernel_rfl) (fun K F=>?_)
   go_simp
   go_at_call 21
   with_reducible refine(IE T b8 o6 o5 _ (Row.below e5.out (a0.out _ d)) (Row.below m0.out (a0.out _ d))).mono ?_
   rintro e v7 ⟨rfl,o1⟩
   have H:=d9.out _ _ d o1
   clear d
   refine F.out _ _ (by exact H) (fun d=>?_)
   clear F K
   try simp only[Act.put,GZ7,GZ5,GZ6]
   refine aM (i:=37) (v:=?_) rfl (by kernel_rfl) (by kernel_rfl) (by kernel_rfl) (fun _ _ _ h=>h) (by rfl) ?_ d ?_
   rotate_left
   ·(intro w f;(try dsimp only at f);go_simp;(try with_reducible rfl))
   try simp only[Act.put,GZ7,GZ5,GZ6]
   refine aM (i:=38) (v:=?_) rfl (by kernel_rfl) (by kernel_rfl) (by kernel_rfl) (fun _ _ _ h=>h) (by rfl) ?_ d ?_
   rotate_left
   ·(intro w f;(try dsimp only at f);go_simp;(try with_reducible rfl))
   try simp only[Act.put,GZ7,GZ5,GZ6]
   refine aM (i:=39) (v:=?_) rfl (by kernel_rfl) (by kernel_rfl) (by kernel_rfl) (fun _ _ _ h=>h) (by rfl) ?_ d ?_
   rotate_left
   ·(intro w f;(try dsimp only at f);go_simp;(try with_reducible rfl))
   try simp only[Act.put,GZ7,GZ5,GZ6]
   refine aM (i:=40) (v:=?_) rfl (by kernel_rfl) (by kernel_rfl) (by kernel_rfl) (fun _ _ _ h=>h) (by rfl) ?_ d ?_
   rotate_left
   ·(intro w f;(try dsimp only at f);go_simp;(try with_reducible rfl))
   try simp only[Act.put,GZ7,GZ5,GZ6]
   refine TE (i:=41) rfl (by kernel_rfl) (fun K F=>?_)
   go_simp
   go_at_call 22
   with_reducible refine(Mq (c:=c3) (c':=h1) (r9.out.below (a0.out _ d)) (k9.out.below (a0.out _ d)) u4.out u3.out (u8.out.trans u7.out.symm) (u6.out.trans u5.out.symm)).mono ?_
   rintro e v6 ⟨rfl,o0⟩
   have H:=d9.out _ _ d o0
   clear d
   refine F.out _ _ (by exact H) (fun d=>?_)
   clear F K
   try simp only[Act.put,GZ7,GZ5,GZ6]
   refine aM (i:=42) (v:=?_) rfl (by kernel_rfl) (by kernel_rfl) (by kernel_rfl) (fun _ _ _ h=>h) (by rfl) ?_ d ?_
   rotate_left
   ·(intro w f;(try dsimp only at f);go_simp;(try with_reducible rfl))
   try simp only[Act.put,GZ7,GZ5,GZ6]
   refine aM (i:=43) (v:=?_) rfl (by kernel_rfl) (by kernel_rfl) (by kernel_rfl) (fun _ _ _ h=>h) (by rfl) ?_ d ?_
   rotate_left
   ·(intro w f;(try dsimp only at f);go_simp;(try with_reducible rfl))
   try simp only[Act.put,GZ7,GZ5,GZ6]
   refine aM (i:=44) (v:=?_) rfl (by kernel_rfl) (by kernel_rfl) (by kernel_rfl) (fun _ _ _ h=>h) (by rfl) ?_ d ?_
   rotate_left
   ·(intro w f;(try dsimp only at f);go_simp;(try with_reducible rfl))
   try simp only[Act.put,GZ7,GZ5,GZ6]
   refine aM (i:=45) (v:=?_) rfl (by kernel_rfl) (by kernel_rfl) (by kernel_rfl) (fun _ _ _ h=>h) (by rfl) ?_ d ?_
   rotate_left
   ·(intro w f;(try dsimp only at f);go_simp;(try with_reducible rfl))
   try simp only[Act.put,GZ7,GZ5,GZ6]
   refine aM (i:=46) (v:=?_) rfl (by kernel_rfl) (by kernel_rfl) (by kernel_rfl) (fun _ _ _ h=>h) (by rfl) ?_ d ?_
   rotate_left
   ·(intro w f;(try dsimp only at f);go_simp;(try with_reducible rfl))
   try simp only[Act.put,GZ7,GZ5,GZ6]
   refine aM (i:=47) (v:=?_) rfl (by kernel_rfl) (by kernel_rfl) (by kernel_rfl) (fun _ _ _ h=>h) (by rfl) ?_ d ?_
   rotate_left
   ·(intro w f;(try dsimp only at f);go_simp;(try with_reducible rfl))
   try simp only[Act.put,GZ7,GZ5,GZ6]
   refine aM (i:=48) (v:=?_) rfl (by kernel_rfl) (by kernel_rfl) (by kernel_rfl) (fun _ _ _ h=>h) (by rfl) ?_ d ?_
   rotate_left
   ·(intro w f;(try dsimp only at f);go_simp;(try with_reducible rfl))
   try simp only[Act.put,GZ7,GZ5,GZ6]
   refine TE (i:=49) rfl (by kernel_rfl) (fun K F=>?_)
   go_simp
   go_at_call 70
   with_reducible refine(vB _).mono ?_
   rintro e v5 ⟨⟨cA,cc,b1,b2,b3,a1,a2,a3,b4,b5,b6,a4,a5,a6,rfl,n7⟩,n9⟩
   obtain⟨ad,rfl,k7,p0,p1,p2,p3,p4,p5,p6,p7,p8⟩:=Jv n7.row (GZ4 _ _) 2 (by show 2<4;omega)
   simp[Addr.add]at p0 p1 p2 p3 p4 p5 p6 p7 p8
   simp only[iU,jB,List.getElem_cons_succ,List.getElem_cons_zero,List.length_nil]at p0 p1 p2 p3 p4 p5 p6 p7 p8
   have H:=d9.out _ _ d n9
   clear d
   refine F.out _ _ (by exact H) (fun d=>?_)
   clear F K
   try simp only[Act.put,GZ7,GZ5,GZ6]
   refine aM (i:=50) (v:=?_) rfl (by kernel_rfl) (by kernel_rfl) (by kernel_rfl) (fun _ _ _ h=>h) (by rfl) ?_ d ?_
   rotate_left
   ·(intro w f;(try dsimp only at f);go_simp;(try with_reducible rfl))
   try simp only[Act.put,GZ7,GZ5,GZ6]
   refine TE (i:=51) rfl (by kernel_rfl) (fun K F=>?_)
   go_simp
   refine F.out _ _ (by exact d) (fun d=>?_)
   clear F K
   try simp only[Act.put,GZ7,GZ5,GZ6]
   refine TE (i:=52) rfl (by kernel_rfl) (fun K F=>?_)
   go_simp
   go_at_call 66
   with_reducible refine(Mi m _ (s3.out.below (a0.out _ d)) u2.out).mono ?_
   rintro e v4 ⟨rfl,n8⟩
   have H:=d9.out _ _ d n8
   clear d
   refine F.out _ _ (by exact H) (fun d=>?_)
   clear F K
   try simp only[Act.put,GZ7,GZ5,GZ6]
   refine aM (i:=53) (v:=?_) rfl (by kernel_rfl) (by kernel_rfl) (by kernel_rfl) (fun _ _ _ h=>h) (by rfl) ?_ d ?_
   rotate_left
   ·(intro w f;(try dsimp only at f);go_simp;(try with_reducible rfl))
   try simp only[Act.put,GZ7,GZ5,GZ6]
   refine aM (i:=54) (v:=?_) rfl (by kernel_rfl) (by kernel_rfl) (by kernel_rfl) (fun _ _ _ h=>h) (by rfl) ?_ d ?_
   rotate_left
   ·(intro w f;(try dsimp only at f);go_simp;(try with_reducible rfl))
   try simp only[Act.put,GZ7,GZ5]
   refine wpAnyH_done (by kernel_rfl) ?_ _
   go_wp2_with fail
   go_ret
   exact⟨rfl,j6.trans ((a0.out _ d).mono j6.size)⟩
end
end Go.Proofs.YtjiedaialianmaaGreat
