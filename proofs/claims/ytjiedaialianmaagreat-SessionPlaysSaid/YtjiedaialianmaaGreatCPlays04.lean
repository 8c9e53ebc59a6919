import Derived.Test.YtjiedaialianmaaGreatA08
import Derived.Test.YtjiedaialianmaaGreatA09
set_option maxRecDepth 100000
namespace Go.Proofs.YtjiedaialianmaaGreat
section
open Go.ChangeShapes Go.WideShapes Go.ChangeAt Go.RowKit Go.Deep
section
variable {H:Type} {enc:TypeId×Value->H} {w:World} {base:Nat} {spare:Nat->Bool} {held:Bool} {n:Nat} {c:Value} {cs:List Value} {y:DataW H×List MemPlace}
theorem Qo {l:List Value}(h:l.length=3):∃a b c,l=[a,b,c]:=by
 match l,h with| [a,b,c],_=>exact⟨a,b,c,rfl⟩
theorem GZ (A:cs.length=7)(h:DataW.trod enc Tryz.prog w base spare held n 70 cs=some y)(hF:Fits Tryz.prog 70 y.1):∃m:Mod,cs=m.cells/\m.ok w:=by
 obtain⟨a,b,c,d,e,f,g,rfl⟩:=Qj A
 have i:=SV Tryz.underlying70 (by kernel_rfl) rfl h
 obtain⟨_,_,J,O⟩:=i 0 _ _ rfl rfl
 obtain⟨_,_,I,T⟩:=i 1 _ _ rfl rfl
 obtain⟨_,_,H,S⟩:=i 2 _ _ rfl rfl
 obtain⟨_,_,G,N⟩:=i 3 _ _ rfl rfl
 obtain⟨_,_,F,M⟩:=i 4 _ _ rfl rfl
 obtain⟨_,_,E,L⟩:=i 5 _ _ rfl rfl
 obtain⟨_,_,D,K⟩:=i 6 _ _ rfl rfl
 obtain⟨s,rfl,v⟩:=nD J
 obtain⟨z,rfl⟩:=SI I
 obtain⟨u,rfl⟩:=SI H
 obtain⟨t,rfl,r⟩:=nD G
 obtain⟨R,P,Q,rfl,C⟩:=Ud F (M hF)
 obtain⟨q,o,p,rfl,B⟩:=Kt E (L hF)
 obtain⟨l,j,k,rfl,x⟩:=MJ D (K hF)
 exact⟨⟨s,z,u,t,P,o,j,R,Q,q,p,l,k⟩,rfl,C,B,x,v (O hF),r (N hF)⟩
end
section
variable {H:Type} {enc:TypeId×Value->H} {w:World} {base:Nat} {spare:Nat->Bool} {held:Bool} {r:Reach} {b0:Nat} {v:Value} {d:DataW H} {p:List MemPlace}
theorem nO (i:Value.okWide Tryz.prog w r b0 24 v)(h:DataW.Trod enc Tryz.prog w base spare held 24 v d p)(hF:Fits Tryz.prog 24 d):∃x:Krn,v=x.v/\x.ok w:=by
 obtain⟨cs,rfl,f⟩:=okWide_struct Tryz.underlying24 i
 obtain⟨g,j⟩:=h
 obtain⟨l⟩:=cs
 obtain⟨a,b,c,rfl⟩:=Qo (l:=l) (by have:=f.trans Tryz.yK;simpa using this)
 have e:=SV Tryz.underlying24 (by kernel_rfl) rfl j
 obtain⟨_,_,o,B⟩:=e 0 _ _ rfl rfl
 obtain⟨_,_,n,A⟩:=e 1 _ _ rfl rfl
 obtain⟨_,_,m,q⟩:=e 2 _ _ rfl rfl
 obtain⟨z,rfl⟩:=SI o
 obtain⟨u,rfl⟩:=SI n
 obtain⟨y,s,t,rfl,k⟩:=Ud m (q hF)
 exact⟨⟨z,u,s,y,t⟩,rfl,⟨k⟩⟩
end
end
section
open Go.RowKit
theorem Uq {W:World}{b:Nat}{D s r q p o n l k:Value}{t:TypeId}(h:W.heap[b]? =some (.cells #[D,s,r,q,p,o,n,l,k] t (0,0)))(a c d e f g i j m:Value):
  (((((((((W.setCell ⟨b,0,none⟩ a).setCell ⟨b,1,none⟩ c).setCell ⟨b,2,none⟩ d).setCell ⟨b,3,none⟩ e).setCell ⟨b,4,none⟩ f).setCell ⟨b,5,none⟩ g).setCell ⟨b,6,none⟩ i).setCell ⟨b,7,none⟩ j).setCell ⟨b,8,none⟩ m).heap[b]? =some (.cells #[a,c,d,e,f,g,i,j,m] t (0,0))/\Only b W (((((((((W.setCell ⟨b,0,none⟩ a).setCell ⟨b,1,none⟩ c).setCell ⟨b,2,none⟩ d).setCell ⟨b,3,none⟩ e).setCell ⟨b,4,none⟩ f).setCell ⟨b,5,none⟩ g).setCell ⟨b,6,none⟩ i).setCell ⟨b,7,none⟩ j).setCell ⟨b,8,none⟩ m):=by
 have C:(W.setCell ⟨b,0,none⟩ a).heap[b]? =some (.cells #[a,s,r,q,p,o,n,l,k] t (0,0)):=heap_setCell_same W b 0 _ _ a h
 have B:((W.setCell ⟨b,0,none⟩ a).setCell ⟨b,1,none⟩ c).heap[b]? =some (.cells #[a,c,r,q,p,o,n,l,k] t (0,0)):=heap_setCell_same (W.setCell ⟨b,0,none⟩ a) b 1 _ _ c C
 have A:(((W.setCell ⟨b,0,none⟩ a).setCell ⟨b,1,none⟩ c).setCell ⟨b,2,none⟩ d).heap[b]? =some (.cells #[a,c,d,q,p,o,n,l,k] t (0,0)):=heap_setCell_same ((W.setCell ⟨b,0,none⟩ a).setCell ⟨b,1,none⟩ c) b 2 _ _ d B
 have z:((((W.setCell ⟨b,0,none⟩ a).setCell ⟨b,1,none⟩ c).setCell ⟨b,2,none⟩ d).setCell ⟨b,3,none⟩ e).heap[b]? =some (.cells #[a,c,d,e,p,o,n,l,k] t (0,0)):=heap_setCell_same (((W.setCell ⟨b,0,none⟩ a).setCell ⟨b,1,none⟩ c).setCell ⟨b,2,none⟩ d) b 3 _ _ e A
 have y:(((((W.setCell ⟨b,0,none⟩ a).setCell ⟨b,1,none⟩ c).setCell ⟨b,2,none⟩ d).setCell ⟨b,3,none⟩ e).setCell ⟨b,4,none⟩ f).heap[b]? =some (.cells #[a,c,d,e,f,o,n,l,k] t (0,0)):=heap_setCell_same ((((W.setCell ⟨b,0,none⟩ a).setCell ⟨b,1,none⟩ c).setCell ⟨b,2,none⟩ d).setCell ⟨b,3,none⟩ e) b 4 _ _ f z
 have x:((((((W.setCell ⟨b,0,none⟩ a).setCell ⟨b,1,none⟩ c).setCell ⟨b,2,none⟩ d).setCell ⟨b,3,none⟩ e).setCell ⟨b,4,none⟩ f).setCell ⟨b,5,none⟩ g).heap[b]? =some (.cells #[a,c,d,e,f,g,n,l,k] t (0,0)):=heap_setCell_same (((((W.setCell ⟨b,0,none⟩ a).setCell ⟨b,1,none⟩ c).setCell ⟨b,2,none⟩ d).setCell ⟨b,3,none⟩ e).setCell ⟨b,4,none⟩ f) b 5 _ _ g y
 have w:(((((((W.setCell ⟨b,0,none⟩ a).setCell ⟨b,1,none⟩ c).setCell ⟨b,2,none⟩ d).setCell ⟨b,3,none⟩ e).setCell ⟨b,4,none⟩ f).setCell ⟨b,5,none⟩ g).setCell ⟨b,6,none⟩ i).heap[b]? =some (.cells #[a,c,d,e,f,g,i,l,k] t (0,0)):=heap_setCell_same ((((((W.setCell ⟨b,0,none⟩ a).setCell ⟨b,1,none⟩ c).setCell ⟨b,2,none⟩ d).setCell ⟨b,3,none⟩ e).setCell ⟨b,4,none⟩ f).setCell ⟨b,5,none⟩ g) b 6 _ _ i x
 have v:((((((((W.setCell ⟨b,0,none⟩ a).setCell ⟨b,1,none⟩ c).setCell ⟨b,2,none⟩ d).setCell ⟨b,3,none⟩ e).setCell ⟨b,4,none⟩ f).setCell ⟨b,5,none⟩ g).setCell ⟨b,6,none⟩ i).setCell ⟨b,7,none⟩ j).heap[b]? =some (.cells #[a,c,d,e,f,g,i,j,k] t (0,0)):=heap_setCell_same (((((((W.setCell ⟨b,0,none⟩ a).setCell ⟨b,1,none⟩ c).setCell ⟨b,2,none⟩ d).setCell ⟨b,3,none⟩ e).setCell ⟨b,4,none⟩ f).setCell ⟨b,5,none⟩ g).setCell ⟨b,6,none⟩ i) b 7 _ _ j w
 have u:(((((((((W.setCell ⟨b,0,none⟩ a).setCell ⟨b,1,none⟩ c).setCell ⟨b,2,none⟩ d).setCell ⟨b,3,none⟩ e).setCell ⟨b,4,none⟩ f).setCell ⟨b,5,none⟩ g).setCell ⟨b,6,none⟩ i).setCell ⟨b,7,none⟩ j).setCell ⟨b,8,none⟩ m).heap[b]? =some (.cells #[a,c,d,e,f,g,i,j,m] t (0,0)):=heap_setCell_same ((((((((W.setCell ⟨b,0,none⟩ a).setCell ⟨b,1,none⟩ c).setCell ⟨b,2,none⟩ d).setCell ⟨b,3,none⟩ e).setCell ⟨b,4,none⟩ f).setCell ⟨b,5,none⟩ g).setCell ⟨b,6,none⟩ i).setCell ⟨b,7,none⟩ j) b 8 _ _ m v
 exact⟨u,(((((((((Only.set 0 a).trans (Only.set 1 c)).trans (Only.set 2 d)).trans (Only.set 3 e)).trans (Only.set 4 f)).trans (Only.set 5 g)).trans (Only.set 6 i)).trans (Only.set 7 j)).trans (Only.set 8 m))⟩
end
section
set_option maxHeartbeats 4000000
open Go.RowKit
theorem pX (A B:Option Addr)(c d:Nat)(l r:List ByteArray)(w:World)(h:Row strCells 1 w A l)(G:Row strCells 1 w B r)(K:l.length<=big)(J:r.length<=big):
  Calls Tryz.prog 31 #[.slice A l.length c,.slice B r.length d] w fun e I=>e=.returned (.bool (decide (l=r)))/\Below w.heap.size w I:=by
 unfold big at K J
 have O:=Hp h
 have N:=Hp G
 clear h G
 obtain⟨R,y⟩:=Nm (decide (l=r))
 rw[<-y]
 have C:=Hp y
 clear y
 by_cases a:l.length=r.length
 ·have m:((l.length:Int) != r.length)=false:=by simp;omega
  have z:=Hp a
  clear a
  go_enter Tryz.func31,Tryz.ntmps31
  go_wp2_with fail
  go_loopw [5] (fun i wr=>∃j:Nat,j<=l.length/\i=.int .i64 j/\(∀k(q:k<l.length)(b:k<r.length),k<j->l[k]=r[k])/\Below w.heap.size w wr) (fun i _=>l.length -(intOf i).toNat)
  case atStart=>exact⟨0,by omega,rfl,by omega,GZ4 _ _⟩
  case round=>
   obtain⟨j,Q,rfl,F,p⟩:=hrel
   have H:=Hp F
   have D:=Hp p
   clear F
   have g:=z.out
   by_cases t:j<l.length
   ·have o:j<r.length:=by omega
    have E:(j:Int)<l.length:=by omega
    have s:(j:Int)<r.length:=by omega
    obtain⟨V,rfl,M,T⟩:=nT O.out p j t
    obtain⟨U,rfl,L,S⟩:=nT N.out p j o
    clear p g
    by_cases n:l[j]=r[j]
    ·have x:=str_eq n
     have P:=Hp n
     clear n
     go_wp2_with fail
     go_quiet (fail)
     go_wp2_with fail
     go_roundw
     case rel=>exact⟨j+1,by omega,by go_num,fun k q b u=>by rcases Nat.lt_succ_iff_lt_or_eq.1 u with h|rfl;exact H.out k q b h;exact P.out,below_drewN D.out _⟩
     case measure=>(simp[intOf];try omega)
    ·have x:=mY n
     have f:=Hp (show R=false by rw[C.out];simp only[decide_eq_false_iff_not];rintro rfl;exact n rfl)
     clear n
     go_wp2_with fail
     go_quiet (fail)
     go_wp2_with fail
     go_ret
     exact⟨aV f.symm,below_drewN D.out _⟩
   ·have v:=Hp (show R=true by rw[C.out];simp only[decide_eq_true_eq];exact List.ext_getElem g (fun k q b=>H.out k q b (by omega)))
    clear p g
    go_wp2_with fail
    go_ret
    exact⟨aV v.symm,D.out⟩
 ·have m:((l.length:Int) != r.length)=true:=by simp;omega
  have f:=Hp (show R=false by rw[C.out];simp only[decide_eq_false_iff_not];rintro rfl;exact a rfl)
  clear a
  go_enter Tryz.func31,Tryz.ntmps31
  go_wp2_with fail
  go_ret
  exact⟨aV f.symm,GZ4 _ _⟩
end
section
open Go.ChangeShapes Go.WideShapes Go.ChangeAt Go.RowKit Go.Deep
theorem LY {H:Type}{enc:TypeId×Value->H}{w:World}{base:Nat}{spare:Nat->Bool}{held:Bool}{n:Nat}{c:Value}{y:DataW H×List MemPlace}{α:Type}(b:α->List Value)(k:Nat)(C:∀x,(b x).length=k)(i:0<k)(Q:α->Prop){t e:TypeId}(r:Tryz.prog.underlying t=some (.slice e))(j:0<Tryz.prog.bytesOf e)(F:Tryz.prog.cellsOf e=k)
  (E:∀(f:List Value)(q:Nat)(z:DataW H×List MemPlace),f.length=k->DataW.trod enc Tryz.prog w base spare held q e f=some z->Fits Tryz.prog e z.1->∃x:α,f=b x/\Q x)
  (h:DataW.trod enc Tryz.prog w base spare held n t [c]=some y) (hF:Fits Tryz.prog t y.1):∃(A:Option Addr)(l:List α)(d:Nat),c=.slice A l.length d/\l.length<=big/\(∀x∈l,Q x)/\Row b k w A l/\l.length<=d/\d<=maxLen:=by
 obtain⟨A,l,d,rfl,J,I,G⟩:=open_row b k C i Q r j F E h hF
 refine⟨A,l,d,rfl,J,I,G,?_⟩
 rcases open_slice r h with⟨g,_⟩|⟨a,u,s,m,q,D,K,g,_,B,v,_⟩
 ·simp only[List.cons.injEq,and_true,Value.slice.injEq]at g
  obtain⟨_,p,o⟩:=g
  rw[p,o];exact⟨GZ3 _,Nat.zero_le _⟩
 ·simp only[List.cons.injEq,and_true,Value.slice.injEq]at g
  obtain⟨_,p,o⟩:=g
  rw[p,o];exact⟨B,v⟩
theorem Qk {l:List Value}(h:l.length=1):∃a,l=[a]:=by
 match l,h with| [a],_=>exact⟨a,rfl⟩
section
variable {H:Type} {enc:TypeId×Value->H} {w:World} {base:Nat} {spare:Nat->Bool} {held:Bool} {r:Reach} {b0:Nat} {v:Value} {d:DataW H} {p:List MemPlace} {n:Nat} {c:Value} {cs:List Value} {y:DataW H×List MemPlace}
theorem Il (h:DataW.trod enc Tryz.prog w base spare held n 27 [c]=some y)(hF:Fits Tryz.prog 27 y.1):∃(A:Option Addr)(l:List ByteArray)(b:Nat),c=.slice A l.length b/\jK w A l/\l.length<=b:=by
 obtain⟨A,l,b,e,o,m,k,j,_⟩:=LY strCells 1 (fun _=>rfl) (by omega) (fun s=>s.size<=big) Tryz.underlying27 (by decide+kernel) (by kernel_rfl) (fun p _ _ g d i=>by
  obtain⟨a,rfl⟩:=Qk g
  obtain⟨s,rfl,f⟩:=nD d
  exact⟨s,rfl,f i⟩) h hF
 exact⟨A,l,b,e,⟨k,o,m⟩,j⟩
end
end
section
open Go.ChangeShapes Go.WideShapes Go.ChangeAt Go.RowKit Go.Deep
section
variable {H:Type} {enc:TypeId×Value->H} {w:World} {base:Nat} {spare:Nat->Bool} {held:Bool} {r:Reach} {b0:Nat} {v:Value} {d:DataW H} {p:List MemPlace} {n:Nat} {c:Value} {cs:List Value} {y:DataW H×List MemPlace}
theorem Ab (g:Value.okWide Tryz.prog w r b0 27 v)(h:DataW.Trod enc Tryz.prog w base spare held 27 v d p)(hF:Fits Tryz.prog 27 d):
  ∃(A:Option Addr)(l:List ByteArray)(b:Nat),v=.slice A l.length b/\jK w A l/\l.length<=b:=by
 obtain⟨a,e,b,rfl⟩:=okWide_slice Tryz.underlying27 g
 obtain⟨f,i⟩:=h
 exact Il (c:=.slice a e b) i hF
end
end
section
open Go.ChangeShapes Go.WideShapes Go.ChangeAt Go.RowKit Go.WideMaps Go.WideElems
theorem Row.take {α:Type}{enc:α->List Value}{k:Nat}{w:World}{A:Option Addr}{l:List α}(c:∀x,(enc x).length=k)(h:Row enc k w A l)(i:Nat):Row enc k w A (l.take i):=by
 refine⟨flat_length c _,fun b=>?_⟩
 rw[GY6]at b
 obtain⟨g,e,f,d⟩:=h.2 (by omega)
 refine⟨g,e,f,fun j u a=>d j u ?_⟩
 conv=>lhs;rw[<-List.take_append_drop i l]
 rw[List.flatMap_append,List.getElem?_append_left]
 ·exact a
 ·exact(List.getElem?_eq_some_iff.1 a).1
end
end Go.Proofs.YtjiedaialianmaaGreat
