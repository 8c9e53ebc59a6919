import Derived.Test.YtjiedaialianmaaGreatA01
import Derived.Test.YtjiedaialianmaaGreatA02
import Derived.Lib.SmallJoins
import Derived.Shelf.Slices.In.CompactS
import Derived.Lib.OwnBridge
import Derived.Lib.MapLaws
set_option maxRecDepth 100000
set_option maxHeartbeats 2000000
namespace Go.Proofs.YtjiedaialianmaaGreat
section
open Go.ChangeShapes Go.WideShapes Go.ChangeAt Go.RowKit Go.Deep
def Fits {H:Type}(P:Program)(t:TypeId)(d:DataW H):Prop:=(d.weights P t).all (· <=reachBytes)=true
section
variable {H:Type} {enc:TypeId×Value->H} {P:Program} {w:World} {base:Nat} {spare:Nat->Bool} {held:Bool}
theorem fF {ts:List TypeId}{ds:List (DataW H)}(h:(DataW.weightsEach P ts ds).all (· <=reachBytes)=true){j:Nat}{t:TypeId}{d:DataW H}(ht:ts[j]? =some t)(hd:ds[j]? =some d):Fits P t d:=by
 unfold Fits
 rw[List.all_eq_true]at h ⊢
 exact fun n hn=>h n (DataW.weights_mem_each ht hd n hn)
theorem oW {t:TypeId}{fs:Array Field}{parts:List (DataW H)}(hu:P.underlying t=some (.struct fs))(h:Fits P t (.agg parts)){j:Nat}{f:Field}{d:DataW H}(hf:fs[j]? =some f)(hd:parts[j]? =some d):Fits P f.type d:=by
 unfold Fits at h
 simp only[DataW.weights,hu]at h
 exact fF h (j:=j) (by rw[List.getElem?_map];simp[hf]) hd
theorem fits_string {t:TypeId}{l:List UInt8}(h:Fits P t (.lit (.string l):DataW H)):l.length<=reachBytes:=by
 simpa[Fits,DataW.weights]using h
theorem pY {e:TypeId}{x:DataW H}{n:Nat}:∀{l:List (DataW H)},x∈l->n∈x.weights P e->n∈DataW.weightsAll P e l
 |d::r,hx,hn=>by
  simp only[DataW.weightsAll,List.mem_append]
  rcases List.mem_cons.1 hx with rfl|hx
  ·exact .inl hn
  ·exact .inr (pY hx hn)
theorem VR {t e:TypeId}{els sp:List (DataW H)}(hu:P.underlying t=some (.slice e))(h:Fits P t (.slice els sp)):(els.length+sp.length)*P.bytesOf e<=reachBytes/\∀x∈els,Fits P e x:=by
 unfold Fits at h
 simp only[DataW.weights,hu,List.all_cons,Bool.and_eq_true,decide_eq_true_eq,List.all_append]at h
 refine⟨h.1,fun x hx=>?_⟩
 unfold Fits
 rw[List.all_eq_true]
 exact fun n hn=>List.all_eq_true.1 h.2.1 n (pY hx hn)
theorem Oy {w:World}{a:Addr}{v:Value}(h:w.cell? a=some v):a.block<w.heap.size:=by
 rcases Nat.lt_or_ge a.block w.heap.size with hlt|hge
 ·exact hlt
 ·unfold World.cell? at h;rw[Array.getElem?_eq_none hge]at h;cases h
theorem row_of {α:Type}(enc:α->List Value)(k:Nat)(hk:∀x,(enc x).length=k)(hk0:0<k)(Q:α->Prop)(a:Addr)(len:Nat)
  (h:∀i,i<len->∃x,Q x/\∀j,j<k->w.cell? ((a.add (i*k)).add j)=(enc x)[j]?):∃l:List α,l.length=len/\(∀x∈l,Q x)/\Row enc k w (some a) l:=by
 have hc:∃f:Fin len->α,∀i,Q (f i)/\∀j,j<k->w.cell? ((a.add (i.val*k)).add j)=(enc (f i))[j]?:=
  ⟨fun i=>Classical.choose (h i.val i.isLt),fun i=>Classical.choose_spec (h i.val i.isLt)⟩
 obtain⟨f,hf⟩:=hc
 refine⟨List.ofFn f,by simp,fun x hx=>?_,?_⟩
 ·obtain⟨i,rfl⟩:=List.mem_ofFn.1 hx
  exact(hf i).1
 ·refine⟨by rw[flat_length hk],fun hn=>?_⟩
  have hl:(List.ofFn f).length=len:=by simp
  have h0:0<len:=by omega
  refine⟨a,rfl,?_,fun j u hu=>?_⟩
  ·have:=(hf ⟨0,h0⟩).2 0 hk0
   rw[GY5 (by rw[hk];exact hk0)]at this
   have:=Oy this
   rwa [aA,aA]at this
  ·have hj:j<len*k:=by
    rcases Nat.lt_or_ge j (len*k)with h|h
    ·exact h
    ·rw[List.getElem?_eq_none (by rw[flat_length hk,hl];exact h)]at hu;cases hu
   have hi:j / k<len:=Nat.div_lt_of_lt_mul (by rw[Nat.mul_comm];exact hj)
   have hm:j % k<k:=Nat.mod_lt _ hk0
   have e:j=(j / k)*k+j % k:=by rw[Nat.mul_comm];exact(Nat.div_add_mod j k).symm
   have h1:=(hf ⟨j / k,hi⟩).2 (j % k) hm
   have h2:=flat_get hk (List.ofFn f) (j / k) (j % k) (by rw[hl];exact hi) hm
   rw[<-e]at h2
   rw[VJ,<-e]at h1
   rw[h1,<-hu,h2]
   simp
end
theorem Cq :reachBytes=big:=by rfl
section
variable {H:Type} {enc:TypeId×Value->H} {w:World} {base:Nat} {spare:Nat->Bool} {held:Bool} {n:Nat} {c:Value} {y:DataW H×List MemPlace}
theorem nD (h:DataW.trod enc Tryz.prog w base spare held n 9 [c]=some y):∃s:ByteArray,c=.string s/\(Fits Tryz.prog 9 y.1->s.size<=big):=by
 obtain⟨s,e,rfl,_⟩:=DataW.trod_string Tryz.underlying9 h
 simp only[List.cons.injEq,and_true]at e
 exact⟨s,e,fun hf=>by have:=fits_string hf;rw[Cq]at this;simpa using this⟩
theorem SI (h:DataW.trod enc Tryz.prog w base spare held n 3 [c]=some y):∃a:Int,c=iv a:=by
 obtain⟨a,e,rfl,_⟩:=DataW.trod_int Tryz.underlying3 h
 simp only[List.cons.injEq,and_true]at e
 exact⟨a,e⟩
end
theorem OZ {H:Type}{enc:TypeId×Value->H}{P:Program}{w:World}{base:Nat}{spare:Nat->Bool}{held:Bool}{t e:TypeId}{n:Nat}{c:Value}{y:DataW H×List MemPlace}
  (ht:P.underlying t=some (.slice e)) (hb0:0<P.bytesOf e) (k:Nat) (hC:P.cellsOf e=k) (h:DataW.trod enc P w base spare held n t [c]=some y):
  ∃(A:Option Addr)(len cap:Nat),c=.slice A len cap/\(Fits P t y.1->len<=big)/\(A=none->len=0)/\∀a,A=some a->∀i,i<len->∃(cs':List Value)(n':Nat)(z:DataW H×List MemPlace),cs'.length=k/\
   (∀j,j<k->w.cell? ((a.add (i*k)).add j)=cs'[j]?)/\DataW.trod enc P w base spare held n' e cs'=some z/\(Fits P t y.1->Fits P e z.1):=by
 rcases open_slice ht h with⟨e1,rfl⟩|⟨a,len,cap,m,n',D,Pl,e1,_,hl,_,hm,rfl,hi⟩
 ·simp only[List.cons.injEq,and_true]at e1
  exact⟨none,0,0,e1,fun _=>Nat.zero_le _,fun _=>rfl,fun a ha=>absurd ha (by simp)⟩
 ·simp only[List.cons.injEq,and_true]at e1
  refine⟨some a,len,cap,e1,fun hf=>?_,fun ha=>absurd ha (by simp),fun a' ha i hlt=>?_⟩
  ·have h1:=(VR ht hf).1
   rw[Cq]at h1
   simp only[List.length_map,List.length_range]at h1
   have h2:(len+(m -len))*1<=(len+(m -len))*P.bytesOf e:=Nat.mul_le_mul_left _ hb0
   omega
  ·obtain rfl:a=a':=GY3 ha
   obtain⟨cs',hc,ht'⟩:=hi i (by rw[hm];split<;>omega)
   rw[hC]at hc
   obtain⟨_,hcl,hat⟩:=World.cells?_some hc
   exact⟨cs',n',_,hcl,hat,ht',fun hf=>(VR ht hf).2 (D i) (List.mem_map.2 ⟨i,List.mem_range.2 hlt,rfl⟩)⟩
theorem lL (cs:List Value)(j:Nat)(h:j<cs.length):(cs.drop j).take 1=[cs[j]]:=by
 rw[GY4 h];rfl
theorem SV {H:Type}{enc:TypeId×Value->H}{P:Program}{w:World}{base:Nat}{spare:Nat->Bool}{held:Bool}{t:TypeId}{fs:Array Field}{n:Nat}{cs:List Value}{y:DataW H×List MemPlace}
  (hu:P.underlying t=some (.struct fs)) (hone:oneCellFields P fs=true) (hlen:cs.length=fs.size) (h:DataW.trod enc P w base spare held n t cs=some y):
  ∀(j:Nat)(f:Field)(c:Value),fs[j]? =some f->cs[j]? =some c->∃n' z,DataW.trod enc P w base spare held n' f.type [c]=some z/\(Fits P t y.1->Fits P f.type z.1):=by
 intro j f c hf hc
 obtain⟨xs,n',_,rfl,_,hlx,hg⟩:=DataW.trod_struct hu h
 obtain⟨ho,hk⟩:=hone_of hone j f hf
 have hj:j<fs.size:=(ZL hf)
 have h1:=hg j f hf
 rw[ho,hk,lL cs j (by omega)]at h1
 have hx:xs[j]? =some (xs[j]'(by omega)):=GY5 (by omega)
 have hcj:cs[j]'(by omega)=c:=by rw[GY5 (by omega)]at hc;exact GY3 hc
 rw[hcj,hx]at h1
 exact⟨n',_,h1,fun hF=>oW hu hF hf (by rw[List.getElem?_map,hx];rfl)⟩
section
variable {H:Type} {enc:TypeId×Value->H} {w:World} {base:Nat} {spare:Nat->Bool} {held:Bool} {n:Nat} {c:Value} {cs:List Value} {y:DataW H×List MemPlace}
theorem open_row {α:Type}(encE:α->List Value)(k:Nat)(hk:∀x,(encE x).length=k)(hk0:0<k)(Q:α->Prop){t e:TypeId}(ht:Tryz.prog.underlying t=some (.slice e))(hb0:0<Tryz.prog.bytesOf e)(hC:Tryz.prog.cellsOf e=k)
  (hE:∀(cs':List Value)(n':Nat)(z:DataW H×List MemPlace),cs'.length=k->DataW.trod enc Tryz.prog w base spare held n' e cs'=some z->Fits Tryz.prog e z.1->∃x:α,cs'=encE x/\Q x)
  (h:DataW.trod enc Tryz.prog w base spare held n t [c]=some y) (hF:Fits Tryz.prog t y.1):∃(A:Option Addr)(l:List α)(cap:Nat),c=.slice A l.length cap/\l.length<=big/\(∀x∈l,Q x)/\Row encE k w A l:=by
 obtain⟨A,len,cap,rfl,hl,hn,hel⟩:=OZ ht hb0 k hC h
 cases A with
 |none=>
  obtain rfl:=hn rfl
  exact⟨none,[],cap,rfl,Nat.zero_le _,by simp,Row.nil⟩
 |some a=>
  obtain⟨l,rfl,hq,hr⟩:=row_of (w:=w) encE k hk hk0 Q a len fun i hi=>by
   obtain⟨cs',n',z,hcl,hcell,htr,hf⟩:=hel a rfl i hi
   obtain⟨x,rfl,hx⟩:=hE cs' n' z hcl htr (hf hF)
   exact⟨x,hx,hcell⟩
  exact⟨some a,l,cap,rfl,hl hF,hq,hr⟩
theorem Tryz.Ff :Tryz.prog.cellsOf 3=1:=by kernel_rfl
theorem Tryz.yZ :Tryz.prog.cellsOf 70=7:=by kernel_rfl
theorem Qw {l:List Value}(h:l.length=2):∃a b,l=[a,b]:=by
 match l,h with| [a,b],_=>exact⟨a,b,rfl⟩
theorem O5 {l:List Value}(h:l.length=4):∃a b c d,l=[a,b,c,d]:=by
 match l,h with| [a,b,c,d],_=>exact⟨a,b,c,d,rfl⟩
theorem Qj {l:List Value}(h:l.length=7):∃a b c d e f g,l=[a,b,c,d,e,f,g]:=by
 match l,h with| [a,b,c,d,e,f,g],_=>exact⟨a,b,c,d,e,f,g,rfl⟩
theorem OI (hl:cs.length=2)(h:DataW.trod enc Tryz.prog w base spare held n 159 cs=some y)(hF:Fits Tryz.prog 159 y.1):∃x:Exp,cs=x.cells/\x.name.size<=big:=by
 obtain⟨a,b,rfl⟩:=Qw hl
 have hf:=SV Tryz.underlying159 (by kernel_rfl) rfl h
 obtain⟨_,_,h0,f0⟩:=hf 0 _ _ rfl rfl
 obtain⟨_,_,h1,_⟩:=hf 1 _ _ rfl rfl
 obtain⟨s,rfl,hs⟩:=nD h0
 obtain⟨z,rfl⟩:=SI h1
 exact⟨⟨s,z⟩,rfl,hs (f0 hF)⟩
theorem O6 (hl:cs.length=4)(h:DataW.trod enc Tryz.prog w base spare held n 173 cs=some y)(hF:Fits Tryz.prog 173 y.1):∃x:Imp,cs=x.cells/\x.mod.size<=big/\x.name.size<=big:=by
 obtain⟨a,b,c,d,rfl⟩:=O5 hl
 have hf:=SV Tryz.underlying173 (by kernel_rfl) rfl h
 obtain⟨_,_,h0,f0⟩:=hf 0 _ _ rfl rfl
 obtain⟨_,_,h1,f1⟩:=hf 1 _ _ rfl rfl
 obtain⟨_,_,h2,_⟩:=hf 2 _ _ rfl rfl
 obtain⟨_,_,h3,_⟩:=hf 3 _ _ rfl rfl
 obtain⟨s,rfl,hs⟩:=nD h0
 obtain⟨t,rfl,ht⟩:=nD h1
 obtain⟨z,rfl⟩:=SI h2
 obtain⟨u,rfl⟩:=SI h3
 exact⟨⟨s,t,z,u⟩,rfl,hs (f0 hF),ht (f1 hF)⟩
theorem M9 (hl:cs.length=4)(h:DataW.trod enc Tryz.prog w base spare held n 180 cs=some y)(_:Fits Tryz.prog 180 y.1):∃x:Pat,cs=x.cells/\True:=by
 obtain⟨a,b,c,d,rfl⟩:=O5 hl
 have hf:=SV Tryz.underlying180 (by kernel_rfl) rfl h
 obtain⟨_,_,h0,f0⟩:=hf 0 _ _ rfl rfl
 obtain⟨_,_,h1,f1⟩:=hf 1 _ _ rfl rfl
 obtain⟨_,_,h2,_⟩:=hf 2 _ _ rfl rfl
 obtain⟨_,_,h3,_⟩:=hf 3 _ _ rfl rfl
 obtain⟨s,rfl⟩:=SI h0
 obtain⟨t,rfl⟩:=SI h1
 obtain⟨z,rfl⟩:=SI h2
 obtain⟨u,rfl⟩:=SI h3
 exact⟨⟨s,t,z,u⟩,rfl,trivial⟩
theorem Ud (h:DataW.trod enc Tryz.prog w base spare held n 22 [c]=some y)(hF:Fits Tryz.prog 22 y.1):∃(A:Option Addr)(l:List Exp)(cap:Nat),c=.slice A l.length cap/\Sj w A l:=by
 obtain⟨A,l,cap,e,h1,h2,h3⟩:=open_row Exp.cells 2 (fun _=>rfl) (by omega) (fun x=>x.name.size<=big) Tryz.underlying22 (by decide+kernel) (by kernel_rfl) (fun _ _ _ hl ht hf=>OI hl ht hf) h hF
 exact⟨A,l,cap,e,h3,h1,h2⟩
theorem Kt (h:DataW.trod enc Tryz.prog w base spare held n 67 [c]=some y)(hF:Fits Tryz.prog 67 y.1):∃(A:Option Addr)(l:List Imp)(cap:Nat),c=.slice A l.length cap/\TC w A l:=by
 obtain⟨A,l,cap,e,h1,h2,h3⟩:=open_row Imp.cells 4 (fun _=>rfl) (by omega) (fun x=>x.mod.size<=big/\x.name.size<=big) Tryz.underlying67 (by decide+kernel) (by kernel_rfl) (fun _ _ _ hl ht hf=>O6 hl ht hf) h hF
 exact⟨A,l,cap,e,h3,h1,h2⟩
theorem MJ (h:DataW.trod enc Tryz.prog w base spare held n 68 [c]=some y)(hF:Fits Tryz.prog 68 y.1):∃(A:Option Addr)(l:List Pat)(cap:Nat),c=.slice A l.length cap/\pJ w A l:=by
 obtain⟨A,l,cap,e,h1,h2,h3⟩:=open_row Pat.cells 4 (fun _=>rfl) (by omega) (fun _=>True) Tryz.underlying68 (by decide+kernel) (by kernel_rfl) (fun _ _ _ hl ht hf=>M9 hl ht hf) h hF
 exact⟨A,l,cap,e,h3,h1⟩
theorem GZ (hl:cs.length=7)(h:DataW.trod enc Tryz.prog w base spare held n 70 cs=some y)(hF:Fits Tryz.prog 70 y.1):∃m:Mod,cs=m.cells/\m.ok w:=by
 obtain⟨a,b,c,d,e,f,g,rfl⟩:=Qj hl
 have hf:=SV Tryz.underlying70 (by kernel_rfl) rfl h
 obtain⟨_,_,h0,f0⟩:=hf 0 _ _ rfl rfl
 obtain⟨_,_,h1,f1⟩:=hf 1 _ _ rfl rfl
 obtain⟨_,_,h2,f2⟩:=hf 2 _ _ rfl rfl
 obtain⟨_,_,h3,f3⟩:=hf 3 _ _ rfl rfl
 obtain⟨_,_,h4,f4⟩:=hf 4 _ _ rfl rfl
 obtain⟨_,_,h5,f5⟩:=hf 5 _ _ rfl rfl
 obtain⟨_,_,h6,f6⟩:=hf 6 _ _ rfl rfl
 obtain⟨s,rfl,hs⟩:=nD h0
 obtain⟨z,rfl⟩:=SI h1
 obtain⟨u,rfl⟩:=SI h2
 obtain⟨t,rfl,ht⟩:=nD h3
 obtain⟨eA,ex,eC,rfl,he⟩:=Ud h4 (f4 hF)
 obtain⟨iA,im,iC,rfl,hi⟩:=Kt h5 (f5 hF)
 obtain⟨pA,pa,pC,rfl,hp⟩:=MJ h6 (f6 hF)
 exact⟨⟨s,z,u,t,ex,im,pa,eA,eC,iA,iC,pA,pC⟩,rfl,he,hi,hp,hs (f0 hF),ht (f3 hF)⟩
end
end
section
open Go.RowKit Go.Shelf Go.Sort
theorem MQ {w:World}{base n:Nat}{e:TypeId}{v:Value}{ss:List (List UInt8)}(hown:w.ownsRow base e 1 v n (ss.map encStr))(hl:n<=big):
  Calls Tryz.prog 219 #[v] w fun x w'=>x=.returned (.tuple #[])/\w'.ownsRow base e 1 v n ((Gs.Sd ss).map encStr)/\w.grownBy w' v.ownBlock:=by
 unfold big at hl
 by_cases hv:v=.slice none 0 0
 ·subst hv
  have h0:n=0:=by
   rcases hown.2 with⟨_,h⟩|⟨g,cap,cur,h,_⟩
   ·exact h
   ·cases h
  subst h0
  have hs:ss=[]:=by
   have:=hown.1;simp at this;exact this
  subst hs
  refine(Tryz.slices_Sort_string_none none 0 w).mono ?_
  rintro x w' ⟨rfl,rfl⟩
  exact⟨rfl,by simpa[Gs.Sd]using hown,World.grownBy.refl _ _⟩
 ·obtain⟨g,cap,rfl,hbg,hgl,hncap,hcm,hlen,hH⟩:=Lib.holds_of_ownsRow hown hv
  subst hlen
  refine(Tryz.slices_Sort_string g 0 cap ss w hH hgl (by omega)).mono ?_
  rintro x w' ⟨rfl,nn,os,rfl⟩
  rcases hown.2 with⟨h0,_⟩|⟨g',cap',cur,hv',hbase,hb,h1,h2,h3,h4⟩
  ·cases h0
  cases hv'
  exact⟨rfl,ownsRow_sorted (ts:=Gs.Sd ss) (Gs.SN ss).length_eq hbase hb h1 h2 h3,grownBy_sorted _⟩
theorem yF {w:World}{g n:Nat}(d:Array (List UInt8)):w.grownBy (putRow encStr (Sort.ahead w n) g 0 d) (some g):=by
 refine⟨rfl,rfl,rfl,by simp[putRow,mapBlock,Sort.ahead],fun k hk hne=>?_⟩
 have:g≠k:=fun e=>hne (by rw[e])
 simp[putRow,mapBlock,Sort.ahead,Array.getElem?_modify,this]
theorem F6 {w:World}{base n:Nat}{e:TypeId}{v:Value}{ss:List (List UInt8)}(hown:w.ownsRow base e 1 v n (ss.map encStr)):
  Calls Tryz.prog 218 #[v] w fun x w'=>(∃A c,x=.returned (.slice A (Lib.compact ss).length c))/\w.grownBy w' v.ownBlock:=by
 by_cases hv:v=.slice none 0 0
 ·subst hv
  have h0:n=0:=by
   rcases hown.2 with⟨_,h⟩|⟨g,cap,cur,h,_⟩
   ·exact h
   ·cases h
  subst h0
  have hs:ss=[]:=by
   have:=hown.1;simp at this;exact this
  subst hs
  refine(Tryz.slices_Compact_string_empty none 0 w).mono ?_
  rintro x w' ⟨rfl,rfl⟩
  exact⟨⟨_,_,rfl⟩,World.grownBy.refl _ _⟩
 ·obtain⟨g,cap,rfl,hbg,hgl,hncap,hcm,hlen,hH⟩:=Lib.holds_of_ownsRow hown hv
  subst hlen
  unfold maxLen at hcm
  refine(Tryz.slices_Compact_string g 0 cap ss w hH (by omega) (by omega)).mono ?_
  rintro x w' ⟨rfl,q,rfl⟩
  exact⟨⟨_,_,rfl⟩,yF _⟩
end
section
open Go
namespace Gr
section
variable {N:Type}
structure yU (all m M:List N):Prop where
 sub:∀x,x∈m->x∈M
 nd:m.Nodup->M.Nodup
 inn:(∀x,x∈m->x∈all)->∀x,x∈M->x∈all
theorem yU.refl (all m:List N):yU all m m:=⟨fun _ h=>h,fun h=>h,fun h=>h⟩
theorem yU.trans {all a b c:List N}(h:yU all a b)(k:yU all b c):yU all a c:=⟨fun x hx=>k.sub x (h.sub x hx),fun n=>k.nd (h.nd n),fun n=>k.inn (h.inn n)⟩
theorem yU.cons {all m:List N}{b:N}(hb:b∈all)(hn:b ∉ m):yU all m (b::m):=
 ⟨fun x hx=>List.mem_cons_of_mem _ hx,fun n=>List.nodup_cons.2 ⟨hn,n⟩,fun n x hx=>by
  rcases List.mem_cons.1 hx with rfl|q
  ·exact hb
  ·exact n x q⟩
end
end Gr
end
section
open Go
def bL (s:ByteArray):List UInt8:=digits s.size 1++s.data.toList
def eX (x:Exp):List UInt8:=bL x.name++digits x.at_ 2
def eG (x:Imp):List UInt8:=bL x.mod++bL x.name++digits x.major 1++digits x.minor 1
def gB (p:Pat):List UInt8:=digits p.kind 1++digits p.at_ 2++digits (p.sym+1) 1++digits p.add 2
def kG (m:Mod):List UInt8:=bL m.name++digits m.major 1++digits m.minor 1++digits m.text.size 2++m.text.data.toList
def dK (m:Mod):List UInt8:=kG m++digits m.ex.length 1++m.ex.flatMap eX++digits m.im.length 1++m.im.flatMap eG++digits m.pa.length 1++m.pa.flatMap gB
theorem kF {α:Type}{f:α->List UInt8}{K:Nat}:∀{l:List α},(∀x∈l,(f x).length<=K)->(l.flatMap f).length<=l.length*K
 | [],_=>by simp
 |x::l,h=>by
  have h1:=kF (l:=l) fun y hy=>h y (List.mem_cons_of_mem _ hy)
  have h2:=h x (by simp)
  rw[List.flatMap_cons,GZ8,GY8,Nat.succ_mul]
  omega
theorem Sm {α:Type}{f:α->List UInt8}{l:List α}{j:Nat}(h:j<l.length):(l.take (j+1)).flatMap f=(l.take j).flatMap f++f l[j]:=by
 rw[List.take_succ_eq_append_getElem h,List.flatMap_append]
 simp
theorem aT (s:ByteArray):(bL s).length=s.size+1:=by
 unfold bL
 rw[GZ8,digits_length]
 have:s.data.toList.length=s.size:=by rw[Array.length_toList];rfl
 omega
theorem lS (x:Exp):(eX x).length=x.name.size+3:=by
 unfold eX
 rw[GZ8,digits_length,aT]
theorem nW (x:Imp):(eG x).length=x.mod.size+x.name.size+4:=by
 unfold eG
 simp only[GZ8,digits_length,aT]
 omega
theorem lK (x:Pat):(gB x).length=6:=by
 unfold gB
 simp only[GZ8,digits_length]
end
section
open Go
abbrev Rest :=Option (List UInt8)
def txt (n:Nat):Rest->List UInt8×Rest
 |none=>([],none)
 |some s=>if s.length<n then([],none)else(s.take n,some (s.drop n))
def aI (k:Nat)(st:Rest):Int×Rest:=(num (txt k st).1,(txt k st).2)
def nam (st:Rest):List UInt8×Rest:=txt (aI 1 st).1.toNat (aI 1 st).2
def left :Rest->List UInt8
 |none=>[]
 |some s=>s
def dU {α:Type}(f:Rest->α×Rest):Nat->Rest->List α×Rest
 |0,st=>([],st)
 |_+1,none=>([],none)
 |n+1,some s=>((f (some s)).1::(dU f n (f (some s)).2).1,(dU f n (f (some s)).2).2)
abbrev sof (l:List UInt8):ByteArray:=⟨l.toArray⟩
def gF (st:Rest):Exp×Rest:=(⟨sof (nam st).1,(aI 2 (nam st).2).1⟩,(aI 2 (nam st).2).2)
def Ro (st:Rest):Imp×Rest:=
 let a:=nam st
 let b:=nam a.2
 let c:=aI 1 b.2
 let d:=aI 1 c.2
 (⟨sof a.1,sof b.1,c.1,d.1⟩,d.2)
def fZ (st:Rest):Pat×Rest:=
 let a:=aI 1 st
 let b:=aI 2 a.2
 let c:=aI 1 b.2
 let d:=aI 2 c.2
 (⟨a.1,b.1,c.1 -1,d.1⟩,d.2)
theorem wN {n:Nat}{s:List UInt8}(h:s.length<n):txt n (some s)=([],none):=by unfold txt;exact if_pos h
theorem oU {n:Nat}{s:List UInt8}(h:¬s.length<n):txt n (some s)=(s.take n,some (s.drop n)):=by unfold txt;exact if_neg h
theorem lI (n:Nat)(st:Rest):(txt n st).1.length=n\/(txt n st).1=[]/\(txt n st).2=none:=by
 cases st with
 |none=>exact .inr ⟨rfl,rfl⟩
 |some s=>
  by_cases h:s.length<n
  ·rw[wN h];exact .inr ⟨rfl,rfl⟩
  ·rw[oU h];left;rw[GY6];omega
theorem Mh (n:Nat)(st:Rest):(left (txt n st).2).length<=(left st).length:=by
 cases st with
 |none=>exact GZ3 _
 |some s=>
  by_cases h:s.length<n
  ·rw[wN h];simp[left]
  ·rw[oU h];simp[left]
theorem dZ (k:Nat)(st:Rest)(hk:k<=2):0<=(aI k st).1/\(aI k st).1<=65535:=by
 unfold aI
 have h0:=num_nonneg (txt k st).1
 have h1:=EP (txt k st).1
 have h2:(txt k st).1.length<=2:=by
  rcases lI k st with h|h
  ·omega
  ·rw[h.1];simp
 have h3:dV (txt k st).1.length<=65536:=by
  rw[qN]
  have:(2:Int)^(8*(txt k st).1.length)<=2^16:=by
   have:=Nat.pow_le_pow_right (show 0<2 by decide) (show 8*(txt k st).1.length<=16 by omega)
   exact_mod_cast this
  omega
 show 0<=num _/\num _<=65535
 omega
theorem Ru (st:Rest):(aI 1 st).1<=255:=by
 unfold aI
 have h1:=EP (txt 1 st).1
 have h2:(txt 1 st).1.length<=1:=by
  rcases lI 1 st with h|h
  ·omega
  ·rw[h.1];simp
 have h3:dV (txt 1 st).1.length<=256:=by
  rw[qN]
  have:(2:Int)^(8*(txt 1 st).1.length)<=2^8:=by
   have:=Nat.pow_le_pow_right (show 0<2 by decide) (show 8*(txt 1 st).1.length<=8 by omega)
   exact_mod_cast this
  omega
 show num _<=255
 omega
def d0 (l:List UInt8):=nam (some l)
def d1 (l:List UInt8):=aI 1 (d0 l).2
def d2 (l:List UInt8):=aI 1 (d1 l).2
def d3 (l:List UInt8):=aI 2 (d2 l).2
def d4 (l:List UInt8):=txt (d3 l).1.toNat (d3 l).2
def d5 (l:List UInt8):=dU gF (aI 1 (d4 l).2).1.toNat (aI 1 (d4 l).2).2
def d6 (l:List UInt8):=dU Ro (aI 1 (d5 l).2).1.toNat (aI 1 (d5 l).2).2
def d7 (l:List UInt8):=dU fZ (aI 1 (d6 l).2).1.toNat (aI 1 (d6 l).2).2
def pQ (l:List UInt8):Mod:=⟨sof (d0 l).1,(d1 l).1,(d2 l).1,sof (d4 l).1,(d5 l).1,(d6 l).1,(d7 l).1,none,0,none,0,none,0⟩
def dO (l:List UInt8):Int:=if(d7 l).2≠some []then 1 else aL (pQ l)
def zeroMod :Mod:=⟨sof [],0,0,sof [],[],[],[],none,0,none,0,none,0⟩
def iD (l:List UInt8):Mod:=if dO l≠0 then zeroMod else pQ l
structure gI (a b:Mod):Prop where
 name:a.name=b.name
 major:a.major=b.major
 minor:a.minor=b.minor
 text:a.text=b.text
 ex:a.ex=b.ex
 im:a.im=b.im
 pa:a.pa=b.pa
theorem gI.err {a b:Mod}(h:gI a b):aL a=aL b:=by
 unfold aL
 rw[h.name,h.major,h.minor,h.text,h.ex,h.im,h.pa]
theorem gI.enc {a b:Mod}(h:gI a b):dK a=dK b:=by
 unfold dK kG
 rw[h.name,h.major,h.minor,h.text,h.ex,h.im,h.pa]
theorem dB (n:Nat){st:Rest}{m:Nat}(h:(left st).length<=m):(left (txt n st).2).length<=m:=GY1 (Mh n st) h
theorem wS {st:Rest}{m:Nat}(h:(left st).length<=m):(left (nam st).2).length<=m:=dB _ (dB 1 h)
theorem NR {st:Rest}{m:Nat}(h:(left st).length<=m):(left (gF st).2).length<=m:=dB 2 (wS h)
theorem NT {st:Rest}{m:Nat}(h:(left st).length<=m):(left (Ro st).2).length<=m:=dB 1 (dB 1 (wS (wS h)))
theorem NF {st:Rest}{m:Nat}(h:(left st).length<=m):(left (fZ st).2).length<=m:=dB 2 (dB 1 (dB 2 (dB 1 h)))
theorem jC {α:Type}(f:Rest->α×Rest):∀(n:Nat)(st:Rest),(dU f n st).1.length<=n
 |0,_=>GZ3 _
 |_+1,none=>Nat.zero_le _
 |n+1,some _=>Nat.succ_le_succ (jC f n _)
theorem Tq {α:Type}{f:Rest->α×Rest}{Q:α->Prop}(h:∀st,Q (f st).1):∀(n:Nat)(st:Rest),∀x∈(dU f n st).1,Q x
 |0,_,x,hx=>by simp[dU]at hx
 |_+1,none,x,hx=>by simp[dU]at hx
 |n+1,some _,x,hx=>by
  rcases List.mem_cons.1 hx with rfl|hx
  ·exact h _
  ·exact Tq h n _ x hx
theorem NS (st:Rest):(nam st).1.length<=255:=by
 have h1:(nam st).1.length<=(aI 1 st).1.toNat:=by
  unfold nam
  rcases lI (aI 1 st).1.toNat (aI 1 st).2 with h|h
  ·omega
  ·rw[h.1];simp
 have h2:=Ru st
 have h3:=(dZ 1 st (by omega)).1
 omega
end
section
open Go.RowKit
structure Only (B:Nat)(w w':World):Prop where
 os:w'.os=w.os
 tape:w'.tape=w.tape
 output:w'.output=w.output
 size:w.heap.size<=w'.heap.size
 block:∀k,k<w.heap.size->k≠B->w'.heap[k]? =w.heap[k]?
theorem Only.refl (B:Nat)(w:World):Only B w w:=⟨rfl,rfl,rfl,GZ3 _,fun _ _ _=>rfl⟩
theorem Only.trans {B:Nat}{a b c:World}(h:Only B a b)(k:Only B b c):Only B a c:=
 ⟨k.os.trans h.os,k.tape.trans h.tape,k.output.trans h.output,GY1 h.size k.size,fun i hi hb=>(k.block i (GY0 hi h.size) hb).trans (h.block i hi hb)⟩
theorem Only.set {B:Nat}{w:World}(o:Nat)(v:Value):Only B w (w.setCell ⟨B,o,none⟩ v):=
 ⟨rfl,rfl,rfl,by simp[World.setCell],fun k _ hk=>Below.heap_setCell _ _ _ _ hk⟩
theorem Only.below {B:Nat}{w w':World}(h:Only B w w')(hB:B<=w.heap.size):Below B w w':=⟨h.os,h.tape,h.output,h.size,fun k hk=>h.block k (by omega) (by omega)⟩
theorem Only.cell {B:Nat}{w w':World}(h:Only B w w')(c o:Nat)(h1:c<w.heap.size)(h2:c≠B):w'.cell? ⟨c,o,none⟩=w.cell? ⟨c,o,none⟩:=World.cell?_of_block (h.block c h1 h2)
def Kp (ts:List TypeId)(w w':World):Prop:=∀(k:Nat)(cs:Array Value)(t:TypeId)(fr:Nat×Nat),w.heap[k]? =some (.cells cs t fr)->t ∉ ts->w'.heap[k]? =some (.cells cs t fr)
theorem Kp.refl (ts:List TypeId)(w:World):Kp ts w w:=fun _ _ _ _ h _=>h
theorem Kp.trans {ts:List TypeId}{a b c:World}(h:Kp ts a b)(k:Kp ts b c):Kp ts a c:=fun i cs t fr hi ht=>k i cs t fr (h i cs t fr hi ht) ht
theorem Kp.alloc {ts:List TypeId}{a b:World}(h:Kp ts a b)(o:Obj):Kp ts a (b.alloc o):=fun i cs t fr hi ht=>
 (heap_alloc_old b o (ZL (h i cs t fr hi ht))).trans (h i cs t fr hi ht)
theorem Only.kp {B:Nat}{w w':World}{cs:Array Value}{t:TypeId}{fr:Nat×Nat}(h:Only B w w')(hB:w.heap[B]? =some (.cells cs t fr)){ts:List TypeId}(ht:t∈ts):Kp ts w w':=fun i cs' t' fr' hi ht'=>by
 by_cases e:i=B
 ·subst e;rw[hB]at hi;injection hi with hi;injection hi with _ h2 _;subst h2;exact absurd ht ht'
 ·exact(h.block i (ZL hi) e).trans hi
theorem Kp.set {ts:List TypeId}{w:World}{b:Nat}{cs:Array Value}{t:TypeId}{fr:Nat×Nat}(hb:w.heap[b]? =some (.cells cs t fr))(ht:t∈ts)(o:Nat)(v:Value):Kp ts w (w.setCell ⟨b,o,none⟩ v):=
 (Only.set o v).kp hb ht
theorem Kp.grown {ts:List TypeId}{w w':World}{row:Option Nat}(hg:w.grownBy w' row)(hr:∀g,row=some g->∃cs t fr,w.heap[g]? =some (.cells cs t fr)/\t∈ts):Kp ts w w':=fun i cs t fr hi ht=>by
 refine(hg.block i (ZL hi) fun e=>?_).trans hi
 obtain⟨cs',t',fr',h1,h2⟩:=hr i e.symm
 rw[hi]at h1;injection h1 with h1;injection h1 with _ h3 _;subst h3;exact ht h2
theorem own_kp {ts:List TypeId}{w w':World}{base size n:Nat}{e:TypeId}{v:Value}{xs:List Value}(h:w.ownsRow base e size v n xs)(hk:Kp ts w w')(he:e ∉ ts):w'.ownsRow base e size v n xs:=by
 refine⟨h.1,?_⟩
 rcases h.2 with h0|⟨g,cap,cur,e1,e2,e3,e4⟩
 ·exact .inl h0
 ·exact .inr ⟨g,cap,cur,e1,e2,hk g _ _ _ e3 he,e4⟩
theorem own_kind {w:World}{base size n:Nat}{e:TypeId}{v:Value}{xs:List Value}(h:w.ownsRow base e size v n xs):∀g,v.ownBlock=some g->∃c fz,w.heap[g]? =some (.cells c e fz):=by
 intro g hg
 rcases h.2 with⟨rfl,_⟩|⟨g',cap,cur,rfl,_,hgg,_⟩
 ·simp[Value.ownBlock]at hg
 ·simp[Value.ownBlock]at hg
  subst hg
  exact⟨cur,_,hgg⟩
theorem heap_cell {w:World}{b:Nat}{cs:Array Value}{t:TypeId}{fr:Nat×Nat}(h:w.heap[b]? =some (.cells cs t fr))(o:Nat):w.cell? ⟨b,o,none⟩=cs[o]?:=by simp[World.cell?,h]
theorem heap_free {w:World}{b:Nat}{cs:Array Value}{t:TypeId}(h:w.heap[b]? =some (.cells cs t (0,0)))(o:Nat):w.frozen? ⟨b,o,none⟩=false:=by simp[World.frozen?,h]
theorem Kp.mono {ts ts':List TypeId}{w w':World}(h:Kp ts w w')(hs:∀t∈ts,t∈ts'):Kp ts' w w':=fun k cs t fr hk ht=>h k cs t fr hk (fun e=>ht (hs t e))
theorem heap_ne {w:World}{a b:Nat}{cs cs':Array Value}{t t':TypeId}{fr fr':Nat×Nat}(h:w.heap[a]? =some (.cells cs t fr))(h':w.heap[b]? =some (.cells cs' t' fr'))(ht:t≠t'):a≠b:=fun e=>by
 subst e;rw[h]at h';injection h' with h';injection h' with _ h2 _;exact ht h2
theorem box_kp {ts:List TypeId}{b:Nat}{t:TypeId}{v:Value}{w w':World}(h:Boxed w b t v)(hk:Kp ts w w')(ht:t ∉ ts):Boxed w' b t v:=hk _ _ _ _ h ht
theorem Tryz.infoExp :(Tryz.prog.info? 159).map (fun i=>(i.zero,i.size,i.bytes))=some (some (.agg #[.string ⟨#[]⟩,.int .i64 0]),2,24):=by kernel_rfl
def ExpOwn (w:World)(base:Nat)(v:Value)(l:List Exp):Prop:=w.ownsRow base 159 2 v l.length (l.flatMap Exp.cells)
theorem ExpOwn.row {w:World}{base:Nat}{v:Value}{l:List Exp}(h:ExpOwn w base v l):∃(A:Option Addr)(c:Nat),v=.slice A l.length c/\Row Exp.cells 2 w A l:=by
 rcases h.2 with⟨rfl,h0⟩|⟨g',cap,cur,rfl,_⟩
 ·exact⟨none,0,by rw[h0],⟨flat_length (enc:=Exp.cells) (k:=2) (fun _=>rfl) _,fun hn=>by omega⟩⟩
 ·exact⟨_,_,rfl,Reads.of_own h⟩
theorem ExpOwn.nil (w:World)(base:Nat):ExpOwn w base (.slice none 0 0) []:=World.ownsRow_nil _ _ _ _
theorem append_Exp (W:World){ops:Array Oper}{rest:List Oper}{o:Oper}{a:Act}{Q:Exit->Act->World->Prop}(hgd:o.guard=none)(s y:Operand)
  (ho:o.op=.call {callee:=.builtin .append,args:=#[s,y],argTypes:=#[22,22]}) (base:Nat) (v:Value) (l:List Exp) (x:Exp) (hs:a.eval s=v)
  (hx:a.eval y=.slice (some ⟨W.heap.size,0,none⟩) 1 1) (hown:ExpOwn W base v l) (hl:l.length<=1000000) (hbase:base<=W.heap.size)
  (h:∀v' w',ExpOwn w' base v' (l++[x])->(W.alloc (.cells #[.string x.name,.int .i64 x.at_] 159)).grownBy w' v.ownBlock->wpList Tryz.prog ops Q rest (a.put o.dst v') w'):wpList Tryz.prog ops Q (o::rest) a (W.alloc (.cells #[.string x.name,.int .i64 x.at_] 159)):=by
 obtain⟨i0,hi,hz0,hz1,hz2⟩:=info_parts Tryz.infoExp
 refine wpList_append_own_at (W.alloc (.cells #[.string x.name,.int .i64 x.at_] 159)) hgd s y 22 ho base 159 i0 (.agg #[.string ⟨#[]⟩,.int .i64 0]) 2 24 Tryz.underlying22 hi hz0 hz1 hz2 rfl (by decide) v l.length (l.flatMap Exp.cells) hs (hown.alloc _) ⟨W.heap.size,0,none⟩ 1 1 x.cells hx rfl
  ?_ (by intro u hu;simp only[Exp.cells,List.mem_cons,List.not_mem_nil,or_false]at hu;rcases hu with rfl|rfl<;>rfl) (by simp only[maxLen];omega) (by omega) (by simp;omega) ?_
 ·intro j u hu
  match j,hu with
  |0,hu=>simp only[Exp.cells,GZ0,Option.some.injEq]at hu;subst hu;rw[add_zero_,World.cell?_alloc_new];rfl
  |1,hu=>simp only[Exp.cells,GZ1,GZ0,Option.some.injEq]at hu;subst hu;rw[add_pos_ _ _ (by omega)];simp only[Nat.zero_add];rw[World.cell?_alloc_new];rfl
  |j+2,hu=>simp[Exp.cells]at hu
 intro v' w1 hown' hgrow _ _
 refine h v' w1 ?_ hgrow
 unfold ExpOwn
 simpa using hown'
theorem Tryz.infoImp :(Tryz.prog.info? 173).map (fun i=>(i.zero,i.size,i.bytes))=some (some (.agg #[.string ⟨#[]⟩,.string ⟨#[]⟩,.int .i64 0,.int .i64 0]),4,48):=by kernel_rfl
def ImpOwn (w:World)(base:Nat)(v:Value)(l:List Imp):Prop:=w.ownsRow base 173 4 v l.length (l.flatMap Imp.cells)
theorem ImpOwn.row {w:World}{base:Nat}{v:Value}{l:List Imp}(h:ImpOwn w base v l):∃(A:Option Addr)(c:Nat),v=.slice A l.length c/\Row Imp.cells 4 w A l:=by
 rcases h.2 with⟨rfl,h0⟩|⟨g',cap,cur,rfl,_⟩
 ·exact⟨none,0,by rw[h0],⟨flat_length (enc:=Imp.cells) (k:=4) (fun _=>rfl) _,fun hn=>by omega⟩⟩
 ·exact⟨_,_,rfl,Reads.of_own h⟩
theorem ImpOwn.nil (w:World)(base:Nat):ImpOwn w base (.slice none 0 0) []:=World.ownsRow_nil _ _ _ _
theorem append_Imp (W:World){ops:Array Oper}{rest:List Oper}{o:Oper}{a:Act}{Q:Exit->Act->World->Prop}(hgd:o.guard=none)(s y:Operand)
  (ho:o.op=.call {callee:=.builtin .append,args:=#[s,y],argTypes:=#[67,67]}) (base:Nat) (v:Value) (l:List Imp) (x:Imp) (hs:a.eval s=v)
  (hx:a.eval y=.slice (some ⟨W.heap.size,0,none⟩) 1 1) (hown:ImpOwn W base v l) (hl:l.length<=1000000) (hbase:base<=W.heap.size)
  (h:∀v' w',ImpOwn w' base v' (l++[x])->(W.alloc (.cells #[.string x.mod,.string x.name,.int .i64 x.major,.int .i64 x.minor] 173)).grownBy w' v.ownBlock->wpList Tryz.prog ops Q rest (a.put o.dst v') w'):wpList Tryz.prog ops Q (o::rest) a (W.alloc (.cells #[.string x.mod,.string x.name,.int .i64 x.major,.int .i64 x.minor] 173)):=by
 obtain⟨i0,hi,hz0,hz1,hz2⟩:=info_parts Tryz.infoImp
 refine wpList_append_own_at (W.alloc (.cells #[.string x.mod,.string x.name,.int .i64 x.major,.int .i64 x.minor] 173)) hgd s y 67 ho base 173 i0 (.agg #[.string ⟨#[]⟩,.string ⟨#[]⟩,.int .i64 0,.int .i64 0]) 4 48 Tryz.underlying67 hi hz0 hz1 hz2 rfl (by decide) v l.length (l.flatMap Imp.cells) hs (hown.alloc _) ⟨W.heap.size,0,none⟩ 1 1 x.cells hx rfl
  ?_ (by intro u hu;simp only[Imp.cells,List.mem_cons,List.not_mem_nil,or_false]at hu;rcases hu with rfl|rfl|rfl|rfl<;>rfl) (by simp only[maxLen];omega) (by omega) (by simp;omega) ?_
 ·intro j u hu
  match j,hu with
  |0,hu=>simp only[Imp.cells,GZ0,Option.some.injEq]at hu;subst hu;rw[add_zero_,World.cell?_alloc_new];rfl
  |1,hu=>simp only[Imp.cells,GZ1,GZ0,Option.some.injEq]at hu;subst hu;rw[add_pos_ _ _ (by omega)];simp only[Nat.zero_add];rw[World.cell?_alloc_new];rfl
  |2,hu=>simp only[Imp.cells,GZ1,GZ0,Option.some.injEq]at hu;subst hu;rw[add_pos_ _ _ (by omega)];simp only[Nat.zero_add];rw[World.cell?_alloc_new];rfl
  |3,hu=>simp only[Imp.cells,GZ1,GZ0,Option.some.injEq]at hu;subst hu;rw[add_pos_ _ _ (by omega)];simp only[Nat.zero_add];rw[World.cell?_alloc_new];rfl
  |j+4,hu=>simp[Imp.cells]at hu
 intro v' w1 hown' hgrow _ _
 refine h v' w1 ?_ hgrow
 unfold ImpOwn
 simpa using hown'
theorem Tryz.infoPat :(Tryz.prog.info? 180).map (fun i=>(i.zero,i.size,i.bytes))=some (some (.agg #[.int .i64 0,.int .i64 0,.int .i64 0,.int .i64 0]),4,32):=by kernel_rfl
def PatOwn (w:World)(base:Nat)(v:Value)(l:List Pat):Prop:=w.ownsRow base 180 4 v l.length (l.flatMap Pat.cells)
theorem PatOwn.row {w:World}{base:Nat}{v:Value}{l:List Pat}(h:PatOwn w base v l):∃(A:Option Addr)(c:Nat),v=.slice A l.length c/\Row Pat.cells 4 w A l:=by
 rcases h.2 with⟨rfl,h0⟩|⟨g',cap,cur,rfl,_⟩
 ·exact⟨none,0,by rw[h0],⟨flat_length (enc:=Pat.cells) (k:=4) (fun _=>rfl) _,fun hn=>by omega⟩⟩
 ·exact⟨_,_,rfl,Reads.of_own h⟩
theorem PatOwn.nil (w:World)(base:Nat):PatOwn w base (.slice none 0 0) []:=World.ownsRow_nil _ _ _ _
theorem append_Pat (W:World){ops:Array Oper}{rest:List Oper}{o:Oper}{a:Act}{Q:Exit->Act->World->Prop}(hgd:o.guard=none)(s y:Operand)
  (ho:o.op=.call {callee:=.builtin .append,args:=#[s,y],argTypes:=#[68,68]}) (base:Nat) (v:Value) (l:List Pat) (x:Pat) (hs:a.eval s=v)
  (hx:a.eval y=.slice (some ⟨W.heap.size,0,none⟩) 1 1) (hown:PatOwn W base v l) (hl:l.length<=1000000) (hbase:base<=W.heap.size)
  (h:∀v' w',PatOwn w' base v' (l++[x])->(W.alloc (.cells #[.int .i64 x.kind,.int .i64 x.at_,.int .i64 x.sym,.int .i64 x.add] 180)).grownBy w' v.ownBlock->wpList Tryz.prog ops Q rest (a.put o.dst v') w'):wpList Tryz.prog ops Q (o::rest) a (W.alloc (.cells #[.int .i64 x.kind,.int .i64 x.at_,.int .i64 x.sym,.int .i64 x.add] 180)):=by
 obtain⟨i0,hi,hz0,hz1,hz2⟩:=info_parts Tryz.infoPat
 refine wpList_append_own_at (W.alloc (.cells #[.int .i64 x.kind,.int .i64 x.at_,.int .i64 x.sym,.int .i64 x.add] 180)) hgd s y 68 ho base 180 i0 (.agg #[.int .i64 0,.int .i64 0,.int .i64 0,.int .i64 0]) 4 32 Tryz.underlying68 hi hz0 hz1 hz2 rfl (by decide) v l.length (l.flatMap Pat.cells) hs (hown.alloc _) ⟨W.heap.size,0,none⟩ 1 1 x.cells hx rfl
  ?_ (by intro u hu;simp only[Pat.cells,List.mem_cons,List.not_mem_nil,or_false]at hu;rcases hu with rfl|rfl|rfl|rfl<;>rfl) (by simp only[maxLen];omega) (by omega) (by simp;omega) ?_
 ·intro j u hu
  match j,hu with
  |0,hu=>simp only[Pat.cells,GZ0,Option.some.injEq]at hu;subst hu;rw[add_zero_,World.cell?_alloc_new];rfl
  |1,hu=>simp only[Pat.cells,GZ1,GZ0,Option.some.injEq]at hu;subst hu;rw[add_pos_ _ _ (by omega)];simp only[Nat.zero_add];rw[World.cell?_alloc_new];rfl
  |2,hu=>simp only[Pat.cells,GZ1,GZ0,Option.some.injEq]at hu;subst hu;rw[add_pos_ _ _ (by omega)];simp only[Nat.zero_add];rw[World.cell?_alloc_new];rfl
  |3,hu=>simp only[Pat.cells,GZ1,GZ0,Option.some.injEq]at hu;subst hu;rw[add_pos_ _ _ (by omega)];simp only[Nat.zero_add];rw[World.cell?_alloc_new];rfl
  |j+4,hu=>simp[Pat.cells]at hu
 intro v' w1 hown' hgrow _ _
 refine h v' w1 ?_ hgrow
 unfold PatOwn
 simpa using hown'
theorem results_cell_tmp {P:Program}{fn:Func}{p u:Tmp}{ty:TypeId}(h:fn.results=#[.cell p ty,.tmp u])(tmps:Array Value)(w:World)(g:Nat)(t:TypeId)(cs:Array Value)(fr:Nat×Nat)(d:TypeDesc)
  (hp:tmps.getD p undef=.pointer (some ⟨g,0,none⟩)) (hg:w.heap[g]? =some (.cells cs t fr))
  (hu:P.underlying ty=some d) (hd:(match d with| .struct _| .array _ _=>true|_=>false)=true) (hi:(P.info? ty).map (·.size)=some cs.size):
  (results fn tmps).run P w=.ok (.tuple #[.agg cs,tmps.getD u undef]) w:=by
 have hp':tmps[p]?.getD undef=.pointer (some ⟨g,0,none⟩):=by simpa using hp
 simp[results,h,hp',asAddr,run_loadVar_row w g t ty cs fr d hg hu hd hi]
theorem set7 {W:World}{b:Nat}{c0 c1 c2 c3 c4 c5 c6:Value}{t:TypeId}(h:W.heap[b]? =some (.cells #[c0,c1,c2,c3,c4,c5,c6] t (0,0)))(x0 x1 x2 x3 x4 x5 x6:Value):
  (((((((W.setCell ⟨b,0,none⟩ x0).setCell ⟨b,1,none⟩ x1).setCell ⟨b,2,none⟩ x2).setCell ⟨b,3,none⟩ x3).setCell ⟨b,4,none⟩ x4).setCell ⟨b,5,none⟩ x5).setCell ⟨b,6,none⟩ x6).heap[b]? =some (.cells #[x0,x1,x2,x3,x4,x5,x6] t (0,0))/\
  Only b W (((((((W.setCell ⟨b,0,none⟩ x0).setCell ⟨b,1,none⟩ x1).setCell ⟨b,2,none⟩ x2).setCell ⟨b,3,none⟩ x3).setCell ⟨b,4,none⟩ x4).setCell ⟨b,5,none⟩ x5).setCell ⟨b,6,none⟩ x6):=by
 have h0:(W.setCell ⟨b,0,none⟩ x0).heap[b]? =some (.cells #[x0,c1,c2,c3,c4,c5,c6] t (0,0)):=heap_setCell_same W b 0 _ _ x0 h
 have h1:((W.setCell ⟨b,0,none⟩ x0).setCell ⟨b,1,none⟩ x1).heap[b]? =some (.cells #[x0,x1,c2,c3,c4,c5,c6] t (0,0)):=heap_setCell_same (W.setCell ⟨b,0,none⟩ x0) b 1 _ _ x1 h0
 have h2:(((W.setCell ⟨b,0,none⟩ x0).setCell ⟨b,1,none⟩ x1).setCell ⟨b,2,none⟩ x2).heap[b]? =some (.cells #[x0,x1,x2,c3,c4,c5,c6] t (0,0)):=heap_setCell_same ((W.setCell ⟨b,0,none⟩ x0).setCell ⟨b,1,none⟩ x1) b 2 _ _ x2 h1
 have h3:((((W.setCell ⟨b,0,none⟩ x0).setCell ⟨b,1,none⟩ x1).setCell ⟨b,2,none⟩ x2).setCell ⟨b,3,none⟩ x3).heap[b]? =some (.cells #[x0,x1,x2,x3,c4,c5,c6] t (0,0)):=heap_setCell_same (((W.setCell ⟨b,0,none⟩ x0).setCell ⟨b,1,none⟩ x1).setCell ⟨b,2,none⟩ x2) b 3 _ _ x3 h2
 have h4:(((((W.setCell ⟨b,0,none⟩ x0).setCell ⟨b,1,none⟩ x1).setCell ⟨b,2,none⟩ x2).setCell ⟨b,3,none⟩ x3).setCell ⟨b,4,none⟩ x4).heap[b]? =some (.cells #[x0,x1,x2,x3,x4,c5,c6] t (0,0)):=heap_setCell_same ((((W.setCell ⟨b,0,none⟩ x0).setCell ⟨b,1,none⟩ x1).setCell ⟨b,2,none⟩ x2).setCell ⟨b,3,none⟩ x3) b 4 _ _ x4 h3
 have h5:((((((W.setCell ⟨b,0,none⟩ x0).setCell ⟨b,1,none⟩ x1).setCell ⟨b,2,none⟩ x2).setCell ⟨b,3,none⟩ x3).setCell ⟨b,4,none⟩ x4).setCell ⟨b,5,none⟩ x5).heap[b]? =some (.cells #[x0,x1,x2,x3,x4,x5,c6] t (0,0)):=heap_setCell_same (((((W.setCell ⟨b,0,none⟩ x0).setCell ⟨b,1,none⟩ x1).setCell ⟨b,2,none⟩ x2).setCell ⟨b,3,none⟩ x3).setCell ⟨b,4,none⟩ x4) b 5 _ _ x5 h4
 have h6:(((((((W.setCell ⟨b,0,none⟩ x0).setCell ⟨b,1,none⟩ x1).setCell ⟨b,2,none⟩ x2).setCell ⟨b,3,none⟩ x3).setCell ⟨b,4,none⟩ x4).setCell ⟨b,5,none⟩ x5).setCell ⟨b,6,none⟩ x6).heap[b]? =some (.cells #[x0,x1,x2,x3,x4,x5,x6] t (0,0)):=heap_setCell_same ((((((W.setCell ⟨b,0,none⟩ x0).setCell ⟨b,1,none⟩ x1).setCell ⟨b,2,none⟩ x2).setCell ⟨b,3,none⟩ x3).setCell ⟨b,4,none⟩ x4).setCell ⟨b,5,none⟩ x5) b 6 _ _ x6 h5
 exact⟨h6,((((((Only.set 0 x0).trans (Only.set 1 x1)).trans (Only.set 2 x2)).trans (Only.set 3 x3)).trans (Only.set 4 x4)).trans (Only.set 5 x5)).trans (Only.set 6 x6)⟩
theorem own_same {w w':World}{base size n:Nat}{e:TypeId}{v:Value}{xs:List Value}(h:w.ownsRow base e size v n xs)(hb:∀g,base<=g->g<w.heap.size->w'.heap[g]? =w.heap[g]?):w'.ownsRow base e size v n xs:=by
 refine⟨h.1,?_⟩
 rcases h.2 with h0|⟨g,cap,cur,e1,e2,e3,e4⟩
 ·exact .inl h0
 ·exact .inr ⟨g,cap,cur,e1,e2,(hb g e2 (ZL e3)).trans e3,e4⟩
theorem mk_ok {W:World}{base:Nat}{a0 a3:ByteArray}{a1 a2:Int}{es:List Exp}{is:List Imp}{ps:List Pat}{eA iA pA:Option Addr}{eC iC pC:Nat}(hE:ExpOwn W base (.slice eA es.length eC) es)(hI:ImpOwn W base (.slice iA is.length iC) is)(hP:PatOwn W base (.slice pA ps.length pC) ps)
  (hq:es.length<=big/\(∀x∈es,x.name.size<=big)/\is.length<=big/\(∀x∈is,x.mod.size<=big/\x.name.size<=big)/\ps.length<=big/\a0.size<=big/\a3.size<=big):(⟨a0,a1,a2,a3,es,is,ps,eA,eC,iA,iC,pA,pC⟩:Mod).ok W:=
 ⟨⟨Reads.of_own hE,hq.1,hq.2.1⟩,⟨Reads.of_own hI,hq.2.2.1,hq.2.2.2.1⟩,⟨Reads.of_own hP,hq.2.2.2.2.1⟩,hq.2.2.2.2.2.1,hq.2.2.2.2.2.2⟩
theorem zero_ok (W:World):zeroMod.ok W:=⟨⟨Row.nil,Nat.zero_le _,by simp[zeroMod]⟩,⟨Row.nil,Nat.zero_le _,by simp[zeroMod]⟩,⟨Row.nil,Nat.zero_le _⟩,Nat.zero_le _,Nat.zero_le _⟩
end
section
open Go.RowKit
theorem gY {W:World}{b:Nat}{c0 c1 c2 c3:Value}{t:TypeId}(h:W.heap[b]? =some (.cells #[c0,c1,c2,c3] t (0,0)))(x0 x1 x2 x3:Value):
  ((((W.setCell ⟨b,0,none⟩ x0).setCell ⟨b,1,none⟩ x1).setCell ⟨b,2,none⟩ x2).setCell ⟨b,3,none⟩ x3).heap[b]? =some (.cells #[x0,x1,x2,x3] t (0,0))/\Only b W ((((W.setCell ⟨b,0,none⟩ x0).setCell ⟨b,1,none⟩ x1).setCell ⟨b,2,none⟩ x2).setCell ⟨b,3,none⟩ x3):=by
 have h1:(W.setCell ⟨b,0,none⟩ x0).heap[b]? =some (.cells #[x0,c1,c2,c3] t (0,0)):=heap_setCell_same W b 0 _ _ x0 h
 have h2:((W.setCell ⟨b,0,none⟩ x0).setCell ⟨b,1,none⟩ x1).heap[b]? =some (.cells #[x0,x1,c2,c3] t (0,0)):=heap_setCell_same (W.setCell ⟨b,0,none⟩ x0) b 1 _ _ x1 h1
 have h3:(((W.setCell ⟨b,0,none⟩ x0).setCell ⟨b,1,none⟩ x1).setCell ⟨b,2,none⟩ x2).heap[b]? =some (.cells #[x0,x1,x2,c3] t (0,0)):=heap_setCell_same ((W.setCell ⟨b,0,none⟩ x0).setCell ⟨b,1,none⟩ x1) b 2 _ _ x2 h2
 have h4:((((W.setCell ⟨b,0,none⟩ x0).setCell ⟨b,1,none⟩ x1).setCell ⟨b,2,none⟩ x2).setCell ⟨b,3,none⟩ x3).heap[b]? =some (.cells #[x0,x1,x2,x3] t (0,0)):=heap_setCell_same (((W.setCell ⟨b,0,none⟩ x0).setCell ⟨b,1,none⟩ x1).setCell ⟨b,2,none⟩ x2) b 3 _ _ x3 h3
 exact⟨h4,((((Only.set 0 x0).trans (Only.set 1 x1)).trans (Only.set 2 x2)).trans (Only.set 3 x3))⟩
end
section
open Go.RowKit Go.Lib
theorem Tryz.T9 :(Tryz.prog.info? 83).map (·.size)=some 8:=by kernel_rfl
def jB :Mod:=⟨⟨#[]⟩,0,0,⟨#[]⟩,[],[],[],none,0,none,0,none,0⟩
theorem xQ {m:Mod}(h:aL m=0):m.ex.length<=1000000/\m.im.length<=1000000/\m.pa.length<=1000000:=by
 have q:=aY h
 exact⟨GY1 q.2.2.2.2.2.1 (by omega),GY1 q.2.2.2.2.2.2.1 (by omega),GY1 q.2.2.2.2.2.2.2.1 (by omega)⟩
end
section
open Go.RowKit
def Rd (B:Nat)(st:Rest)(w:World):Prop:=w.heap[B]? =some (.cells #[.string (sof (left st)),.bool st.isNone] 188 (0,0))
theorem Rd.lt {B:Nat}{st:Rest}{w:World}(h:Rd B st w):B<w.heap.size:=(ZL h)
theorem Rd.cells {B:Nat}{st:Rest}{w:World}(h:Rd B st w):w.cell? ⟨B,0,none⟩=some (.string (sof (left st)))/\w.cell? ⟨B,1,none⟩=some (.bool st.isNone)/\w.frozen? ⟨B,0,none⟩=false/\w.frozen? ⟨B,1,none⟩=false:=by
 unfold Rd at h
 refine⟨?_,?_,?_,?_⟩<;>simp[World.cell?,World.frozen?,h]
theorem kH (l:List UInt8):(sof l).size=l.length:=by show l.toArray.size=_;simp
theorem Tw (l:List UInt8)(a b:Nat):(sof l).extract a b=sof ((l.take b).drop a):=by
 refine ba_eq ?_
 rw[Lib.extract_data]
 simp[List.drop_take]
theorem VI (B:Nat)(st:Rest)(n:Nat)(w:World)(h:Rd B st w)(hl:(left st).length<=big)(_hn:n<=100000):
  Calls Tryz.prog 129 #[.pointer (some ⟨B,0,none⟩),.int .i64 n] w fun e w'=>e=.returned (.string (sof (txt n st).1))/\Rd B (txt n st).2 w'/\Only B w w':=by
 obtain⟨c0,c1,f0,f1⟩:=h.cells
 have H:=Hp h
 unfold big at hl
 have hsz:=kH (left st)
 by_cases t0:(left st).length<n
 ·have t0':((left st).length:Int)<n:=by omega
  have hT:txt n st=([],none):=by
   cases st with
   |none=>rfl
   |some s=>exact wN t0
  have HT:=Hp hT
  clear h hT
  go_enter Tryz.func129,Tryz.ntmps129
  go_wp2_with fail
  go_ret
  refine⟨by rw[HT.out];rfl,?_,(Only.set 0 _).trans (Only.set 1 _)⟩
  rw[HT.out]
  unfold Rd
  have e1:=heap_setCell_same w B 0 _ _ (.string ⟨#[]⟩) H.out
  have e2:=heap_setCell_same _ B 1 _ _ (.bool true) e1
  rw[e2]
  rfl
 ·have t0':decide (((left st).length:Int)<n)=false:=by simp;omega
  have t1:(n:Int)<=(left st).length:=by omega
  have hT:(txt n st).1=(left st).take n/\left (txt n st).2=(left st).drop n/\(txt n st).2.isNone=st.isNone:=by
   cases st with
   |none=>exact⟨by simp[txt,left],by simp[txt,left],rfl⟩
   |some s=>rw[oU (show¬s.length<n from t0)];exact⟨rfl,rfl,rfl⟩
  have HT:=Hp hT
  clear h hT
  go_enter Tryz.func129,Tryz.ntmps129
  go_wp2_with fail
  go_ret
  obtain⟨e1,e2,e3⟩:=HT.out
  refine⟨?_,?_,Only.set 0 _⟩
  ·show Ending.returned (.string ((sof (left st)).extract 0 n))=_
   rw[Tw,e1]
   simp
  ·unfold Rd
   rw[e2,e3,heap_setCell_same w B 0 _ _ _ H.out,Tw]
   simp[List.take_of_length_le]
theorem Ia (n:Nat)(st:Rest):(txt n st).1.length<=n:=by
 rcases lI n st with h|h
 ·omega
 ·rw[h.1];simp
theorem eY (B:Nat)(st:Rest)(k:Nat)(w:World)(h:Rd B st w)(hl:(left st).length<=big)(hk1:1<=k)(hk:k<=4):
  Calls Tryz.prog 128 #[.pointer (some ⟨B,0,none⟩),.int .i64 k] w fun e w'=>e=.returned (.int .i64 (aI k st).1)/\Rd B (aI k st).2 w'/\Only B w w':=by
 have cT:=Hp (VI B st k w h hl (by omega))
 have hln:=lI k st
 have hle:=Ia k st
 have e1:(aI k st).1=num (txt k st).1:=rfl
 have e2:(aI k st).2=(txt k st).2:=rfl
 rw[e1,e2]
 generalize txt k st=T at*
 obtain⟨t,st2⟩:=T
 simp only at cT hln hle e1 e2 ⊢
 clear e1 e2 h
 have hsz:=kH t
 rcases hln with hln|⟨rfl,rfl⟩
 ·have cG:=Hp (fun W=>QL (sof t) 0 k W (by rw[hsz];omega) (by rw[hsz];exact pU (by omega) (by omega) (by omega) (by omega)))
  have hd:((sof t).data.toList.drop 0).take k=t:=by simp[<-hln]
  rw[hd]at cG
  change Hid (∀W,Calls _ _ #[.string (sof t),.int .i64 0,.int .i64 k] W _)at cG
  clear hd hln hle
  go_enter Tryz.func128,Tryz.ntmps128
  go_wp2_with (first|(go_at_call 129;refine(cT.out).mono ?_;rintro e w2 ⟨rfl,h2,ho2⟩;have H2:=Hp h2;clear h2)|(go_at_call 197;with_reducible refine(cG.out _).mono ?_;rintro e w3 ⟨rfl,rfl⟩))
  go_ret
  exact⟨rfl,H2.out,ho2⟩
 ·have cG:=Hp (fun W=>Q6 (sof []) 0 k W (by rw[hsz];simp) (by
   rw[hsz];unfold eQ;rw[if_neg (by omega),if_pos (by simp;omega)];omega))
  clear hle
  go_enter Tryz.func128,Tryz.ntmps128
  go_wp2_with (first|(go_at_call 129;refine(cT.out).mono ?_;rintro e w2 ⟨rfl,h2,ho2⟩;have H2:=Hp h2;clear h2)|(go_at_call 197;with_reducible refine(cG.out _).mono ?_;rintro e w3 ⟨rfl,rfl⟩))
  go_ret
  exact⟨rfl,H2.out,ho2⟩
theorem rJ (B:Nat)(st:Rest)(w:World)(h:Rd B st w)(hl:(left st).length<=big):
  Calls Tryz.prog 127 #[.pointer (some ⟨B,0,none⟩)] w fun e w'=>e=.returned (.string (sof (nam st).1))/\Rd B (nam st).2 w'/\Only B w w':=by
 have c1:=Hp (eY B st 1 w h hl (by omega) (by omega))
 have h1:=(dZ 1 st (by omega)).1
 have h2:=Ru st
 have hl2:(left (aI 1 st).2).length<=big:=dB 1 hl
 have en:nam st=txt (aI 1 st).1.toNat (aI 1 st).2:=rfl
 rw[en]
 generalize aI 1 st=T at*
 obtain⟨n,st2⟩:=T
 simp only at c1 h1 h2 hl2 ⊢
 obtain⟨k,rfl⟩:∃k:Nat,n=k:=⟨n.toNat,by omega⟩
 have c2:=Hp (fun W hW=>VI B st2 k W hW hl2 (by omega))
 have ek:((k:Int)).toNat=k:=by omega
 rw[ek]
 change Hid (Calls _ _ #[_,.int .i64 1] w _)at c1
 clear h en ek
 go_enter Tryz.func127,Tryz.ntmps127
 go_wp2_with (first|(go_at_call 128;refine(c1.out).mono ?_;rintro e w2 ⟨rfl,h2,ho2⟩;have H2:=Hp h2;clear h2)|(go_at_call 129;refine(c2.out _ H2.out).mono ?_;rintro e w3 ⟨rfl,h3,ho3⟩;have H3:=Hp h3;clear h3))
 go_ret
 exact⟨rfl,H3.out,ho2.trans ho3⟩
end
section
open Go.RowKit
theorem SX {α:Type}(f:Rest->α×Rest)(n:Nat):dU f n none=([],none):=by cases n<;>rfl
theorem UA {α:Type}(f:Rest->α×Rest)(n:Nat)(s:List UInt8):dU f (n+1) (some s)=((f (some s)).1::(dU f n (f (some s)).2).1,(dU f n (f (some s)).2).2):=rfl
theorem xP {α:Type}(f:Rest->α×Rest)(B g:Nat)(lb:Array Value)(I:List α->Rest->World->Prop)(st:Rest)(w:World)
  (eg:∀args w,(callFunc g args).run Tryz.prog w=.ok (.enter g args) w)
  (hRd:∀xs st W,I xs st W->Rd B st W) (hl:(left st).length<=big)
  (hnum:∀W',Only B w W'->Rd B (aI 1 st).2 W'->I [] (aI 1 st).2 W')
  (hdo:∀xs s W,xs.length<=255->I xs (some s) W->Calls Tryz.prog g lb W fun e w'=>(∃u,e=.returned u)/\I (xs++[(f (some s)).1]) (f (some s)).2 w')
  (h:Rd B st w):
  Calls Tryz.prog 130 #[.pointer (some ⟨B,0,none⟩),.func (.func g) #[] lb] w fun e w'=>(∃u,e=.returned u)/\I (dU f (aI 1 st).1.toNat (aI 1 st).2).1 (dU f (aI 1 st).1.toNat (aI 1 st).2).2 w':=by
 have c1:=Hp (eY B st 1 w h hl (by omega) (by omega))
 change Hid (Calls _ _ #[_,.int .i64 1] w _)at c1
 have r1:=dZ 1 st (by omega)
 have r2:=Ru st
 obtain⟨c,hc⟩:∃c:Nat,(aI 1 st).1=c:=⟨(aI 1 st).1.toNat,by omega⟩
 rw[hc]at c1 r1 r2
 have hc2:(aI 1 st).1.toNat=c:=by omega
 rw[hc2]
 obtain⟨T,hT⟩:=Nm (dU f c (aI 1 st).2)
 rw[<-hT]
 have HT:=Hp hT
 have HD:=Hp hdo
 have HN:=Hp hnum
 have HRD:=Hp hRd
 clear hc hc2 hT hdo hnum hRd r1 h
 go_enter Tryz.func130,Tryz.ntmps130
 go_wp2_with (go_at_call 128;refine(c1.out).mono ?_;rintro e w2 ⟨rfl,h2,ho2⟩;have I2:=Hp (HN.out w2 ho2 h2);clear h2 ho2)
 go_loopw [4] (fun i wr=>∃(n:Nat)(xs:List α)(st':Rest),i=.int .i64 n/\n+xs.length<=255/\I xs st' wr/\xs++(dU f n st').1=T.1/\(dU f n st').2=T.2) (fun i _=>(intOf i).toNat)
 case atStart=>exact⟨c,[],_,rfl,by simp;omega,I2.out,by rw[HT.out];rfl,by rw[HT.out]⟩
 case round=>
  obtain⟨n,xs,st',rfl,hn,hI,e1,e2⟩:=hrel
  obtain⟨c0,c1',f0,f1⟩:=(HRD.out _ _ _ hI).cells
  have HI:=Hp hI
  clear hI
  by_cases hn0:n=0
  ·subst hn0
   have E1:=Hp (show xs=T.1 by rw[<-e1];simp[dU])
   have E2:=Hp (show st'=T.2 from e2)
   clear e1 e2 c0 c1' f0 f1
   go_wp2_with fail
   go_end0
   exact⟨⟨_,rfl⟩,by rw[<-E1.out,<-E2.out];exact HI.out⟩
  ·obtain⟨k,hk⟩:∃k,n=k+1:=⟨n -1,by omega⟩
   have hn1:0<n:=by omega
   have hn2:(0:Int)<n:=by omega
   have q1:IntKind.i64.wrap ((n:Int) -1)=k:=by rw[IntWalk.i64_in _ (by omega)];omega
   have hkl:k+(xs.length+1)<=255:=by omega
   have hxl:xs.length<=255:=by omega
   have hkn:k<n:=by omega
   rw[hk]at e1 e2
   cases st' with
   |none=>
    have E1:=Hp (show xs=T.1 by rw[<-e1,SX];simp)
    have E2:=Hp (show none=T.2 by rw[<-e2,SX])
    simp only[Option.isNone_none]at c1'
    clear e1 e2 c0 hk hn0
    go_wp2_with fail
    go_end0
    exact⟨⟨_,rfl⟩,by rw[<-E1.out,<-E2.out];exact HI.out⟩
   |some s=>
    simp only[Option.isNone_some]at c1'
    have cD:=Hp (HD.out xs s _ hxl HI.out)
    rw[UA]at e1 e2
    have E1:=Hp (show(xs++[(f (some s)).1])++(dU f k (f (some s)).2).1=T.1 by rw[<-e1];simp)
    have E2:=Hp e2
    have HKN:=Hp hkn
    have HKL:=Hp hkl
    clear e1 e2 c0 hk hn0 hkn hkl hn
    go_wp2_with fail
    refine(cD.out).mono ?_
    rintro e w3 ⟨⟨u,rfl⟩,h3⟩
    have I3:=Hp h3
    clear h3 cD HI HD HN HRD I2
    go_wp2_with fail
    go_roundw
    case rel=>exact⟨k,xs++[(f (some s)).1],(f (some s)).2,rfl,by rw[GZ8];exact HKL.out,I3.out,E1.out,E2.out⟩
    case measure=>(have:=HKN.out;simp[intOf];try omega)
end
end Go.Proofs.YtjiedaialianmaaGreat
