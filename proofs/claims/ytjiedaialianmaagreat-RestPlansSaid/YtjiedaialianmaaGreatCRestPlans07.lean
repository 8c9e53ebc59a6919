import Derived.Test.YtjiedaialianmaaGreatCRestPlans04
namespace Go.Proofs.YtjiedaialianmaaGreat
open Go.RowKit Go.Lib
theorem cm_mem {c:Cm}{l:List Plc}{y:Plc}(h:y∈cmL c l):y.m=c.m\/y∈l:=by
 unfold cmL at h
 split at h
 ·rcases mU.1 h with rfl|h
  ·exact .inl rfl
  ·exact .inr h
 ·split at h
  ·exact .inr (List.mem_of_mem_eraseIdx h)
  ·unfold qF at h
   rcases mU.1 h with rfl|h
   ·exact .inl rfl
   ·exact .inr (List.mem_of_mem_eraseIdx h)
theorem plan_zero {k:Krn}{c:Cm}{l:List Plc}(h:planErr k c l=0):aZ k l=0/\kP k c l=0/\kC c l=0/\aZ k (cmL c l)=0:=by
 unfold planErr at h
 by_cases e:aZ k l=0
 ·rw[if_neg (by omega)]at h
  exact⟨e,h,(Px h).1,(Px h).2⟩
 ·rw[if_pos e]at h;exact absurd h e
theorem plan_there {k:Krn}{A:Option Addr}{l:List Plc}{w:World}{b:Cm}(u:k.ok w)(h:aU w A l)(s:b.m.ok w):∀(W:World)(c:Nat)(f:Krn)(o:Option Addr)(d:List Plc)(q:Nat),UQ W c f o d q (wK (planErr k b l) k) (wL (planErr k b l) (cmL b l))->
  dL W f o d/\(planErr k b l=0->f.bare=k.bare/\aD d=aD (cmL b l))/\(planErr k b l≠0->f.bare=Rk/\d=[]):=fun W c f o d q g=>by
 by_cases t:planErr k b l=0
 ·have a:=g
  rw[t,wK0,wL0]at a
  have B:=(oL (plan_zero t).2.2.2).2.2.1
  have z:d.length=(cmL b l).length:=nY a.mods
  refine⟨⟨a.own.okK a.RU u,⟨Reads.of_own a.own.mods.row,by unfold big;omega,fun x n=>?_⟩⟩,fun _=>⟨a.RU,a.mods⟩,fun e=>absurd t e⟩
  have j:x.bare∈aD (cmL b l):=a.mods▸List.mem_map_of_mem n
  obtain⟨y,i,e⟩:=List.mem_map.1 j
  have p:y.m.bare=x.m.bare:=congrArg Plc.m e
  rcases cm_mem i with v|i
  ·exact(a.own.mods.each x n).ok (uS (by rw[<-v];exact p.symm)) s
  ·exact(a.own.mods.each x n).ok (uS p.symm) (h.each y i)
 ·have a:=g
  rw[wKE t,wLE t]at a
  have r:d=[]:=by have:=nY a.mods;exact GY9 this
  exact⟨UQ.QB a (Sg W) (⟨Row.nil,Nat.zero_le _,by simp⟩:aU W none []) rfl,fun e=>absurd e t,fun _=>⟨a.RU,r⟩⟩
theorem planErr_like {k b:Krn}{c f:Cm}{l a:List Plc}(e:k.bare=b.bare)(g:c.bare=f.bare)(d:aD l=aD a):planErr k c l=planErr b f a:=by
 unfold planErr
 rw[kQ e d,VM e g d]
end Go.Proofs.YtjiedaialianmaaGreat
