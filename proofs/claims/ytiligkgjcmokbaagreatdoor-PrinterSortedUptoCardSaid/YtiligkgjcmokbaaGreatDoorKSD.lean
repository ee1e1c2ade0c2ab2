/- The texts PGrow, PFree, Zx, laid together. Conditions: none. -/
import Derived.Test.YtiligkgjcmokbaaGreatDoorKSC
set_option linter.all false
namespace Go.Lx
open Go.RowKit
variable {α:Type} {Hs:HP} {fz:FZ} {n c g:Nat} {v:Value} {A:Option Addr} {cs:List Value} {L:Lay α} {l:List α}
def Grow {α:Type} (L:Lay α) (e:Nat) (fz:FZ) (v:Value) (n:Nat) (Hs:HP) (l:List α):Prop:=
 ∃ xs:List (α × List Value),xs.map Prod.fst=l/\(∀ p∈xs,L.rep fz p.1 p.2)/\l.length=n/\OwnS e L.size v n (xs.flatMap Prod.snd) Hs
theorem Grow.nil (L:Lay α) (e:Nat) (fz:FZ):Grow L e fz Zn 0 [] ([]:List α):=⟨[],rfl,by simp,rfl,OwnS.nil e L.size⟩
theorem Grow.mono {α:Type} {L:Lay α} {e:Nat} {fz fz':FZ} (h:Le fz fz') {v:Value} {n:Nat} {Hs:HP} {l:List α} (hg:Grow L e fz v n Hs l):Grow L e fz' v n Hs l:=by
 obtain ⟨xs,h1,h2,h3,h4⟩:=hg;exact ⟨xs,h1,fun p hp=>L.mono h (h2 p hp),h3,h4⟩
theorem Grow.form {α:Type} {L:Lay α} {e:Nat} {fz:FZ} {v:Value} {n:Nat} {Hs:HP} {l:List α} (hg:Grow L e fz v n Hs l):∃ A c,v=.slice A n c/\n<=c/\c<=9223372036854775807:=by
 obtain ⟨_,_,_,_,h⟩:=hg;exact h.form
theorem Grow.len {α:Type} {L:Lay α} {e:Nat} {fz:FZ} {v:Value} {n:Nat} {Hs:HP} {l:List α} (hg:Grow L e fz v n Hs l):l.length=n:=by
 obtain ⟨_,_,_,h,_⟩:=hg;exact h
theorem Grow.of {e:Nat} {n':Nat} {l':List α} (hg:Grow L e fz v n Hs l) (hl:l=l') (hn:n=n'):Grow L e fz v n' Hs l':=by
 subst hl hn;exact hg
theorem Ye3 {α:Type} {z:Nat}:∀ {l:List (α × List Value)} {i j:Nat} {x:α × List Value} {u:Value},(∀ p∈l,p.2.length=z)->l[i]?=some x->x.2[j]?=some u->(l.flatMap Prod.snd)[i*z+j]?=some u
 | [],i,j,x,u,_,h,_=>by simp at h
 | y::r,0,j,x,u,_,h,hu=>by
  simp at h;subst h;have hj:j<y.2.length:=(Zg hu).1;rw [List.flatMap_cons,Nat.zero_mul,Nat.zero_add,List.getElem?_append_left hj];exact hu
 | y::r,i+1,j,x,u,hz,h,hu=>by
  have h2:=Ye3 (z:=z) (l:=r) (i:=i) (j:=j) (x:=x) (u:=u) (fun p hp=>hz p (by simp [hp])) (by simpa using h) hu;have hy:=hz y (by simp);have e:(i+1)*z+j=z+(i*z+j):=by rw [Nat.succ_mul];omega
  rw [List.flatMap_cons,e,List.getElem?_append_right (by rw [hy];omega),hy,Nat.add_sub_cancel_left];exact h2
theorem Ya1 {α:Type} {z:Nat}:∀ {l:List (α × List Value)},(∀ p∈l,p.2.length=z)->(l.flatMap Prod.snd).length=l.length*z
 | [],_=>by simp
 | y::r,h=>by
  rw [List.flatMap_cons,List.length_append,Ya1 (fun p hp=>h p (by simp [hp])),h y (by simp),List.length_cons,Nat.succ_mul];omega
theorem Grow.sl {α:Type} {L:Lay α} {e:Nat} {fz fz':FZ} {v:Value} {n:Nat} {Hs:HP} {l:List α} (hg:Grow L e fz v n Hs l) (hle:Le fz fz') (hf:∀ p∈Hs,fz' p.1=some p.2) (hn:n<=140737488355328):∃ A c,v=.slice A n c/\Sl L fz' A n c l:=by
 obtain ⟨xs,rfl,h2,h3,h4⟩:=hg;obtain ⟨A,c,e1,e2,e3,e4⟩:=h4.row hf;refine ⟨A,c,e1,e4.sl e2 e3 hn h3 fun i d hd=>?_⟩;rw [List.getElem?_map] at hd;cases hx:xs[i]? with
 | none=>simp [hx] at hd
 | some x=>
  simp [hx] at hd;subst hd;exact ⟨x.2,L.mono hle (h2 x (Zm hx)),fun j u hu=>Ye3 (fun p hp=>L.len (h2 p hp)) hx hu⟩
theorem Sl.pairs (h:Sl L fz A n c l):∃ xs:List (α × List Value),xs.map Prod.fst=l/\(∀ p∈xs,L.rep fz p.1 p.2)/\RowS fz A n (xs.flatMap Prod.snd):=by
 rcases h.elem with h0 | ⟨ad,h1,h2⟩
 ·have:=h.len;have hl:l=[]:=List.eq_nil_of_length_eq_zero Zi;subst hl;exact ⟨[],rfl,by simp,.inl h0⟩
 have key:∀ (m:Nat),m<=l.length->∃ xs:List (α × List Value),xs.map Prod.fst=l.take m/\(∀ p∈xs,L.rep fz p.1 p.2)/\Row fz ad (xs.flatMap Prod.snd):=by
  intro m
  induction m with
  | zero=>exact fun _=>⟨[],by simp,by simp,fun j v hv=>by simp at hv⟩
  | succ m ih=>
   intro hm;obtain ⟨xs,e1,e2,e3⟩:=ih Zi;have hx:l[m]?=some l[m]:=List.getElem?_eq_getElem Zi;obtain ⟨cs,hr,hrow⟩:=h2 m _ hx;have hlen:xs.length=m:=by have:=congrArg List.length e1;simp at this;omega
   have hz:∀ p∈xs,p.2.length=L.size:=fun p hp=>L.len (e2 p hp)
   refine ⟨xs++ [(l[m],cs)],by rw [List.map_append,e1,List.take_add_one,hx];rfl,fun p hp=>?_,fun j v hv=>?_⟩
   ·rcases List.mem_append.1 hp with hp | hp
    ·exact e2 p hp
    simp at hp;subst hp;exact hr
   rw [List.flatMap_append] at hv;by_cases hj:j<(xs.flatMap Prod.snd).length
   ·rw [List.getElem?_append_left hj] at hv;exact e3 j v hv
   rw [List.getElem?_append_right Zi] at hv;have hl2:=Ya1 hz;rw [hlen] at hl2;simp at hv;have:=hrow (j - (xs.flatMap Prod.snd).length) v (by simpa using hv);rw [hl2] at this;have e:(ad.add (m*L.size)).add (j - m*L.size)=ad.add j:=by
    have hj':m*L.size<=j:=by omega
    unfold Addr.add;by_cases h5:m*L.size=0
    ·rw [h5];simp
    by_cases h6:j - m*L.size=0
    ·have:j=m*L.size:=by omega
     subst this;simp
    have h7:j≠0:=by omega
    simp [h5,h6,h7,Nat.add_assoc];omega
   rw [e] at this;exact this
 obtain ⟨xs,e1,e2,e3⟩:=key l.length (Zs _);exact ⟨xs,by rw [e1,List.take_length],e2,.inr ⟨ad,h1,e3⟩⟩
def OneC {α:Type} (L:Lay α):Prop:=∀ fz d cs,L.rep fz d cs->∀ u∈cs,u.oneCell'=true
theorem YP:OneC YE:=by
 intro fz d cs h u hu;obtain ⟨vk,rfl,hR⟩:=Yf h;obtain ⟨A,n,c,rfl,_⟩:=hR.kids;simp at hu;rcases hu with rfl | rfl | rfl | rfl | rfl | rfl<;>rfl
theorem WY:OneC paramL:=by
 intro fz d cs h u hu;obtain ⟨rfl,hR⟩:=YJ h;simp at hu;rcases hu with rfl | rfl<;>rfl
section
variable {P:Program} {cx:Cx} {r:Operand->Option Value} {fz:FZ} {H:HP} {dst:Option Nat} {ty:TypeId} {pos:String} {af:Array Edge} {gd:Option (Nat × Bool)} {α:Type} {L:Lay α}
theorem YkN {t e e':TypeId} {x y:Operand} {X Y:Ty} {v:Value} {n m c g:Nat} {l l2:List α} {ys:List (α × List Value)} {cs:List Value} {Hr Hs:HP} {K:Value->FZ->HP->Prop}
 (hp:H.Perm (Hr++Hs)) (ho:Grow L e fz v n Hs l) (h1:OneC L)
  (hg:(g,Obj.cells cs.toArray e' (0,0))∈H) (hcs:cs=ys.flatMap Prod.snd) (hl2:ys.map Prod.fst=l2) (hm:l2.length=m)

  (h:∀ v' Hs',Grow L e fz v' (n+m) Hs' (l++l2)->K v' fz (Hr++Hs')) (T:Tab P:=by exact T) (hT:T.inf t=some X:=by exact rfl) (hd:X.desc=.slice e:=by exact rfl) (hY:T.inf e=some Y:=by exact rfl) (hz:Y.zero.cells.size=Y.size:=by exact rfl) (hsz:Nat.blt 0 Y.size=true:=by exact rfl) (hYL:Y.size=L.size:=by exact rfl) (hx:r x=some v:=by exact rfl) (hy:r y=some (Zv g m c):=by exact rfl) (hys:∀ p∈ys,L.rep fz p.1 p.2) (hb:(n+m)*Y.bytes<=140737488355328:=by exact mulB) (hm2:n+m<=9223372036854775807:=by omega):
  Does P cx ⟨dst,.call {callee:=.builtin .append,args:=#[x,y],argTypes:=#[t,t]},ty,pos,af,gd⟩ r fz H K:=by
  obtain ⟨xs,h2,h3,h4,h5⟩:=ho;have hlm:ys.length=m:=by rw [<- hl2,List.length_map] at hm;exact hm
  have hzy:∀ p∈ys,p.2.length=L.size:=fun p hp=>L.len (hys p hp)
  subst hcs;refine Ygx (news:=ys.flatMap Prod.snd) hp (YlE hg) (fun v' Hs' hO=>h v' Hs' ⟨xs++ys,by rw [List.map_append,h2,hl2],fun p hp=>?_,by rw [List.length_append,h4,hm],by rw [List.flatMap_append,<- hYL];exact hO⟩) (hT:=hT) (hd:=hd) (hY:=hY) (hz:=hz) (hsz:=hsz) (hx:=hx) (hy:=hy) (ho:=by rw [hYL];exact h5) (hl:=by rw [Ya1 hzy,hlm,hYL]) (h1:=fun u hu=>?_) (hb:=hb) (hm:=hm2);rotate_left 1
  ·obtain ⟨p,hp,hu⟩:=List.mem_flatMap.1 hu;exact h1 _ _ _ (hys p hp) u hu
  rcases List.mem_append.1 hp with hp | hp
  ·exact h3 p hp
  exact hys p hp
theorem YN {t e e':TypeId} {x y:Operand} {X Y:Ty} {v:Value} {n c g:Nat} {l:List α} {d:α} {cs:List Value} {Hr Hs:HP} {K:Value->FZ->HP->Prop}
 (hp:H.Perm (Hr++Hs)) (ho:Grow L e fz v n Hs l) (h1:OneC L)
  (hg:(g,Obj.cells cs.toArray e' (0,0))∈H) (hys:L.rep fz d cs)

  (h:∀ v' Hs',Grow L e fz v' (n+1) Hs' (l++ [d])->K v' fz (Hr++Hs')) (T:Tab P:=by exact T) (hT:T.inf t=some X:=by exact rfl) (hd:X.desc=.slice e:=by exact rfl) (hY:T.inf e=some Y:=by exact rfl) (hz:Y.zero.cells.size=Y.size:=by exact rfl) (hsz:Nat.blt 0 Y.size=true:=by exact rfl) (hYL:Y.size=L.size:=by exact rfl) (hx:r x=some v:=by exact rfl) (hy:r y=some (Zv g 1 c):=by exact rfl) (hb:(n+1)*Y.bytes<=140737488355328:=by exact mulB) (hm2:n+1<=9223372036854775807:=by omega):
  Does P cx ⟨dst,.call {callee:=.builtin .append,args:=#[x,y],argTypes:=#[t,t]},ty,pos,af,gd⟩ r fz H K:=
  YkN (ys:=[(d,cs)]) hp ho h1 hg (by simp) rfl rfl h (hT:=hT) (hd:=hd) (hY:=hY) (hz:=hz) (hsz:=hsz) (hYL:=hYL) (hx:=hx) (hy:=hy) (hys:=by simpa using hys) (hb:=hb) (hm2:=hm2)
variable {B:Option Addr} {Hr:HP} {X Y:Ty} {e t:TypeId} {x y:Operand}
theorem WZ (T:Tab P) {m:Nat} {l l2:List α} {K:Value->FZ->HP->Prop} (hT:T.inf t=some X) (hd:X.desc=.slice e) (hY:T.inf e=some Y) (hz:Y.zero.cells.size=Y.size) (hsz:Nat.blt 0 Y.size=true) (hYL:Y.size=L.size)
 (hx:r x=some v) (hy:r y=some (.slice B m c)) (hp:H.Perm (Hr++Hs)) (ho:Grow L e fz v n Hs l) (h1:OneC L) (hs:Sl L fz B m c l2)
 (hb:(n+m)*Y.bytes<=140737488355328) (hm2:n+m<=9223372036854775807)
 (h:∀ v' Hs',Grow L e fz v' (n+m) Hs' (l++l2)->K v' fz (Hr++Hs')):
 Does P cx ⟨dst,.call {callee:=.builtin .append,args:=#[x,y],argTypes:=#[t,t]},ty,pos,af,gd⟩ r fz H K:=by
 obtain ⟨xs,h2,h3,h4,h5⟩:=ho;obtain ⟨ys,rfl,hys,hrow⟩:=hs.pairs;have hlm:ys.length=m:=by have:=hs.len;rw [List.length_map] at this;exact this
 have hzy:∀ p∈ys,p.2.length=L.size:=fun p hp=>L.len (hys p hp)
 refine Ygx (news:=ys.flatMap Prod.snd) hp (src_row hrow) (fun v' Hs' hO=>h v' Hs' ⟨xs++ys,by rw [List.map_append,h2],fun p hp=>?_,by rw [List.length_append,h4,hs.len],by rw [List.flatMap_append,<- hYL];exact hO⟩) (hT:=hT) (hd:=hd) (hY:=hY) (hz:=hz) (hsz:=hsz) (hx:=hx) (hy:=hy) (ho:=by rw [hYL];exact h5) (hl:=by rw [Ya1 hzy,hlm,hYL]) (h1:=fun u hu=>?_) (hb:=hb) (hm:=hm2);rotate_left 1
 ·obtain ⟨p,hp,hu⟩:=List.mem_flatMap.1 hu;exact h1 _ _ _ (hys p hp) u hu
 rcases List.mem_append.1 hp with hp | hp
 ·exact h3 p hp
 exact hys p hp
end
theorem Grow.block {α:Type} {L:Lay α} {e:Nat} {fz:FZ} {g m:Nat} {cs:List Value} {ys:List (α × List Value)} {l:List α} (hcs:cs=ys.flatMap Prod.snd) (hl:ys.map Prod.fst=l) (hys:∀ p∈ys,L.rep fz p.1 p.2) (hm:l.length=m) (hb:m<=9223372036854775807:=by decide):
 Grow L e fz (Zv g m m) m [(g,.cells cs.toArray e (0,0))] l:=by
 subst hcs;have hlm:ys.length=m:=by rw [<- hl,List.length_map] at hm;exact hm
 exact ⟨ys,hl,hys,hm,OwnS.of_block (by rw [Ya1 (fun p hp=>L.len (hys p hp)),hlm]) (hn:=by simpa [maxLen] using hb)⟩
theorem Wb {e:Nat} {m:Nat} {ys:List (α × List Value)} (hg:fz g=some (.cells cs.toArray e (0,0))) (hcs:cs=ys.flatMap Prod.snd) (hl:ys.map Prod.fst=l) (hys:∀ p∈ys,L.rep fz p.1 p.2) (hm:l.length=m) (hb:m<=140737488355328):
 Sl L fz (some ⟨g,0,none⟩) m m l:=by
 have hG:=Grow.block (L:=L) (e:=e) (g:=g) hcs hl hys hm (hb:=by omega);obtain ⟨A,c,he,hs⟩:=hG.sl Zd (fun p hp=>by simp at hp;subst hp;exact hg) hb;injection he with e1 e2 e3
 subst e1 e3;exact hs
section
variable {P:Program} {cx:Cx} {r:Operand->Option Value} {fz:FZ} {H:HP} {V:Value->Prop} {dst:Option Nat} {ty:TypeId} {pos:String} {af:Array Edge} {gd:Option (Nat × Bool)}
variable {t t':TypeId} {x y:Operand}
theorem YbO {u v:Bs} (hx:r x=some (.string u)) (hy:r y=some (.string v)) (h:u=v) (k:V (.bool true)):DoesQ P cx ⟨dst,.binOp .eql t x y t',ty,pos,af,gd⟩ r fz H V:=
 Yfs hx hy (fun _=>k) (fun h0=>absurd h h0)
theorem YbP {u v:Bs} (hx:r x=some (.string u)) (hy:r y=some (.string v)) (h:¬u=v) (k:V (.bool false)):DoesQ P cx ⟨dst,.binOp .eql t x y t',ty,pos,af,gd⟩ r fz H V:=
 Yfs hx hy (fun h0=>absurd h0 h) (fun _=>k)
theorem YbN {u v:Bs} (hx:r x=some (.string u)) (hy:r y=some (.string v)) (h:¬u=v) (k:V (.bool true)):DoesQ P cx ⟨dst,.binOp .neq t x y t',ty,pos,af,gd⟩ r fz H V:=
 Yic hx hy (fun _=>k) (fun h0=>absurd h0 h)
theorem Yie {i:IntKind} {u v:Int} (hx:r x=some (.int i u)) (hy:r y=some (.int i v)) (h:u=v) (k:V (.bool true)):DoesQ P cx ⟨dst,.binOp .eql t x y t',ty,pos,af,gd⟩ r fz H V:=
 Ypg hx hy (fun _=>k) (fun h0=>absurd h h0)
theorem Yif {i:IntKind} {u v:Int} (hx:r x=some (.int i u)) (hy:r y=some (.int i v)) (h:¬u=v) (k:V (.bool false)):DoesQ P cx ⟨dst,.binOp .eql t x y t',ty,pos,af,gd⟩ r fz H V:=
 Ypg hx hy (fun h0=>absurd h0 h) (fun _=>k)
theorem YU {p:Addr} (hx:r x=some (.pointer (some p))) (h:V (.pointer (some p))):DoesQ P cx ⟨dst,.nilCheck x,ty,pos,af,gd⟩ r fz H V:=
 YC (fun ρ w hr=>by simp [execOp,hr _ _ hx]) h
end
theorem YbY {l':List α} (is:List Nat) (h:is.isPerm (List.range l.length)=true:=by exact rfl) (e:is.filterMap (fun i=>l[i]?)=l':=by exact rfl):l'.Perm l:=by
 have h1:=(List.isPerm_iff.1 h).filterMap (fun i=>l[i]?);rw [e] at h1;have h2:(List.range l.length).filterMap (fun i=>l[i]?)=l:=by
  clear h1 h e
  induction l with
  | nil=>rfl
  | cons a r ih=>
   rw [List.length_cons,List.range_succ_eq_map,List.filterMap_cons];simp only [List.getElem?_cons_zero,List.filterMap_map]
   congr 1
 rw [h2] at h1;exact h1
section
variable {P:Program} {cx:Cx} {n:Nat} {σ:Env} {fz:FZ} {H:HP} {Q:QQ}
def midQ (I:Env->FZ->HP->Prop) (Q:QQ):QQ
 | .normal,σ,fz,H=>(∃ σ' H1 H',Sub σ' σ/\H1.Perm H/\H'.Sublist H1/\I σ' fz H')\/(∃ σ' H' H2,Sub σ' σ/\(H'++H2).Perm H/\∀ fz',Le fz fz'->(∀ p∈H2,fz' p.1=some p.2)->I σ' fz' H')
 | e,σ,fz,H=>Q e σ fz H
theorem YY {c y:Code} (I:Env->FZ->HP->Prop) (hx:Wp P cx n c σ fz H (midQ I Q)) (hy:∀ σ fz H,I σ fz H->Wp P cx n y σ fz H Q):Wp P cx n c σ fz H (andThen P cx n y Q):=
 hx.mono fun e σ fz H h=>by
  cases e with
  | normal=>
   rcases h with ⟨σ',H1,H',h1,h2,h3,h4⟩ | ⟨σ',H',H2,h1,h2,h3⟩
   ·exact Yds (Wp.perm h2 (Wp.weaken h1 h3 (hy _ _ _ h4)))
   exact Yds (Wp.freezeAll h2.symm (fun fz' h5 h6=>Wp.weaken h1 (List.Sublist.refl _) (hy _ _ _ (h3 fz' h5 h6))))
  | _=>unfold andThen;exact h
theorem midN {I:Env->FZ->HP->Prop} {σ':Env} {H':HP} (hI:I σ' fz H') (hs:Sub σ' σ) (hh:H'.Sublist H):midQ I Q .normal σ fz H:=.inl ⟨σ',H,H',hs,Zr _,hh,hI⟩
theorem midNz {I:Env->FZ->HP->Prop} {σ':Env} {H':HP} (_:σ'=σ') (_:H'=H') (hI:I σ' fz H') (hs:Sub σ' σ) (hh:H'.Sublist H):midQ I Q .normal σ fz H:=midN hI hs hh
theorem midP {I:Env->FZ->HP->Prop} {σ':Env} {H1 H':HP} (hp:H1.Perm H) (hI:I σ' fz H') (hs:Sub σ' σ) (hh:H'.Sublist H1):midQ I Q .normal σ fz H:=.inl ⟨σ',H1,H',hs,hp,hh,hI⟩
theorem midF {I:Env->FZ->HP->Prop} {σ':Env} {H' H2:HP} (hp:(H'++H2).Perm H) (hI:∀ fz',Le fz fz'->(∀ p∈H2,fz' p.1=some p.2)->I σ' fz' H') (hs:Sub σ' σ):midQ I Q .normal σ fz H:=.inr ⟨σ',H',H2,hs,hp,hI⟩
theorem midR {I:Env->FZ->HP->Prop} (h:Q .ret σ fz H):midQ I Q .ret σ fz H:=h
end
section
variable {P:Program} {cx:Cx} {n:Nat} {σ:Env} {fz:FZ} {H H' H2:HP} {fn:Func} {R:Value->FZ->HP->Prop}
theorem YaX {p:Nat} {t t':TypeId} {X:Ty} {g i:Nat} {cs:List Value} {f:Nat × Nat} (hres:fn.results=#[.cell p t])
 (hH:H'.Sublist H) (h:R (.agg cs.toArray) fz H') (T:Tab P:=by exact T) (hT:T.inf t=some X:=by exact rfl) (hd:W5 X.desc=true:=by exact rfl) (hv:lk σ p=some (Zp g):=by exact rfl) (hi:H[i]?=some (g,.cells cs.toArray t' f):=by exact rfl) (hsz:X.size=cs.length:=by exact rfl):retQ P cx n fn R .ret σ fz H:=Yan hres (YgM hH h) (hT:=hT) (hd:=hd) (hv:=hv) (hi:=hi) (hsz:=hsz)
theorem YeM {p:Nat} {t t':TypeId} {X:Ty} {g i:Nat} {cs:List Value} {f:Nat × Nat} (hres:fn.results=#[.cell p t])
 (hp:(H'++H2).Perm H) (h:∀ fz',Le fz fz'->(∀ p∈H2,fz' p.1=some p.2)->R (.agg cs.toArray) fz' H') (T:Tab P:=by exact T) (hT:T.inf t=some X:=by exact rfl) (hd:W5 X.desc=true:=by exact rfl) (hv:lk σ p=some (Zp g):=by exact rfl) (hi:H[i]?=some (g,.cells cs.toArray t' f):=by exact rfl) (hsz:X.size=cs.length:=by exact rfl):retQ P cx n fn R .ret σ fz H:=Yan hres (rOwn hp h) (hT:=hT) (hd:=hd) (hv:=hv) (hi:=hi) (hsz:=hsz)
theorem Ycc (hres:fn.results=#[]) (hH:H'.Sublist H) (h:R (.tuple #[]) fz H'):retQ P cx n fn R .normal σ fz H:=by
 unfold retQ;exact ⟨.tuple #[],fun a w hs hw=>by simp [results,hres],YgM hH h⟩
end
section
variable {P:Program} {cx:Cx} {n:Nat} {σ:Env} {fz:FZ} {H:HP} {Q:QQ}
def YmT (rest:List (Nat × Oper)):List (Nat × Oper):=rest.filter fun p=>rest.all fun q=>!waits p.2 q.1
theorem mem_ready {rest:List (Nat × Oper)} {p:Nat × Oper} (hp:p∈rest) (hf:(rest.all fun q=>!waits p.2 q.1)=true):p∈YmT rest:=List.mem_filter.2 ⟨hp,hf⟩
variable {Hq:HP} {pu:List Nat} {σ' τ ve cv:Env} {l:List Oper} {all rest r1 r2:List (Nat × Oper)} {i j d:Nat} {o o2:Oper} {dn:Bool} {fz0:FZ} {m:Nat}
def PoS (P:Program) (cx:Cx) (ops:List Oper) (pu:List Nat) (σ ve:Env) (fz0:FZ) (Hq:HP) (Q:QQ) (all:List (Nat × Oper)) (m:Nat) (rest':List (Nat × Oper)) (done:Bool) (cv τ:Env) (fz:FZ) (H:HP) (i:Nat) (o:Oper):Prop:=
 (YhM o ve cv=some true/\Does P cx o (rdc ops o σ ve cv) fz H fun v fz' H'=>
  ((done || allp ops all pu o)=true\/Keep fz0 Hq fz' H')/\
  Po P cx ops pu σ ve fz0 Hq Q all m rest' (done || allp ops all pu o) ((i,v)::cv) (match o.dst with | some d=>(d,v)::τ | none=>τ) fz' H')\/
 (YhM o ve cv=some false/\Po P cx ops pu σ ve fz0 Hq Q all m rest' (done || allp ops all pu o) ((i,undef)::cv) (match o.dst with | some d=>(d,undef)::τ | none=>τ) fz H)
theorem Yh (h:PoS P cx l pu σ' ve fz0 Hq Q all m r1 dn cv τ fz H i o) (hr:YmT rest=[(i,o)]:=by exact rfl) (hf:(rest.filter fun q=>!Nat.beq q.1 i)=r1:=by exact rfl):Po P cx l pu σ' ve fz0 Hq Q all (m+1) rest dn cv τ fz H:=by
 unfold Po;intro p hp hfree;have:=mem_ready hp hfree;rw [hr,List.mem_singleton] at this;subst this;rw [hf];exact h
theorem XD (h:PoS P cx l pu σ' ve fz0 Hq Q all m r1 dn cv τ fz H i o) (k:PoS P cx l pu σ' ve fz0 Hq Q all m r2 dn cv τ fz H j o2) (hr:YmT rest=[(i,o),(j,o2)]:=by exact rfl) (hf:(rest.filter fun q=>!Nat.beq q.1 i)=r1:=by exact rfl) (hg:(rest.filter fun q=>!Nat.beq q.1 j)=r2:=by exact rfl):Po P cx l pu σ' ve fz0 Hq Q all (m+1) rest dn cv τ fz H:=by
 unfold Po;intro p hp hfree;have:=mem_ready hp hfree;rw [hr,List.mem_cons,List.mem_singleton] at this;rcases this with this | this
 ·subst this;rw [hf];exact h
 subst this;rw [hg];exact k
theorem Po.done (h:Q .normal τ fz H):Po P cx l pu σ' ve fz0 Hq Q all 0 rest dn cv τ fz H:=by unfold Po;exact h
theorem Does.freezeAll {r:Operand->Option Value} {K:Value->FZ->HP->Prop} {H1 H2:HP} (hp:H.Perm (H1++H2)) (h:∀ fz',Le fz fz'->(∀ p∈H2,fz' p.1=some p.2)->Does P cx o r fz' H1 K):Does P cx o r fz H K:=
 Does.of fun ρ w hr hi=>by
  obtain ⟨fz',h1,h2,h3⟩:=WA H2 fz H1 (hi.perm hp.symm);exact (h fz' h1 h2).run ρ w hr h3
theorem Does.after {r:Operand->Option Value} {K:Value->FZ->HP->Prop} (h:Does P cx o r fz H fun v fz' H'=>∃ H2,H2.Perm H'/\K v fz' H2):Does P cx o r fz H K:=
 Does.of fun ρ w hr hi=>(h.run ρ w hr hi).mono fun v w' hh=>by
  obtain ⟨fz',H',h1,H2,h2,h3⟩:=hh;exact ⟨fz',H2,h1.perm h2,h3⟩
variable {op:Op} {ty:TypeId} {pos:String} {af:Array Edge}
theorem Yd (h:Does P cx ⟨some d,op,ty,pos,af,none⟩ (rdc l ⟨some d,op,ty,pos,af,none⟩ σ' ve cv) fz H fun v fz' H'=>Keep fz0 Hq fz' H'/\Po P cx l pu σ' ve fz0 Hq Q all m r1 (dn || allp l all pu ⟨some d,op,ty,pos,af,none⟩) ((i,v)::cv) ((d,v)::τ) fz' H'):
 PoS P cx l pu σ' ve fz0 Hq Q all m r1 dn cv τ fz H i ⟨some d,op,ty,pos,af,none⟩:=by
 refine .inl ⟨rfl,?_⟩;exact Does.of fun ρ w hr hi=>(h.run ρ w hr hi).mono fun v w' hh=>by
  obtain ⟨fz',H',h1,h2,h3⟩:=hh;exact ⟨fz',H',h1,.inr h2,h3⟩
theorem Yas (h:Does P cx ⟨none,op,ty,pos,af,none⟩ (rdc l ⟨none,op,ty,pos,af,none⟩ σ' ve cv) fz H fun v fz' H'=>Keep fz0 Hq fz' H'/\Po P cx l pu σ' ve fz0 Hq Q all m r1 (dn || allp l all pu ⟨none,op,ty,pos,af,none⟩) ((i,v)::cv) τ fz' H'):
 PoS P cx l pu σ' ve fz0 Hq Q all m r1 dn cv τ fz H i ⟨none,op,ty,pos,af,none⟩:=by
 refine .inl ⟨rfl,?_⟩;exact Does.of fun ρ w hr hi=>(h.run ρ w hr hi).mono fun v w' hh=>by
  obtain ⟨fz',H',h1,h2,h3⟩:=hh;exact ⟨fz',H',h1,.inr h2,h3⟩
theorem PoS.hard (h:Does P cx ⟨some d,op,ty,pos,af,none⟩ (rdc l ⟨some d,op,ty,pos,af,none⟩ σ' ve cv) fz H fun v fz' H'=>Po P cx l pu σ' ve fz0 Hq Q all m r1 true ((i,v)::cv) ((d,v)::τ) fz' H') (hd:(dn || allp l all pu ⟨some d,op,ty,pos,af,none⟩)=true:=by kernel_rfl):
 PoS P cx l pu σ' ve fz0 Hq Q all m r1 dn cv τ fz H i ⟨some d,op,ty,pos,af,none⟩:=by
 refine .inl ⟨rfl,?_⟩;exact Does.of fun ρ w hr hi=>(h.run ρ w hr hi).mono fun v w' hh=>by
  obtain ⟨fz',H',h1,h3⟩:=hh;exact ⟨fz',H',h1,.inl hd,by rw [hd];exact h3⟩
theorem PoS.hard0 (h:Does P cx ⟨none,op,ty,pos,af,none⟩ (rdc l ⟨none,op,ty,pos,af,none⟩ σ' ve cv) fz H fun v fz' H'=>Po P cx l pu σ' ve fz0 Hq Q all m r1 true ((i,v)::cv) τ fz' H') (hd:(dn || allp l all pu ⟨none,op,ty,pos,af,none⟩)=true:=by kernel_rfl):
 PoS P cx l pu σ' ve fz0 Hq Q all m r1 dn cv τ fz H i ⟨none,op,ty,pos,af,none⟩:=by
 refine .inl ⟨rfl,?_⟩;exact Does.of fun ρ w hr hi=>(h.run ρ w hr hi).mono fun v w' hh=>by
  obtain ⟨fz',H',h1,h3⟩:=hh;exact ⟨fz',H',h1,.inl hd,by rw [hd];exact h3⟩
theorem PK.q {K:Env->Env->List (Nat × Oper)->Prop} {rest:List Oper} {ch:List (Nat × Oper)} (hp:inPu pu i=false) (h:DoesQ P cx ⟨some d,op,ty,pos,af,none⟩ (rdq l ⟨some d,op,ty,pos,af,none⟩ σ' ve) fz Hq fun v=>PK P cx l pu σ' fz Hq K (i+1) rest ((i,v)::ve) ((d,v)::τ) ch):
 PK P cx l pu σ' fz Hq K i (⟨some d,op,ty,pos,af,none⟩::rest) ve τ ch:=by
 unfold DoesQ at h;obtain ⟨v,h1,h2⟩:=h;unfold PK;exact .inl ⟨v,by unfold QOkP;rw [hp];exact .inl ⟨rfl,h2⟩,h1⟩
theorem PK.p {K:Env->Env->List (Nat × Oper)->Prop} {rest:List Oper} {ch:List (Nat × Oper)} (hp:inPu pu i=true) (h:∀ fz',DoesQ P cx ⟨some d,op,ty,pos,af,none⟩ (rdq l ⟨some d,op,ty,pos,af,none⟩ σ' ve) fz' [] fun u=>u=v) (k:PK P cx l pu σ' fz Hq K (i+1) rest ((i,v)::ve) ((d,v)::τ) ch):
 PK P cx l pu σ' fz Hq K i (⟨some d,op,ty,pos,af,none⟩::rest) ve τ ch:=by
 unfold PK;refine .inl ⟨v,?_,k⟩;unfold QOkP;rw [hp];intro fz';have h1:=h fz';unfold DoesQ at h1;obtain ⟨u,rfl,h2⟩:=h1;exact .inl ⟨rfl,h2⟩
theorem Yn {K:Env->Env->List (Nat × Oper)->Prop} {rest:List Oper} {ch:List (Nat × Oper)} {o:Oper} (h:PK P cx l pu σ' fz Hq K (i+1) rest ve τ (ch++ [(i,o)])):PK P cx l pu σ' fz Hq K i (o::rest) ve τ ch:=by
 unfold PK;exact .inr h
theorem PK.done {K:Env->Env->List (Nat × Oper)->Prop} {ch:List (Nat × Oper)} (h:K ve τ ch):PK P cx l pu σ' fz Hq K i [] ve τ ch:=by
 unfold PK;exact h
theorem PK.dz {K1:Env->Env->List (Nat × Oper)->Bool} {K2:Env->Env->List (Nat × Oper)->Prop} {ch:List (Nat × Oper)} (h:K2 ve τ ch) (h1:K1 ve τ ch=true:=by kernel_rfl):PK P cx l pu σ' fz Hq (fun ve τ ch=>K1 ve τ ch=true/\K2 ve τ ch) i [] ve τ ch:=PK.done ⟨h1,h⟩
theorem PoS.qk (hk:Keep fz0 Hq fz H) (h:DoesQ P cx ⟨some d,op,ty,pos,af,none⟩ (rdc l ⟨some d,op,ty,pos,af,none⟩ σ' ve cv) fz H fun v=>Po P cx l pu σ' ve fz0 Hq Q all m r1 (dn || allp l all pu ⟨some d,op,ty,pos,af,none⟩) ((i,v)::cv) ((d,v)::τ) fz H):
 PoS P cx l pu σ' ve fz0 Hq Q all m r1 dn cv τ fz H i ⟨some d,op,ty,pos,af,none⟩:=Yd ((h.mono fun _ hv=>⟨hk,hv⟩).does)
theorem YhI {g:Nat × Bool} (hw:YhM ⟨some d,op,ty,pos,af,some g⟩ ve cv=some true) (h:Does P cx ⟨some d,op,ty,pos,af,some g⟩ (rdc l ⟨some d,op,ty,pos,af,some g⟩ σ' ve cv) fz H fun v fz' H'=>Keep fz0 Hq fz' H'/\Po P cx l pu σ' ve fz0 Hq Q all m r1 (dn || allp l all pu ⟨some d,op,ty,pos,af,some g⟩) ((i,v)::cv) ((d,v)::τ) fz' H'):
 PoS P cx l pu σ' ve fz0 Hq Q all m r1 dn cv τ fz H i ⟨some d,op,ty,pos,af,some g⟩:=by
 refine .inl ⟨hw,?_⟩;exact Does.of fun ρ w hr hi=>(h.run ρ w hr hi).mono fun v w' hh=>by
  obtain ⟨fz',H',h1,h2,h3⟩:=hh;exact ⟨fz',H',h1,.inr h2,h3⟩
theorem PK.yes {K:Env->Env->List (Nat × Oper)->Prop} {rest:List Oper} {ch:List (Nat × Oper)} {g:Nat × Bool} (hp:inPu pu i=false) (hw:Ydq ⟨some d,op,ty,pos,af,some g⟩ ve=some true) (h:DoesQ P cx ⟨some d,op,ty,pos,af,some g⟩ (rdq l ⟨some d,op,ty,pos,af,some g⟩ σ' ve) fz Hq fun v=>PK P cx l pu σ' fz Hq K (i+1) rest ((i,v)::ve) ((d,v)::τ) ch):
 PK P cx l pu σ' fz Hq K i (⟨some d,op,ty,pos,af,some g⟩::rest) ve τ ch:=by
 unfold DoesQ at h;obtain ⟨v,h1,h2⟩:=h;unfold PK;exact .inl ⟨v,by unfold QOkP;rw [hp];exact .inl ⟨hw,h2⟩,h1⟩
end
attribute [irreducible] PoS
theorem Yav [Dr] {P:Program} {cx:Cx} {σ:Env} {fz:FZ} {H:HP} {Q:QQ} {c:Code} {w:Nat} (n:Nat) (S:Nat->Env) (H1:HP) (I:Nat->Prop) (h0:I 0)
 (hb:∀ k,k<=n->I k->Wp P cx w c (S k) fz H1 (loopQ (fun q σ fz' H'=>∃ k:Nat,k<=n/\q=n - k/\σ=S k/\fz=fz'/\H'=H1/\I k) (n - k) Q)) (hs:Sub (S 0) σ:=by exact Zw) (hh:H1.Sublist H:=by exact Zb):Wp P cx w (.loop c) σ fz H Q:=
 Yi (fun q σ fz' H'=>∃ k:Nat,k<=n/\q=n - k/\σ=S k/\fz=fz'/\H'=H1/\I k) (m0:=n - 0) ⟨0,Z0 _,rfl,rfl,rfl,rfl,h0⟩ hs hh (fun q σ fz' H' ⟨k,hk,e1,e2,e3,e4,hi⟩=>by subst e1;subst e2;subst e3;subst e4;exact hb k hk hi)
theorem loopJ [Dr] {P:Program} {cx:Cx} {σ:Env} {fz:FZ} {H:HP} {Q:QQ} {c:Code} {w:Nat} (n:Nat) (S:Nat->Env) (H1:Nat->HP) (I:Nat->Prop) (h0:I 0)
 (hb:∀ k,k<=n->I k->Wp P cx w c (S k) fz (H1 k) (loopQ (fun q σ fz' H'=>∃ k:Nat,k<=n/\q=n - k/\σ=S k/\fz=fz'/\H'=H1 k/\I k) (n - k) Q)) (hs:Sub (S 0) σ:=by exact Zw) (hh:(H1 0).Sublist H:=by exact Zb):Wp P cx w (.loop c) σ fz H Q:=
 Yi (fun q σ fz' H'=>∃ k:Nat,k<=n/\q=n - k/\σ=S k/\fz=fz'/\H'=H1 k/\I k) (m0:=n - 0) ⟨0,Z0 _,rfl,rfl,rfl,rfl,h0⟩ hs hh (fun q σ fz' H' ⟨k,hk,e1,e2,e3,e4,hi⟩=>by subst e1;subst e2;subst e3;subst e4;exact hb k hk hi)
theorem pT {G K:Prop} (h:K) (k:Zbox K->G:=by intro h;(repeat refine Yn ?_);refine PK.dz ?_;exact h.out):G:=k ⟨h⟩
theorem pU {G K:Prop} (h:K) (k:Zbox K->G:=by intro h;(repeat refine Yk ?_);refine QK.dz ?_;exact h.out):G:=k ⟨h⟩
theorem pA {G K:Prop} (h:K) (k:Zbox K->G:=by intro h;refine Yh ?_;refine PoS.hard (DoesQ.does (YV ?_));exact h.out):G:=k ⟨h⟩
theorem pD {G K:Prop} (h:K) (k:Zbox K->G:=by intro h;refine Yh ?_;refine PoS.hard (DoesQ.does (YV ?_));refine Po.done ?_;exact h.out):G:=k ⟨h⟩
theorem pX {G:Prop} {A:Type} {K:A->Prop} (h:∀ a,K a) (k:Zbox (∀ a,K a)->G:=by intro h;exact Yr (W3 (Ya (YhX _ h.out)))):G:=k ⟨h⟩
theorem pY {G:Prop} {A:Type} {K:A->Prop} (h:∀ a,K a) (k:Zbox (∀ a,K a)->G:=by intro h;exact Ya (YhX _ h.out)):G:=k ⟨h⟩
theorem qF {G Q1 Q2:Prop} {K:α->Prop} (q1:Q1) (q2:Q2) (h:∀ a,K a) (k:Zbox Q1->Zbox Q2->Zbox (∀ a,K a)->G:=by intro q1 q2 h;refine GFn.quiet ?_;exact Ylq q1.out rfl q2.out rfl rfl h.out):G:=k ⟨q1⟩ ⟨q2⟩ ⟨h⟩
theorem wM {α0:Type} {a0:α0} {α1:Type} {a1:α1} {α2:Type} {a2:α2} {G Q H0 H1 H2:Prop} (k:a0=a0->a1=a1->a2=a2->Zbox Q->Zbox H0->Zbox H1->Zbox H2->G:=by intro x0 x1 x2 q h0 h1 h2;refine zW ?_;exact Ynd x0 x1 x2 ⟨k+1,by omega,rfl,rfl,rfl,rfl,q.out⟩ h0.out h1.out h2.out) (h:Q) (h0:H0:=by omega) (h1:H1:=by exact Zw) (h2:H2:=by exact Zb):G:=k rfl rfl rfl ⟨h⟩ ⟨h0⟩ ⟨h1⟩ ⟨h2⟩
theorem vM {α0:Type} {a0:α0} {α1:Type} {a1:α1} {α2:Type} {a2:α2} {G Q H0 H1 H2:Prop} (k:a0=a0->a1=a1->a2=a2->Zbox Q->Zbox H0->Zbox H1->Zbox H2->G:=by intro x0 x1 x2 q h0 h1 h2;refine zV ?_;exact Ynd x0 x1 x2 ⟨k+1,by omega,rfl,rfl,rfl,rfl,q.out⟩ h0.out h1.out h2.out) (h:Q) (h0:H0:=by omega) (h1:H1:=by exact Zw) (h2:H2:=by exact Zb):G:=k rfl rfl rfl ⟨h⟩ ⟨h0⟩ ⟨h1⟩ ⟨h2⟩
end Go.Lx
