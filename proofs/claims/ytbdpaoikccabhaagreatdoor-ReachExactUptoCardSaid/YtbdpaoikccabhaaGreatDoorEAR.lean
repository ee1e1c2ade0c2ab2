/- The texts QT, QS, QL, QLB, QV, laid together. Conditions: none. -/
import Derived.Test.YtbdpaoikccabhaaGreatDoorEAQ
set_option linter.all false
set_option maxHeartbeats 16000000
noncomputable section
set_option maxRecDepth 20000
open Go.Lx Go.RowKit
attribute [local instance 10] Classical.propDecidable
open Go.Proofs.Tryz (prog)
namespace Go.Lx
open Go.RowKit
section
variable {P:Program} {cx:Cx} {r:Operand->Option Value} {fz fz0:FZ} {H:HP} {V:Value->Prop} {dst:Option Nat} {ty:TypeId} {pos:String} {af:Array Edge} {gd:Option (Nat × Bool)} {Q:QQ} {Hq:HP} {pu:List Nat} {σ' τ ve cv:Env} {l:List Oper} {all r1:List (Nat × Oper)} {i m d:Nat} {dn:Bool} {op:Op}
theorem PoS.qkG {g:Nat × Bool} (hk:Keep fz0 Hq fz H) (hw:YbY ⟨some d,op,ty,pos,af,some g⟩ ve cv=some true) (h:DoesQ P cx ⟨some d,op,ty,pos,af,some g⟩ (rdc l ⟨some d,op,ty,pos,af,some g⟩ σ' ve cv) fz H fun v=>Po P cx l pu σ' ve fz0 Hq Q all m r1 (dn || allp l all pu ⟨some d,op,ty,pos,af,some g⟩) ((i,v)::cv) ((d,v)::τ) fz H):
 PoS P cx l pu σ' ve fz0 Hq Q all m r1 dn cv τ fz H i ⟨some d,op,ty,pos,af,some g⟩:=PoS.softG hw ((h.mono fun _ hv=>⟨hk,hv⟩).does)
theorem YeU {t k e:TypeId} {x:Operand} {X:Ty} {g:Nat} {m:List (Bs × Value)} (i:Nat) (h:V (Zk m.length)) (T:Tab P:=by exact T) (hT:T.inf t=some X:=by exact rfl) (hd:X.desc=.map k e:=by exact rfl) (hx:r x=some (.map (some g)):=by exact rfl) (hH:H[i]?=some (g,mapS m):=by exact rfl):
 DoesQ P cx ⟨dst,.call {callee:=.builtin .len,args:=#[x],argTypes:=#[t]},ty,pos,af,gd⟩ r fz H V:=
 DoesQ.of h fun ρ w hr hi=>by
  have hg:=(hi.hp.own _ (Zm hH)).1;have hu:=run_underlying (und_plain T hT hd rfl) w;have:(execOp ρ ⟨dst,.call {callee:=.builtin .len,args:=#[x],argTypes:=#[t]},ty,pos,af,gd⟩).run P w=.ok (.value (Zk m.length)) w:=by
   simp [execOp,resolve,invoke,builtin,hr _ _ hx,Builtin.len_,hu,goInt,WE hg,mapS,YdS]
  rw [this];exact ⟨rfl,Fr.refl _ _⟩
end
end Go.Lx
namespace Go.Proofs.YtbdpaoikccabhaaGreatDoor
variable {A:Option Addr} {E:EnvM} {K:Kn} {c:Nat} {fz:FZ} {m:List (Bs × Value)} {vb:Value}
def addM (K:Kn) (c:Change):List Param->EnvM->List Atom->List Atom × Bool
 | [],E,S=>if bndA E c.name c.args ∉ S/\holdsM K S E c.when_=true then (S++ [bndA E c.name c.args],true) else (S,false)
 | p::ps,E,S=>(ofK K p.typ).foldl (fun r o=>if 4096<r.1.length then r else ((addM K c ps (setE E p.name o) r.1).1,(addM K c ps (setE E p.name o) r.1).2 || r.2)) (S,false)
def X8 (K:Kn) (l:List Change) (E:EnvM) (S:List Atom):List Atom × Bool:=
 l.foldl (fun r c=>((addM K c c.params E r.1).1,(addM K c c.params E r.1).2 || r.2)) (S,false)
theorem Ykt {f:List Atom × Bool->Bs->List Atom × Bool} (hf:∀ r o,4096<r.1.length->f r o=r):∀ (l:List Bs) (r:List Atom × Bool),4096<r.1.length->l.foldl f r=r
 | [],_,_=>rfl
 | o::l,r,h=>by rw [List.foldl_cons,hf r o h];exact Ykt hf l r h
structure CSh (c:Change):Prop where
 when_:HSh c.when_
 name:PlnS c.name
 nargs:c.args.length<=2000000
 args:∀ t∈c.args,PlnS t
 params:c.params.length<=2000000
theorem radd_f:∀ (ps:List Param) {fz:FZ} {K:Kn} {gr gk gs:Nat} {vs vb vd vat:Value} {S:List Atom} {m:List (Bs × Value)} {x:Change} {cs:List Value} {A:Option Addr} {n c:Nat} {E:EnvM},
 fz gr=some (Zu #[Zp gk,vs,.map (some gs),vb,vd] 83)->KnR fz (Zp gk) K->(∀ o∈K.os,PlnS o.name)->SetM fz m S->changeL.rep fz x cs->CSh x->Sl paramL fz A n c ps->n<=2000000->EnvR fz vat E->EnvP E->
 GFn prog 183 [Zp gr,.agg cs.toArray,Zc A n c,vat] fz [(gs,mapS m)] (fun r fz' H'=>r=Zo (addM K x ps E S).2/\∃ m',H'=[(gs,mapS m')]/\SetM fz' m' (addM K x ps E S).1)
 | ps,fz,K,gr,gk,gs,vs,vb,vd,vat,S,m,x,cs,A,n,c,E,hr,hK,hOs,hSet,hc,hC,hps,hn,hE,hP=>by
  obtain ⟨u1,u2,u3,u4,u5,u6,u7,u8,rfl,hR⟩:=Xb hc;obtain ⟨A1,n1,c1',rfl,_⟩:=id hR.params;obtain ⟨⟨A2,n2,c2',rfl,_⟩,⟨A3,n3,c3',rfl,_⟩,⟨A4,n4,c4',rfl,_⟩,⟨A5,n5,c5',rfl,_⟩⟩:=id hR.when_.sls;obtain ⟨A6,n6,c6',rfl,ia⟩:=id hR.args;obtain ⟨⟨A7,n7,c7',rfl,_⟩,⟨A8,n8,c8',rfl,_⟩⟩:=id hR.value.sls;have lp:=hps.len;have la:=ia.len;have hna:=hC.nargs;have hE0:=hE;obtain ⟨ge,me,rfl,hge,hne,hee⟩:=hE;refine zF Tryz.func183 Tryz.ntmps183 (fun w0=>?_);refine pX (fun g5=>?_);cases ps with
  | nil=>
   have:n=0:=by rw [<- lp];rfl
   subst this;have hok:=Yqq (E:=E) hP ⟨hC.name,hC.nargs,hC.args⟩;refine wC ?_ ?_<;>intro c1
   ·refine zW ?_;refine Yd (Yk [] [_,_] Zz (Yhd hE0 (fun x y h=>(hP x y h).1) ia Zi hR.name) (fun v2 fz2 H2 hle2 hR2=>?_));obtain ⟨rfl,va2,rfl,hRa⟩:=hR2;obtain ⟨Aa,na,ca,rfl,_⟩:=id hRa.args;have hr2:=hle2 _ _ hr;have hSet2:=hSet.mono hle2;obtain ⟨y1,y2,y3,y4,hlk1,hlk2⟩:=Yis hSet2 hok;generalize hbt:decide (bndA E x.name x.args∈S)=bt at hlk2;refine zWN ?_;intros;refine Yay [] [_,_,_] ?_;refine wc (Yki hRa hok) ?_;refine zG ?_;refine W7 (v:=.agg #[Zy y1,Zc y2 y3 y4]) (b:=bt) 2 hlk2 ?_ (hv:=hlk1);refine zW ?_;refine pT ?_;refine Yb ?_;refine Ye (YU (fun _=>⟨⟨Zd,Zx⟩,?_⟩));refine Yb ?_;refine Yde (Yy ⟨⟨Zd,Zx⟩,?_⟩);refine Yb ?_;refine PoS.qk ⟨Zd,Zx⟩ (YR ?_);refine Po.done ?_;have hK2:=hK.mono hle2;cases bt with
    | true=>
     have hin:bndA E x.name x.args∈S:=Zt hbt;exact wR (h:=by exact ⟨by rw [addM,if_neg (fun h=>h.1 hin)],m,rfl,by rw [addM,if_neg (fun h=>h.1 hin)];exact hSet2⟩)
    | false=>
     have hin:bndA E x.name x.args ∉ S:=Zf hbt;cases hb:holdsM K S E x.when_ with
     | false=>
      refine wG ?_;refine Yh (vs:=[Zy x.when_.op,Zy x.when_.name,Zc A2 n2 c2',Zc A3 n3 c3',Zc A4 n4 c4',Zc A5 n5 c5']) 2 ?_;refine wG ?_;refine WF (fun fz' hle hf=>YdO _ (Zs _) (hK2.mono hle) hOs (hf (gs,mapS m) (by simp)) (hSet2.mono hle) (hR.when_.mono (hle2.trans hle)) hC.when_ (hE0.mono (hle2.trans hle)) hP) ?_;rw [hb];exact wR (h:=by exact ⟨by rw [addM,if_neg (fun h=>by rw [hb] at h;exact absurd h.2 Zh)],m,rfl,by rw [addM,if_neg (fun h=>by rw [hb] at h;exact absurd h.2 Zh)];exact hSet2⟩)
     | true=>
      refine zWN ?_;refine Yay [] [_,_,_,_] ?_
      repeat ((first | refine PK.q Zz ?_ | refine PK.yes Zz Zz ?_);(first | refine Wo ?_ | refine YR ?_ | refine Xw ?_ | refine Yw 0 ?_ (hv:=by exact rfl) | refine Yw 1 ?_ (hv:=by exact rfl) | refine Yw 2 ?_ (hv:=by exact rfl) | refine Yw 3 ?_ (hv:=by exact rfl) | refine Yw 4 ?_ (hv:=by exact rfl) | refine Yw 5 ?_ (hv:=by exact rfl) | refine Yw 6 ?_ (hv:=by exact rfl) | refine Yw 7 ?_ (hv:=by exact rfl) | refine YC 0 ?_ | refine YC 1 ?_ | refine YC 2 ?_ | refine YC 3 ?_ | refine YC 4 ?_ | refine YC 5 ?_ | refine YC 6 ?_ | refine YC 7 ?_ | refine YcW T Zz Zz Zz (by assumption) Zz ?_ | refine Ya4 T Zz Zz Zz (by assumption) Zz ?_ | refine XD ?_ | refine YbA T Zz Zz Zz ?_ | refine Yq ?_ | refine W6 Zz ?_ | refine Ynp Zz ?_ | refine YaH ?_ | refine YaU Zz Zz ?_ | refine YiC T Zz Zz Zz Zz Zz Zz ?_ | refine Yap T Zz Zz Zz ?_ | refine Ydk T Zz Zz Zz Zz ?_ | refine Yd7 T Zz Zz Zz Zz ?_ | refine Ydi T Zz Zz Zz Zz ?_ | refine Yd6 T Zz Zz Zz Zz ?_ | refine YbB T Zz Zz Zz ?_ | refine XH ?_ | refine q_max Zz Zz ?_ | refine YeW Zz Zz (Xr Zi) ?_ | refine YoW Zz Zz (Xr Zi) ?_))
      (first | refine PK.q Zz ?_ | refine PK.yes Zz Zz ?_);refine Yh (vs:=[Zy x.when_.op,Zy x.when_.name,Zc A2 n2 c2',Zc A3 n3 c3',Zc A4 n4 c4',Zc A5 n5 c5']) 2 ?_
      repeat ((first | refine PK.q Zz ?_ | refine PK.yes Zz Zz ?_);(first | refine Wo ?_ | refine YR ?_ | refine Xw ?_ | refine Yw 0 ?_ (hv:=by exact rfl) | refine Yw 1 ?_ (hv:=by exact rfl) | refine Yw 2 ?_ (hv:=by exact rfl) | refine Yw 3 ?_ (hv:=by exact rfl) | refine Yw 4 ?_ (hv:=by exact rfl) | refine Yw 5 ?_ (hv:=by exact rfl) | refine Yw 6 ?_ (hv:=by exact rfl) | refine Yw 7 ?_ (hv:=by exact rfl) | refine YC 0 ?_ | refine YC 1 ?_ | refine YC 2 ?_ | refine YC 3 ?_ | refine YC 4 ?_ | refine YC 5 ?_ | refine YC 6 ?_ | refine YC 7 ?_ | refine YcW T Zz Zz Zz (by assumption) Zz ?_ | refine Ya4 T Zz Zz Zz (by assumption) Zz ?_ | refine XD ?_ | refine YbA T Zz Zz Zz ?_ | refine Yq ?_ | refine W6 Zz ?_ | refine Ynp Zz ?_ | refine YaH ?_ | refine YaU Zz Zz ?_ | refine YiC T Zz Zz Zz Zz Zz Zz ?_ | refine Yap T Zz Zz Zz ?_ | refine Ydk T Zz Zz Zz Zz ?_ | refine Yd7 T Zz Zz Zz Zz ?_ | refine Ydi T Zz Zz Zz Zz ?_ | refine Yd6 T Zz Zz Zz Zz ?_ | refine YbB T Zz Zz Zz ?_ | refine XH ?_ | refine q_max Zz Zz ?_ | refine YeW Zz Zz (Xr Zi) ?_ | refine YoW Zz Zz (Xr Zi) ?_))
      (first | refine PK.q Zz ?_ | refine PK.yes Zz Zz ?_);refine WF (fun fz' hle hf=>YdO _ (Zs _) (hK2.mono hle) hOs (hf (gs,mapS m) (by simp)) (hSet2.mono hle) (hR.when_.mono (hle2.trans hle)) hC.when_ (hE0.mono (hle2.trans hle)) hP) ?_
      rw [hb]
      repeat ((first | refine PK.q Zz ?_ | refine PK.yes Zz Zz ?_);(first | refine Wo ?_ | refine YR ?_ | refine Xw ?_ | refine Yw 0 ?_ (hv:=by exact rfl) | refine Yw 1 ?_ (hv:=by exact rfl) | refine Yw 2 ?_ (hv:=by exact rfl) | refine Yw 3 ?_ (hv:=by exact rfl) | refine Yw 4 ?_ (hv:=by exact rfl) | refine Yw 5 ?_ (hv:=by exact rfl) | refine Yw 6 ?_ (hv:=by exact rfl) | refine Yw 7 ?_ (hv:=by exact rfl) | refine YC 0 ?_ | refine YC 1 ?_ | refine YC 2 ?_ | refine YC 3 ?_ | refine YC 4 ?_ | refine YC 5 ?_ | refine YC 6 ?_ | refine YC 7 ?_ | refine YcW T Zz Zz Zz (by assumption) Zz ?_ | refine Ya4 T Zz Zz Zz (by assumption) Zz ?_ | refine XD ?_ | refine YbA T Zz Zz Zz ?_ | refine Yq ?_ | refine W6 Zz ?_ | refine Ynp Zz ?_ | refine YaH ?_ | refine YaU Zz Zz ?_ | refine YiC T Zz Zz Zz Zz Zz Zz ?_ | refine Yap T Zz Zz Zz ?_ | refine Ydk T Zz Zz Zz Zz ?_ | refine Yd7 T Zz Zz Zz Zz ?_ | refine Ydi T Zz Zz Zz Zz ?_ | refine Yd6 T Zz Zz Zz Zz ?_ | refine YbB T Zz Zz Zz ?_ | refine XH ?_ | refine q_max Zz Zz ?_ | refine YeW Zz Zz (Xr Zi) ?_ | refine YoW Zz Zz (Xr Zi) ?_))
      refine pT ?_;refine Yb ?_;refine YqE Zz Zj (Does.perm (H':=[(gs,mapS m),_,_,_]) (Zq (l₁:=[_]) (l₂:=[_,_,_])) (Yk [_] [_,_,_] Zz (add_f hSet2 hRa hok) (fun v5 fz5 H5 hle5 hR5=>?_)));obtain ⟨rfl,rfl,m5,rfl,hS5⟩:=hR5;rw [if_neg hin] at hS5;rw [decide_eq_true hin];refine Yb ?_;refine PoS.hard (DoesQ.does (YaH ?_)) (hd:=rfl);refine Yb ?_;refine PoS.hard (DoesQ.does (YR ?_)) (hd:=rfl);refine Po.done ?_;exact wR (h:=by exact ⟨by rw [addM,if_pos ⟨hin,hb⟩],m5,rfl,by rw [addM,if_pos ⟨hin,hb⟩];exact hS5⟩)
   exact absurd rfl c1
  | cons p ps=>
   have hn1:n=ps.length+1:=by rw [<- lp];rfl
   subst hn1;have hp0:(p::ps)[0]?=some p:=rfl;have hcap:=hps.cap;refine wC ?_ ?_<;>intro c1
   ·exact absurd c1 Zi
   refine zWN ?_;refine Y6 [_,_] ?_;refine wI hps hp0 (fun p1 hp1=>?_);refine wH hp1.Param_typ (fun hst=>?_);refine Yl (Yl ?_);refine zW ?_;refine QK.dz ?_;refine Yg (Yk [] [_,_] Zz (kof_f (t:=p.typ) hK) (fun v4 fz4 H4 hle4 hR4=>⟨⟨hle4,Zx⟩,?_⟩));obtain ⟨rfl,Bo,mo,do_,rfl,hSo⟩:=hR4;have lo:=hSo.len;have so:=hSo.short;refine Ch.qk ⟨hle4,Zx⟩ (XD ?_);refine Ch.done ?_;generalize hF:(fun r o=>if 4096<r.1.length then r else ((addM K x ps (setE E p.name o) r.1).1,(addM K x ps (setE E p.name o) r.1).2 || r.2))=F;have hA:addM K x (p::ps) E S=(ofK K p.typ).foldl F (S,false):=by rw [addM,hF]
   have hF1:∀ r o,4096<r.1.length->F r o=r:=fun r o h=>by rw [<- hF];exact if_pos h
   have hF2:∀ (r:List Atom × Bool) o,¬4096<r.1.length->F r o=((addM K x ps (setE E p.name o) r.1).1,(addM K x ps (setE E p.name o) r.1).2 || r.2):=fun r o h=>by rw [<- hF];exact if_neg h
   refine zW ?_;refine Yn (fun q σ fz' H'=>∃ (k:Nat) (m:List (Bs × Value)) (Sk:List Atom) (nk:Bool),k<=mo/\q=mo - k/\σ=[(68,Zk k),(67,Zk mo),(66,Zc Bo mo do_),(12,Zo nk),(5,Zp g5),(3,.map (some ge)),(2,Zc A (ps.length+1) c),(0,Zp gr)]/\Le fz4 fz'/\H'=[(g5,Zu #[Zk x.kind,Zc A1 n1 c1',Zy x.when_.op,Zy x.when_.name,Zc A2 n2 c2',Zc A3 n3 c3',Zc A4 n4 c4',Zc A5 n5 c5',Zy x.name,Zc A6 n6 c6',Zy x.value.op,Zy x.value.name,Zk x.value.n,Zc A7 n7 c7',Zc A8 n8 c8'] 71),(gs,mapS m)]/\SetM fz' m Sk/\((ofK K p.typ).take k).foldl F (S,false)=(Sk,nk)) ⟨0,m,S,false,Z0 _,rfl,rfl,Zd,rfl,hSet.mono hle4,rfl⟩ Zw Zb ?_;rintro q σ fz5 H' ⟨k,m5,Sk,nk,hk5,rfl,rfl,hle5,rfl,hS5,hf5⟩;have hx5:=hle4.trans hle5;have hr5:=hx5 _ _ hr;refine wC ?_ ?_<;>intro c2
   ·obtain ⟨o,ho⟩:=Yf (l:=ofK K p.typ) (k:=k) Zi;have hom:=Zm ho;obtain ⟨po,hpo,epo⟩:=Ylq hom;have hoP:PlnS o:=epo ▸ hOs po hpo;have hsl:=hS5.2.1;refine wI (hSo.mono hle5) ho (fun p2 hp2=>?_);refine zH hp2 (fun hso=>?_);refine wG ?_;refine YeU 1 ?_;refine zC ?_ ?_<;>intro c3
    ·have hstop:addM K x (p::ps) E S=(Sk,nk):=by
      rw [hA,<- List.take_append_drop k (ofK K p.typ),List.foldl_append,hf5];exact Ykt hF1 _ _ (by show 4096<Sk.length;omega)
     exact wR (h:=by exact ⟨by rw [hstop],m5,rfl,by rw [hstop];exact hS5⟩)
    have hnext:((ofK K p.typ).take (k+1)).foldl F (S,false)=((addM K x ps (setE E p.name o) Sk).1,(addM K x ps (setE E p.name o) Sk).2 || nk):=by
     rw [List.take_add_one,ho,List.foldl_append,hf5];exact hF2 (Sk,nk) o (by show ¬4096<Sk.length;omega)
    refine zWN ?_;refine Yay [] [_] ?_;refine wG ?_;refine Yfq (j:=1) (hps.mono hx5) (fun A' hS'=>?_);refine wG ?_;refine Ylm (j:=1) ?_;refine zW ?_;refine Yx ?_;refine zW ?_;refine pT ?_;refine Yb ?_;refine Ye (Yc (cs:=[Zy o]) (fun gb=>⟨⟨Zd,Zx⟩,?_⟩));refine Yb ?_;refine Ye (Does.freeze (H1:=[_,_]) (H2:=[_]) (Zq (l₁:=[_])) (fun fz6 hle6 hf6=>?_));have hgb:Grow strL 9 fz5 (Zv gb 1 1) 1 [(gb,Zu #[Zy o] 9)] [o]:=
     Grow.block (ys:=[(o,[Value.string o])]) rfl rfl (by intro q hq;simp at hq;subst hq;exact ⟨rfl,hso⟩) rfl
    obtain ⟨B7,d7,e7,hS7⟩:=hgb.sl hle6 hf6 Zh;injection e7 with e71 e72 e73
    subst e71;subst e73;have hcut:=Yqc (hps.mono (hx5.trans hle6)) (k:=1) Zi;refine Yk [] [_,_] Zz (env_f hcut hS7 (Zs _) (.inr (hE0.mono (hx5.trans hle6)))) (fun v7 fz7 H7 hle7 hR7=>⟨⟨hle6.trans hle7,Zx⟩,?_⟩);obtain ⟨rfl,hE7⟩:=hR7;have hE8:EnvR fz7 v7 (setE E p.name o):=hE7;have hx7:=hx5.trans (hle6.trans hle7);refine Yb ?_;refine Ye (Does.perm (H':=[(gs,mapS m5),_]) (List.Perm.swap _ _ _) (Does.after (Yk [_] [_] Zz (radd_f ps (hx7 _ _ hr) (hK.mono hx7) hOs (hS5.mono (hle6.trans hle7)) (YbJ (hR.mono hx7)) hC (hS'.mono (hle6.trans hle7)) Zi hE8 (hP.set hoP)) (fun v8 fz8 H8 hle8 hR8=>?_))));obtain ⟨rfl,m8,rfl,hS8⟩:=hR8;refine ⟨[(g5,Zu #[Zk x.kind,Zc A1 n1 c1',Zy x.when_.op,Zy x.when_.name,Zc A2 n2 c2',Zc A3 n3 c3',Zc A4 n4 c4',Zc A5 n5 c5',Zy x.name,Zc A6 n6 c6',Zy x.value.op,Zy x.value.name,Zk x.value.n,Zc A7 n7 c7',Zc A8 n8 c8'] 71),(gs,mapS m8)],List.Perm.swap _ _ _,⟨hle6.trans (hle7.trans hle8),Zx⟩,?_⟩;refine Yb ?_;refine PoS.qk ⟨hle6.trans (hle7.trans hle8),Zx⟩ (Wo ?_);generalize hb8:(addM K x ps (setE E p.name o) Sk).2=b8 at hnext;cases b8 with
    | true=>
     refine Yb ?_;refine YqD Zz ?_;refine Yb ?_;refine PoS.qk ⟨hle6.trans (hle7.trans hle8),Zx⟩ (YaH ?_);refine Yb ?_;refine PoS.qk ⟨hle6.trans (hle7.trans hle8),Zx⟩ (YR ?_);refine Po.done ?_;exact wP (h:=by exact ⟨k+1,m8,_,true,by omega,rfl,rfl,hle5.trans (hle6.trans (hle7.trans hle8)),rfl,hS8,hnext⟩)
    | false=>
     refine Yb ?_;refine PoS.qkG ⟨hle6.trans (hle7.trans hle8),Zx⟩ Zz (Wo ?_);refine Yb ?_;refine PoS.qk ⟨hle6.trans (hle7.trans hle8),Zx⟩ (YaU Zz Zz ?_);refine Yb ?_;refine PoS.qk ⟨hle6.trans (hle7.trans hle8),Zx⟩ (YR ?_);refine Po.done ?_;exact wP (h:=by exact ⟨k+1,m8,_,nk,by omega,rfl,rfl,hle5.trans (hle6.trans (hle7.trans hle8)),rfl,hS8,hnext⟩)
   have hdone:addM K x (p::ps) E S=(Sk,nk):=by
    rw [Zl (show (ofK K p.typ).length<=k by omega)] at hf5;rw [hA,hf5]
   exact wR (h:=by exact ⟨by rw [hdone],m5,rfl,by rw [hdone];exact hS5⟩)
theorem adds_f {gr gk gs:Nat} {vs vd vat:Value} {S:List Atom} {l:List Change} {n:Nat}
 (hr:fz gr=some (Zu #[Zp gk,vs,.map (some gs),vb,vd] 83)) (hK:KnR fz (Zp gk) K) (hOs:∀ o∈K.os,PlnS o.name) (hSet:SetM fz m S) (hl:Sl changeL fz A n c l) (hC:∀ x∈l,CSh x) (hE:EnvR fz vat E) (hP:EnvP E):
 GFn prog 92 [Zp gr,Zc A n c,vat] fz [(gs,mapS m)] (fun r fz' H'=>r=Zo (X8 K l E S).2/\∃ m',H'=[(gs,mapS m')]/\SetM fz' m' (X8 K l E S).1):=by
 have ll:=hl.len;have sl:=hl.short;have hE0:=hE;obtain ⟨ge,me,rfl,hge,hne,hee⟩:=hE;refine zF Tryz.func92 Tryz.ntmps92 (fun w0=>?_);generalize hF:(fun (r:List Atom × Bool) (c:Change)=>((addM K c c.params E r.1).1,(addM K c c.params E r.1).2 || r.2))=F;have hA:X8 K l E S=l.foldl F (S,false):=by rw [X8,hF]
 have hF2:∀ (r:List Atom × Bool) x,F r x=((addM K x x.params E r.1).1,(addM K x x.params E r.1).2 || r.2):=fun r x=>by rw [<- hF]
 refine zW ?_;refine Yn (fun q σ fz' H'=>∃ (k:Nat) (m:List (Bs × Value)) (Sk:List Atom) (nk:Bool),k<=n/\q=n - k/\σ=[(12,Zk k),(11,Zk n),(10,Zc A n c),(7,Zo nk),(2,.map (some ge)),(0,Zp gr)]/\Le fz fz'/\H'=[(gs,mapS m)]/\SetM fz' m Sk/\(l.take k).foldl F (S,false)=(Sk,nk)) ⟨0,m,S,false,Z0 _,rfl,rfl,Zd,rfl,hSet,rfl⟩ Zw Zb ?_;rintro q σ fz5 H' ⟨k,m5,Sk,nk,hk5,rfl,rfl,hle5,rfl,hS5,hf5⟩;refine wC ?_ ?_<;>intro c2
 ·obtain ⟨x,hx⟩:=Yf (l:=l) (k:=k) Zi;have hxm:=Zm hx;have hCx:=hC x hxm;have hxp:=hCx.params;have hnext:(l.take (k+1)).foldl F (S,false)=((addM K x x.params E Sk).1,(addM K x x.params E Sk).2 || nk):=by
   rw [List.take_add_one,hx,List.foldl_append,hf5];exact hF2 (Sk,nk) x
  refine wI (hl.mono hle5) hx (fun p2 hp2=>?_);refine zL hp2 ?_;intro cs hcs;obtain ⟨u1,u2,u3,u4,u5,u6,u7,u8,rfl,hR⟩:=Xb hcs;obtain ⟨A1,n1,c1',rfl,ip⟩:=id hR.params;obtain ⟨⟨A2,n2,c2',rfl,_⟩,⟨A3,n3,c3',rfl,_⟩,⟨A4,n4,c4',rfl,_⟩,⟨A5,n5,c5',rfl,_⟩⟩:=id hR.when_.sls;obtain ⟨A6,n6,c6',rfl,ia⟩:=id hR.args;obtain ⟨⟨A7,n7,c7',rfl,_⟩,⟨A8,n8,c8',rfl,_⟩⟩:=id hR.value.sls;have lip:=ip.len;refine zW ?_;intros;refine Yd (Does.perm (H':=[(gs,mapS m5),_]) (List.Perm.swap _ _ _) (Yk [_] [_] Zz (radd_f x.params (hle5 _ _ hr) (hK.mono hle5) hOs hS5 (YbJ hR) hCx ip Zi (hE0.mono hle5) hP) (fun v8 fz8 H8 hle8 hR8=>?_)));obtain ⟨rfl,m8,rfl,hS8⟩:=hR8;generalize hb8:(addM K x x.params E Sk).2=b8 at hnext;cases b8 with
  | true=>
   exact wP (h:=by exact ⟨k+1,m8,_,true,by omega,rfl,rfl,hle5.trans hle8,rfl,hS8,hnext⟩)
  | false=>
   exact wP (h:=by exact ⟨k+1,m8,_,nk,by omega,rfl,rfl,hle5.trans hle8,rfl,hS8,hnext⟩)
 have hdone:X8 K l E S=(Sk,nk):=by
  rw [Zl (show l.length<=k by omega)] at hf5;rw [hA,hf5]
 exact wR (h:=by exact ⟨by rw [hdone],m5,rfl,by rw [hdone];exact hS5⟩)
end Go.Proofs.YtbdpaoikccabhaaGreatDoor
namespace Go.Lx
open Go.RowKit
variable {fz fz':FZ} {cs:List Value}
structure Schema where
 name:Bs
 params:List Param
 start:Formula
 all:Formula
 over:Formula
 fin:Formula
 early:List Change
 late:List Change
 count:Bool
 arguments:List (List Bs)
structure SchemaR (fz:FZ) (x:Schema) (vparams vstart_args vstart_params vstart_exprs vstart_kids vall_args vall_params vall_exprs vall_kids vover_args vover_params vover_exprs vover_kids vfin_args vfin_params vfin_exprs vfin_kids vearly vlate varguments:Value):Prop where
 name:Short x.name
 params:IsSl paramL fz vparams x.params
 start:FormulaR fz x.start vstart_args vstart_params vstart_exprs vstart_kids
 all:FormulaR fz x.all vall_args vall_params vall_exprs vall_kids
 over:FormulaR fz x.over vover_args vover_params vover_exprs vover_kids
 fin:FormulaR fz x.fin vfin_args vfin_params vfin_exprs vfin_kids
 early:IsSl changeL fz vearly x.early
 late:IsSl changeL fz vlate x.late
 count:True
 arguments:IsSl (slL strL) fz varguments x.arguments
theorem SchemaR.mono (hle:Le fz fz') {x:Schema} {vparams vstart_args vstart_params vstart_exprs vstart_kids vall_args vall_params vall_exprs vall_kids vover_args vover_params vover_exprs vover_kids vfin_args vfin_params vfin_exprs vfin_kids vearly vlate varguments:Value} (h:SchemaR fz x vparams vstart_args vstart_params vstart_exprs vstart_kids vall_args vall_params vall_exprs vall_kids vover_args vover_params vover_exprs vover_kids vfin_args vfin_params vfin_exprs vfin_kids vearly vlate varguments):SchemaR fz' x vparams vstart_args vstart_params vstart_exprs vstart_kids vall_args vall_params vall_exprs vall_kids vover_args vover_params vover_exprs vover_kids vfin_args vfin_params vfin_exprs vfin_kids vearly vlate varguments:=⟨h.name,h.params.mono hle,h.start.mono hle,h.all.mono hle,h.over.mono hle,h.fin.mono hle,h.early.mono hle,h.late.mono hle,trivial,h.arguments.mono hle⟩
def schemaL:Lay Schema where
 size:=30
 rep:=fun fz x cs=>∃ vparams vstart_args vstart_params vstart_exprs vstart_kids vall_args vall_params vall_exprs vall_kids vover_args vover_params vover_exprs vover_kids vfin_args vfin_params vfin_exprs vfin_kids vearly vlate varguments,cs=[Zy x.name,vparams,Zy x.start.op,Zy x.start.name,vstart_args,vstart_params,vstart_exprs,vstart_kids,Zy x.all.op,Zy x.all.name,vall_args,vall_params,vall_exprs,vall_kids,Zy x.over.op,Zy x.over.name,vover_args,vover_params,vover_exprs,vover_kids,Zy x.fin.op,Zy x.fin.name,vfin_args,vfin_params,vfin_exprs,vfin_kids,vearly,vlate,Zo x.count,varguments]/\SchemaR fz x vparams vstart_args vstart_params vstart_exprs vstart_kids vall_args vall_params vall_exprs vall_kids vover_args vover_params vover_exprs vover_kids vfin_args vfin_params vfin_exprs vfin_kids vearly vlate varguments
 len:=fun h=>by obtain ⟨vparams,vstart_args,vstart_params,vstart_exprs,vstart_kids,vall_args,vall_params,vall_exprs,vall_kids,vover_args,vover_params,vover_exprs,vover_kids,vfin_args,vfin_params,vfin_exprs,vfin_kids,vearly,vlate,varguments,rfl,_⟩:=h;rfl
 mono:=fun hle h=>by obtain ⟨vparams,vstart_args,vstart_params,vstart_exprs,vstart_kids,vall_args,vall_params,vall_exprs,vall_kids,vover_args,vover_params,vover_exprs,vover_kids,vfin_args,vfin_params,vfin_exprs,vfin_kids,vearly,vlate,varguments,e,h⟩:=h;exact ⟨vparams,vstart_args,vstart_params,vstart_exprs,vstart_kids,vall_args,vall_params,vall_exprs,vall_kids,vover_args,vover_params,vover_exprs,vover_kids,vfin_args,vfin_params,vfin_exprs,vfin_kids,vearly,vlate,varguments,e,h.mono hle⟩
theorem Yae {x:Schema} (h:schemaL.rep fz x cs):∃ vparams vstart_args vstart_params vstart_exprs vstart_kids vall_args vall_params vall_exprs vall_kids vover_args vover_params vover_exprs vover_kids vfin_args vfin_params vfin_exprs vfin_kids vearly vlate varguments,cs=[Zy x.name,vparams,Zy x.start.op,Zy x.start.name,vstart_args,vstart_params,vstart_exprs,vstart_kids,Zy x.all.op,Zy x.all.name,vall_args,vall_params,vall_exprs,vall_kids,Zy x.over.op,Zy x.over.name,vover_args,vover_params,vover_exprs,vover_kids,Zy x.fin.op,Zy x.fin.name,vfin_args,vfin_params,vfin_exprs,vfin_kids,vearly,vlate,Zo x.count,varguments]/\SchemaR fz x vparams vstart_args vstart_params vstart_exprs vstart_kids vall_args vall_params vall_exprs vall_kids vover_args vover_params vover_exprs vover_kids vfin_args vfin_params vfin_exprs vfin_kids vearly vlate varguments:=h
theorem YcS {x:Schema} {vparams vstart_args vstart_params vstart_exprs vstart_kids vall_args vall_params vall_exprs vall_kids vover_args vover_params vover_exprs vover_kids vfin_args vfin_params vfin_exprs vfin_kids vearly vlate varguments:Value} (h:SchemaR fz x vparams vstart_args vstart_params vstart_exprs vstart_kids vall_args vall_params vall_exprs vall_kids vover_args vover_params vover_exprs vover_kids vfin_args vfin_params vfin_exprs vfin_kids vearly vlate varguments):schemaL.rep fz x [Zy x.name,vparams,Zy x.start.op,Zy x.start.name,vstart_args,vstart_params,vstart_exprs,vstart_kids,Zy x.all.op,Zy x.all.name,vall_args,vall_params,vall_exprs,vall_kids,Zy x.over.op,Zy x.over.name,vover_args,vover_params,vover_exprs,vover_kids,Zy x.fin.op,Zy x.fin.name,vfin_args,vfin_params,vfin_exprs,vfin_kids,vearly,vlate,Zo x.count,varguments]:=⟨vparams,vstart_args,vstart_params,vstart_exprs,vstart_kids,vall_args,vall_params,vall_exprs,vall_kids,vover_args,vover_params,vover_exprs,vover_kids,vfin_args,vfin_params,vfin_exprs,vfin_kids,vearly,vlate,varguments,rfl,h⟩
end Go.Lx
namespace Go.Proofs.YtbdpaoikccabhaaGreatDoor
variable {α:Type} {fz:FZ} {cs:List Value} {j g:Nat} {v:Value} {K:Kn} {t:TypeId} {L:Lay α} {l:List α}
def schA (a:Action):Schema:=⟨a.name,a.params,normV a.pre,normV a.pre,Yds,Yds,[],normC a.changes,true,[]⟩
def schD (a:Durative):Schema:=⟨a.name,a.params,normV (andF [a.start]),normV (andF [a.start,a.over,a.fin]),normV (andF [a.over]),normV (andF [a.fin]),normC a.atStart,normC a.atEnd,false,[]⟩
def schB (d:Domain):List Schema:=d.actions.map schA++d.duratives.map schD
def YaF (K:Kn) (s:Schema):Schema:={s with arguments:=YcF K s.params 4096}
def schL (K:Kn) (d:Domain):List Schema:=(schB d).map (YaF K)
def YbU (l:List Schema):Nat:=(l.map fun s=>s.arguments.length).sum
def Yla (K:Kn) (s:Schema):Prop:=s.count=true/\(64<termsM K s.start\/∃ c∈s.late,64<termsM K c.when_)
def schE (K:Kn) (d:Domain):Int:=if 4096<YbU (schL K d) then 5 else if ∃ s∈schL K d,Yla K s then 5 else 0
structure KnD (fz:FZ) (v:Value) (K:Kn) (d:Domain):Prop where
 k:KnR fz v K
 ex:∃ (g:Nat) (cs:List Value) (v5 v6:Value),v=Zp g/\fz g=some (Zu cs.toArray 127)/\cs[5]?=some v5/\cs[6]?=some v6/\IsSl actionL fz v5 d.actions/\IsSl durativeL fz v6 d.duratives
theorem YhC:OneC schemaL:=by
 intro fz d cs h u hu;obtain ⟨u0,u1,u2,u3,u4,u5,u6,u7,u8,u9,u10,u11,u12,u13,u14,u15,u16,u17,u18,u19,rfl,hR⟩:=Yae h;obtain ⟨A0,n0,c0,rfl,_⟩:=hR.params;obtain ⟨⟨A1,n1,c1,rfl,_⟩,⟨A2,n2,c2,rfl,_⟩,⟨A3,n3,c3,rfl,_⟩,⟨A4,n4,c4,rfl,_⟩⟩:=hR.start.sls;obtain ⟨⟨A5,n5,c5,rfl,_⟩,⟨A6,n6,c6,rfl,_⟩,⟨A7,n7,c7,rfl,_⟩,⟨A8,n8,c8,rfl,_⟩⟩:=hR.all.sls;obtain ⟨⟨A9,n9,c9,rfl,_⟩,⟨A10,n10,c10,rfl,_⟩,⟨A11,n11,c11,rfl,_⟩,⟨A12,n12,c12,rfl,_⟩⟩:=hR.over.sls;obtain ⟨⟨A13,n13,c13,rfl,_⟩,⟨A14,n14,c14,rfl,_⟩,⟨A15,n15,c15,rfl,_⟩,⟨A16,n16,c16,rfl,_⟩⟩:=hR.fin.sls;obtain ⟨A17,n17,c17,rfl,_⟩:=hR.early;obtain ⟨A18,n18,c18,rfl,_⟩:=hR.late;obtain ⟨A19,n19,c19,rfl,_⟩:=hR.arguments
 iterate 30 (rcases List.mem_cons.1 hu with rfl | hu;· rfl)
 cases hu
structure SchS (K:Kn) (d:Domain):Prop where
 na:d.actions.length<=2000000
 nd:d.duratives.length<=2000000
 pa:∀ a∈d.actions,fW a.pre<=100000000/\a.params.length<=2000000/\a.changes.length<=2000000/\∀ c∈a.changes,fW c.when_<=100000000
 pd:∀ a∈d.duratives,fW a.start<=10000000/\fW a.over<=10000000/\fW a.fin<=10000000/\a.params.length<=2000000/\a.atStart.length<=2000000/\a.atEnd.length<=2000000/\(∀ c∈a.atStart,fW c.when_<=100000000)/\(∀ c∈a.atEnd,fW c.when_<=100000000)
 sh:∀ a∈d.actions,ShN (normV a.pre)/\∀ c∈normC a.changes,ShN c.when_
theorem Yk1:FormulaR fz Yds Zn Zn Zn Zn:=⟨Z0 _,Z0 _,IsSl.nil,IsSl.nil,IsSl.nil,IsSl.nil⟩
theorem Ym5 (l:List Formula) (h:(l.map fW).sum<=90000000):fW (andF l)<=100000000:=by
 rw [Ybu];show 1+0+0+0+(l.map fW).sum<=_;omega
theorem Ykw {z:Nat} {cur:List Value} {o:Nat} (hc:(cur.drop (j*z)).take z=cs) (hv:cs[o]?=some v):cur[j*z+o]?=some v:=by
 subst hc;have ho:o<z:=by
  have:=(Zg hv).1;rw [List.length_take] at this;omega
 rw [List.getElem?_take_of_lt ho,List.getElem?_drop] at hv;exact hv
theorem YnI {e:Nat} {n cap:Nat} {cur:List Value} (h:GrowB L e fz g n cap cur l) {o:Nat} {d d':α} (hj:l[j]?=some d) (hc:(cur.drop (j*L.size)).take L.size=cs) (ho:o<L.size) (hr:L.rep fz d' (cs.set o v)):
 GrowB L e fz g n cap (cur.set (j*L.size+o) v) (l.set j d'):=by
 obtain ⟨xs,h1,h2,h3⟩:=h.pairs;have hl:=h.len;have hjn:j<n:=by have:=(Zg hj).1;omega
 have hxl:xs.length=n:=by rw [<- h1,List.length_map] at hl;exact hl
 have hsz:=h.size;have hcap:=h.capn;have hjz:j*L.size+L.size<=n*L.size:=by rw [<- Nat.succ_mul];exact Nat.mul_le_mul_right _ hjn
 have hnc:n*L.size<=cap*L.size:=Nat.mul_le_mul_right _ hcap;refine ⟨⟨xs.set j (d',cs.set o v),by rw [List.map_set,h1],fun p hp=>?_,?_⟩,by rw [List.length_set];exact hl,hcap,h.max,by rw [List.length_set];exact hsz⟩
 ·rcases List.mem_or_eq_of_mem_set hp with hp | hp
  ·exact h2 p hp
  subst hp;exact hr
 have hcl:cs.length=L.size:=by rw [<- hc,List.length_take,List.length_drop];omega
 rw [<- Yen (z:=L.size) (d:=(d',cs.set o v)) (by simpa using hcl) (fun p hp=>L.len (h2 p hp)) Zi,<- h3];refine List.ext_getElem? fun i=>?_
 rw [List.getElem?_take];simp only [<- hc];by_cases hi:i<n*L.size
 ·rw [if_pos hi];by_cases h5:i<j*L.size
  ·rw [List.append_assoc,List.getElem?_append_left (by rw [List.length_take,List.length_take];omega),List.getElem?_take_of_lt h5,List.getElem?_take_of_lt hi,List.getElem?_set_ne Zi]
  have e1:((cur.take (n*L.size)).take (j*L.size)).length=j*L.size:=by rw [List.length_take,List.length_take];omega
  have e2:(((cur.drop (j*L.size)).take L.size).set o v).length=L.size:=by rw [List.length_set,List.length_take,List.length_drop];omega
  rw [List.append_assoc,List.getElem?_append_right Zi,e1];by_cases h6:i<j*L.size+L.size
  ·rw [List.getElem?_append_left Zi];by_cases h7:i=j*L.size+o
   ·subst h7;rw [List.getElem?_set_self Zi,Nat.add_sub_cancel_left,List.getElem?_set_self (by rw [List.length_set] at e2;omega)]
   rw [List.getElem?_set_ne Zi,List.getElem?_set_ne Zi,List.getElem?_take_of_lt Zi,List.getElem?_drop]
   congr 1;omega
  rw [List.getElem?_append_right Zi,e2,List.getElem?_drop,List.getElem?_take_of_lt Zi,List.getElem?_set_ne Zi]
  congr 1;omega
 rw [if_neg hi];have:i>=(List.take (j*L.size) (cur.take (n*L.size))++((cur.drop (j*L.size)).take L.size).set o v++(cur.take (n*L.size)).drop (j*L.size+L.size)).length:=by
  simp only [List.length_append,List.length_take,List.length_drop,List.length_set];omega
 rw [List.getElem?_eq_none Zi]
theorem schm1_q {x:Change} {g1:Nat} {t1:TypeId} (hK:KnR fz v K) (hc:changeL.rep fz x cs) (hS:ShN x.when_) (h1:fz g1=some (.cells #[v] t1 (0,0))):
 QFn prog 89 [.agg cs.toArray,Zp g1] fz (Zo (decide (64<termsM K x.when_))):=by
 obtain ⟨u1,u2,u3,u4,u5,u6,u7,u8,rfl,hR⟩:=Xb hc;obtain ⟨A1,n1,c1',rfl,_⟩:=id hR.params;obtain ⟨⟨A2,n2,c2',rfl,_⟩,⟨A3,n3,c3',rfl,_⟩,⟨A4,n4,c4',rfl,_⟩,⟨A5,n5,c5',rfl,_⟩⟩:=id hR.when_.sls;obtain ⟨A6,n6,c6',rfl,_⟩:=id hR.args;obtain ⟨⟨A7,n7,c7',rfl,_⟩,⟨A8,n8,c8',rfl,_⟩⟩:=id hR.value.sls;have hK0:=hK;obtain ⟨⟨gk,a0,a1,a2,a3,a4,a5,a6,a7,a8,a9,a10,a11,a12,a13,a14,a15,a16,a17,vf,Ao,no,co,gc,gi,mc,mi,rfl,hg,hF,hO,h5,h6,h7,h8⟩,hw,_⟩:=hK;refine qF Tryz.func89 Tryz.ntmps89 (fun w0=>?_);refine pX (fun g2=>?_);refine wG ?_;refine Yh (vs:=[Zy x.when_.op,Zy x.when_.name,Zc A2 n2 c2',Zc A3 n3 c3',Zc A4 n4 c4',Zc A5 n5 c5']) 0 ?_;refine zc (YoB hK0 hR.when_ hS) ?_;refine zC ?_ ?_<;>intro c1
 ·exact wR (h:=by rw [decide_eq_true Zi])
 exact wR (h:=by rw [decide_eq_false Zi])
structure DurV (a:Durative) (i:Nat) (v:Value) (fz:FZ):Prop where
 p7:i=7->IsSl formulaL fz v [a.start]
 p8:i=8->FormulaV fz (normV (andF [a.start])) v
 p11:i=11->IsSl formulaL fz v [a.over]
 p12:i=12->FormulaV fz (normV (andF [a.over])) v
 p15:i=15->IsSl formulaL fz v [a.fin]
 p16:i=16->FormulaV fz (normV (andF [a.fin])) v
 p23:i=23->IsSl formulaL fz v [a.start,a.over,a.fin]
 p24:i=24->FormulaV fz (normV (andF [a.start,a.over,a.fin])) v
 p27:i=27->IsSl changeL fz v (normC a.atStart)
 p30:i=30->IsSl changeL fz v (normC a.atEnd)
theorem DurV.mono {a:Durative} (i:Nat) (v:Value) (fz fz':FZ) (hle:Le fz fz') (h:DurV a i v fz):DurV a i v fz':=
 ⟨fun e=>(h.p7 e).mono hle,fun e=>(h.p8 e).mono hle,fun e=>(h.p11 e).mono hle,fun e=>(h.p12 e).mono hle,fun e=>(h.p15 e).mono hle,fun e=>(h.p16 e).mono hle,fun e=>(h.p23 e).mono hle,fun e=>(h.p24 e).mono hle,fun e=>(h.p27 e).mono hle,fun e=>(h.p30 e).mono hle⟩
theorem YpA {x:α} (h:fz g=some (Zu cs.toArray t)) (hr:L.rep fz x cs):IsSl L fz (Zv g 1 1) [x]:=
 (XC (m:=1) (l:=[x]) (ys:=[(x,cs)]) h (by simp) rfl (fun p hp=>by rw [List.mem_singleton] at hp;subst hp;exact hr) rfl Zh).is
theorem is_three {x y z:α} {ds es:List Value} (h:fz g=some (.cells (cs++ds++es).toArray t (0,0))) (hx:L.rep fz x cs) (hy:L.rep fz y ds) (hz:L.rep fz z es):IsSl L fz (Zv g 3 3) [x,y,z]:=
 (XC (m:=3) (l:=[x,y,z]) (ys:=[(x,cs),(y,ds),(z,es)]) h (by simp) rfl (fun p hp=>by
  rcases List.mem_cons.1 hp with rfl | hp
  ·exact hx
  rcases List.mem_cons.1 hp with rfl | hp
  ·exact hy
  rw [List.mem_singleton] at hp;subst hp;exact hz) rfl Zh).is
theorem DurV.m7 {a:Durative} (h:IsSl formulaL fz v [a.start]):DurV a 7 v fz:=⟨fun _=>h,Za,Za,Za,Za,Za,Za,Za,Za,Za⟩
theorem DurV.m8 {a:Durative} (h:FormulaV fz (normV (andF [a.start])) v):DurV a 8 v fz:=⟨Za,fun _=>h,Za,Za,Za,Za,Za,Za,Za,Za⟩
theorem DurV.m11 {a:Durative} (h:IsSl formulaL fz v [a.over]):DurV a 11 v fz:=⟨Za,Za,fun _=>h,Za,Za,Za,Za,Za,Za,Za⟩
theorem DurV.m12 {a:Durative} (h:FormulaV fz (normV (andF [a.over])) v):DurV a 12 v fz:=⟨Za,Za,Za,fun _=>h,Za,Za,Za,Za,Za,Za⟩
theorem DurV.m15 {a:Durative} (h:IsSl formulaL fz v [a.fin]):DurV a 15 v fz:=⟨Za,Za,Za,Za,fun _=>h,Za,Za,Za,Za,Za⟩
theorem DurV.m16 {a:Durative} (h:FormulaV fz (normV (andF [a.fin])) v):DurV a 16 v fz:=⟨Za,Za,Za,Za,Za,fun _=>h,Za,Za,Za,Za⟩
theorem DurV.m23 {a:Durative} (h:IsSl formulaL fz v [a.start,a.over,a.fin]):DurV a 23 v fz:=⟨Za,Za,Za,Za,Za,Za,fun _=>h,Za,Za,Za⟩
theorem DurV.m24 {a:Durative} (h:FormulaV fz (normV (andF [a.start,a.over,a.fin])) v):DurV a 24 v fz:=⟨Za,Za,Za,Za,Za,Za,Za,fun _=>h,Za,Za⟩
theorem DurV.m27 {a:Durative} (h:IsSl changeL fz v (normC a.atStart)):DurV a 27 v fz:=⟨Za,Za,Za,Za,Za,Za,Za,Za,fun _=>h,Za⟩
theorem DurV.m30 {a:Durative} (h:IsSl changeL fz v (normC a.atEnd)):DurV a 30 v fz:=⟨Za,Za,Za,Za,Za,Za,Za,Za,Za,fun _=>h⟩
theorem YgB (K:Kn):∀ l:List Schema,YbU (l.map (YaF K))<=4097*l.length
 | []=>by simp [YbU]
 | x::r=>by
  have h1:=YgB K r;have h2:=Yew K 4096 x.params [[]] (by simp);unfold YbU at h1 ⊢;simp only [List.map_cons,List.sum_cons,List.length_cons] at h1 ⊢;have:(YaF K x).arguments.length<=4097:=h2;omega
theorem manyS_le (K:Kn) (d:Domain) (k:Nat):YbU (((schB d).take k).map (YaF K))<=4097*(schB d).length:=by
 refine Nat.le_trans (YgB K _) (Nat.mul_le_mul_left _ ?_);rw [List.length_take];omega
theorem Ymi {d:Domain} {x:Schema} (hS:SchS K d) (hx:x∈schB d):x.params.length<=2000000:=by
 rcases List.mem_append.1 hx with hx | hx
 ·obtain ⟨a,ha,rfl⟩:=List.mem_map.1 hx;exact (hS.pa a ha).2.1
 obtain ⟨a,ha,rfl⟩:=List.mem_map.1 hx;exact (hS.pd a ha).2.2.2.1
theorem schL_sh {d:Domain} {x:Schema} (hS:SchS K d) (hx:x∈schL K d) (hc:x.count=true):ShN x.start/\∀ c∈x.late,ShN c.when_:=by
 obtain ⟨s,hs,rfl⟩:=List.mem_map.1 hx;rcases List.mem_append.1 hs with hs | hs
 ·obtain ⟨a,ha,rfl⟩:=List.mem_map.1 hs;exact hS.sh a ha
 obtain ⟨a,ha,rfl⟩:=List.mem_map.1 hs;cases hc
theorem YoK {d:Domain} (hKD:KnD fz v K d) (hS:SchS K d):
 GFn prog 47 [v] fz [] (fun r fz' H'=>H'=[]/\∃ vs,r=.tuple #[vs,errV (schE K d)]/\(schE K d=0->IsSl schemaL fz' vs (schL K d))/\(schE K d≠0->vs=Zn)):=by
 have hKD0:=hKD;obtain ⟨hK,gk,cs,v5,v6,rfl,hg,c5,c6,i5,i6⟩:=hKD;have hK0:=hK;obtain ⟨⟨gk',a0,a1,a2,a3,a4,a5,a6,a7,a8,a9,a10,a11,a12,a13,a14,a15,a16,a17,vf,Ao,no,co,gc,gi,mc,mi,e1,hg',hF,hO,h5,h6,h7,h8⟩,hw,hmany⟩:=hK;cases e1;rw [hg] at hg';injection hg' with hg'
 injection hg' with hg' _ _
 have e2:=congrArg Array.toList hg';simp only at e2;subst e2;simp only [List.getElem?_cons_succ,List.getElem?_cons_zero,Option.some.injEq] at c5 c6;subst c5;subst c6;obtain ⟨A5,n5,b5,rfl,i5⟩:=i5;obtain ⟨A6,n6,b6,rfl,i6⟩:=i6;have l5:=i5.len;have l6:=i6.len;have hna:=hS.na;have hnd:=hS.nd;refine zF Tryz.func47 Tryz.ntmps47 (fun w0=>?_);refine pX (fun g1=>?_);refine zW ?_;refine Yn (fun q σ fz' H'=>∃ (k:Nat) (u:Value) (Hs:HP),k<=n5/\q=n5 - k/\σ=[(20,Zk k),(19,Zk n5),(18,Zc A5 n5 b5),(4,u),(1,Zp g1)]/\Le fz fz'/\H'=(g1,Zu #[Zp gk] 72)::Hs/\Grow schemaL 104 fz' u k Hs ((d.actions.take k).map schA)) ⟨0,_,[],Z0 _,rfl,rfl,Zd,rfl,Grow.nil _ _ _⟩ Zw Zb ?_;rintro q σ fz' H' ⟨k,u,Hs,hk,rfl,rfl,hle,rfl,hG⟩;obtain ⟨Au,cu,rfl,_,_⟩:=hG.form;refine wC ?_ ?_<;>intro c1
 ·obtain ⟨x,hx⟩:=Yf (l:=d.actions) (k:=k) Zi;have hxm:=Zm hx;obtain ⟨w1,w2,w3,w4⟩:=hS.pa x hxm;refine wI (i5.mono hle) hx (fun p1 hp1=>?_);refine zL hp1 ?_;intro cs hcs;obtain ⟨u1,u2,u3,u4,u5,u6,rfl,hR⟩:=Xd hcs;obtain ⟨B1,m1,d1,rfl,ip⟩:=id hR.params;obtain ⟨⟨B2,m2,d2,rfl,_⟩,⟨B3,m3,d3,rfl,_⟩,⟨B4,m4,d4,rfl,_⟩,⟨B5,m5,d5,rfl,_⟩⟩:=id hR.pre.sls;obtain ⟨B6,m6,d6,rfl,ich⟩:=id hR.changes;have lch:=ich.len;refine zW ?_;intros
  ((refine zG ?_);refine Yh (vs:=[Zy x.pre.op,Zy x.pre.name,Zc B2 m2 d2,Zc B3 m3 d3,Zc B4 m4 d4,Zc B5 m5 d5]) 0 ?_);refine Yd (Yk [] (_::_::Hs) Zz (YeD hR.pre w1) (fun v7 fz7 H7 hle7 hR7=>?_));obtain ⟨rfl,hV7⟩:=hR7;obtain ⟨C1,s1,t1,C2,s2,t2,C3,s3,t3,C4,s4,t4,rfl,hF7⟩:=hV7.open;refine zWN ?_;intros;refine Y6 [_,_,_] ?_;refine zW ?_;refine pU ?_;refine Yg (Yk [] (_::_::_::Hs) Zz (Ygk (ich.mono hle7) Zi w4) (fun v8 fz8 H8 hle8 hR8=>⟨⟨hle8,Zx⟩,?_⟩));obtain ⟨rfl,D1,o1,q1,rfl,hC8⟩:=hR8;refine Ch.qk ⟨hle8,Zx⟩ (XH ?_);refine Yg (Yc (cs:=[Zy x.name,Zc B1 m1 d1,Zy (normV x.pre).op,Zy (normV x.pre).name,Zc C1 s1 t1,Zc C2 s2 t2,Zc C3 s3 t3,Zc C4 s4 t4,Zy (normV x.pre).op,Zy (normV x.pre).name,Zc C1 s1 t1,Zc C2 s2 t2,Zc C3 s3 t3,Zc C4 s4 t4,
   Ze,Ze,Zn,Zn,Zn,Zn,Ze,Ze,Zn,Zn,Zn,Zn,Zn,Zc D1 o1 q1,Zo true,Zn]) (fun gb=>⟨⟨hle8,Zx⟩,?_⟩))
  refine Yg (YG (Hr:=[_,_,_,_]) (d:=schA x) (Zr _) (hG.mono (hle7.trans hle8)) YhC (.head _) (YcS (x:=schA x) ⟨hR.name,ip.is.mono (hle7.trans hle8),hF7.mono hle8,hF7.mono hle8,Yk1,Yk1,IsSl.nil,hC8.is,trivial,IsSl.nil⟩) (fun v9 H9 hO9=>⟨⟨hle8,Zx⟩,?_⟩));obtain ⟨A9,c9,rfl,_,_⟩:=hO9.form;refine Ch.qk ⟨hle8,Zx⟩ (YR ?_);refine Ch.done ?_;exact wP (h:=by exact ⟨k+1,_,H9,by omega,rfl,rfl,hle.trans (hle7.trans hle8),rfl,hO9.of (by rw [List.take_add_one,hx];simp) rfl⟩)
 have hk2:n5=k:=by omega
 subst hk2;rw [Zl Zi] at hG;have hgA:=hle _ _ hg;refine zW ?_;refine Yn (fun q σ fz2 H'=>∃ (k:Nat) (u:Value) (Hs:HP),k<=n6/\q=n6 - k/\σ=[(47,Zk k),(46,Zk n6),(45,Zc A6 n6 b6),(4,u),(1,Zp g1)]/\Le fz' fz2/\H'=(g1,Zu #[Zp gk] 72)::Hs/\Grow schemaL 104 fz2 u (n5+k) Hs (d.actions.map schA++(d.duratives.take k).map schD)) ⟨0,_,Hs,Z0 _,rfl,rfl,Zd,rfl,hG.of (by simp) rfl⟩ Zw Zb ?_;rintro q σ fz2 H' ⟨k,u,Hs2,hk6,rfl,rfl,hle2,rfl,hG2⟩;obtain ⟨Au2,cu2,rfl,_,_⟩:=hG2.form;refine wC ?_ ?_<;>intro c2
 ·obtain ⟨x,hx⟩:=Yf (l:=d.duratives) (k:=k) Zi;have hxm:=Zm hx;obtain ⟨w1,w2,w3,w4,w5,w6,w7,w8⟩:=hS.pd x hxm;refine wI (i6.mono (hle.trans hle2)) hx (fun p1 hp1=>?_);refine zL hp1 ?_;intro cs hcs;obtain ⟨u0,u1,u2,u3,u4,u5,u6,u7,u8,u9,u10,u11,u12,u13,u14,rfl,hR⟩:=XJ hcs;obtain ⟨B0,m0,d0,rfl,ip⟩:=id hR.params;obtain ⟨⟨B1,m1,d1,rfl,_⟩,⟨B2,m2,d2,rfl,_⟩,⟨B3,m3,d3,rfl,_⟩,⟨B4,m4,d4,rfl,_⟩⟩:=id hR.start.sls;obtain ⟨⟨B5,m5,d5,rfl,_⟩,⟨B6,m6,d6,rfl,_⟩,⟨B7,m7,d7,rfl,_⟩,⟨B8,m8,d8,rfl,_⟩⟩:=id hR.over.sls;obtain ⟨⟨B9,m9,d9,rfl,_⟩,⟨B10,m10,d10,rfl,_⟩,⟨B11,m11,d11,rfl,_⟩,⟨B12,m12,d12,rfl,_⟩⟩:=id hR.fin.sls;obtain ⟨B13,m13,d13,rfl,ias⟩:=id hR.atStart;obtain ⟨B14,m14,d14,rfl,iae⟩:=id hR.atEnd;have las:=ias.len;have lae:=iae.len;refine zWN ?_;intros;refine Yay [] [_,_] ?_;refine wG ?_;refine Yh (vs:=[Zy x.start.op,Zy x.start.name,Zc B1 m1 d1,Zc B2 m2 d2,Zc B3 m3 d3,Zc B4 m4 d4]) 0 ?_;refine Yx (Yx ?_);refine wG ?_;refine Yh (vs:=[Zy x.over.op,Zy x.over.name,Zc B5 m5 d5,Zc B6 m6 d6,Zc B7 m7 d7,Zc B8 m8 d8]) 0 ?_;refine Yx (Yx ?_);refine wG ?_;refine Yh (vs:=[Zy x.fin.op,Zy x.fin.name,Zc B9 m9 d9,Zc B10 m10 d10,Zc B11 m11 d11,Zc B12 m12 d12]) 0 ?_;refine Yx (Yx ?_);refine wG ?_;refine Yh (vs:=[Zy x.start.op,Zy x.start.name,Zc B1 m1 d1,Zc B2 m2 d2,Zc B3 m3 d3,Zc B4 m4 d4]) 0 ?_;refine wG ?_;refine Yh (vs:=[Zy x.over.op,Zy x.over.name,Zc B5 m5 d5,Zc B6 m6 d6,Zc B7 m7 d7,Zc B8 m8 d8]) 0 ?_;refine wG ?_;refine Yh (vs:=[Zy x.fin.op,Zy x.fin.name,Zc B9 m9 d9,Zc B10 m10 d10,Zc B11 m11 d11,Zc B12 m12 d12]) 0 ?_;refine Yx (Yx ?_);refine zW ?_;refine Yx ?_;refine zW ?_;refine pT ?_;refine Po.dag [7,8,11,12,15,16,23,24,27,30] 30 40 (DurV x) Zz Zz Zj Zj Zj Zj DurV.mono ⟨Zd,Zx⟩ ?_ (fun dn cv τ1 fz3 hle3 h2 hv hτ=>?_)
  ·refine DagOps.step (fun cv fz4 hle4 h4 hd=>?_) ?_
   ·exact Does.cv (cv':=[]) trivial h4 (Does.post (Yc (cs:=[Zy x.start.op,Zy x.start.name,Zc B1 m1 d1,Zc B2 m2 d2,Zc B3 m3 d3,Zc B4 m4 d4]) (fun gb=>⟨_,[_],Zq (l₁:=[_]),fun fz5 hle5 hf5=>⟨rfl,hle5,.m7 (YpA (hf5 _ (.head _)) (YV (hR.start.mono (hle4.trans hle5))))⟩⟩)))
   refine DagOps.step (fun cv fz4 hle4 h4 hd=>?_) ?_
   ·obtain ⟨v7,e7,h7⟩:=hd 7 Zj Zj;obtain ⟨E7,r7,q7,rfl,hs7⟩:=h7.p7 rfl;exact Does.cv (cv':=[(7,_)]) ⟨e7,trivial⟩ h4 (Yk [] _ Zz (and_f hs7 (Ym5 _ (by simp;omega))) (fun v8 fz5 H5 hle5 hR5=>by
     obtain ⟨rfl,hV5⟩:=hR5;exact ⟨rfl,hle5,.m8 hV5⟩))
   refine DagOps.step (fun cv fz4 hle4 h4 hd=>?_) ?_
   ·exact Does.cv (cv':=[]) trivial h4 (Does.post (Yc (cs:=[Zy x.over.op,Zy x.over.name,Zc B5 m5 d5,Zc B6 m6 d6,Zc B7 m7 d7,Zc B8 m8 d8]) (fun gb=>⟨_,[_],Zq (l₁:=[_]),fun fz5 hle5 hf5=>⟨rfl,hle5,.m11 (YpA (hf5 _ (.head _)) (YV (hR.over.mono (hle4.trans hle5))))⟩⟩)))
   refine DagOps.step (fun cv fz4 hle4 h4 hd=>?_) ?_
   ·obtain ⟨v7,e7,h7⟩:=hd 11 Zj Zj;obtain ⟨E7,r7,q7,rfl,hs7⟩:=h7.p11 rfl;exact Does.cv (cv':=[(11,_)]) ⟨e7,trivial⟩ h4 (Yk [] _ Zz (and_f hs7 (Ym5 _ (by simp;omega))) (fun v8 fz5 H5 hle5 hR5=>by
     obtain ⟨rfl,hV5⟩:=hR5;exact ⟨rfl,hle5,.m12 hV5⟩))
   refine DagOps.step (fun cv fz4 hle4 h4 hd=>?_) ?_
   ·exact Does.cv (cv':=[]) trivial h4 (Does.post (Yc (cs:=[Zy x.fin.op,Zy x.fin.name,Zc B9 m9 d9,Zc B10 m10 d10,Zc B11 m11 d11,Zc B12 m12 d12]) (fun gb=>⟨_,[_],Zq (l₁:=[_]),fun fz5 hle5 hf5=>⟨rfl,hle5,.m15 (YpA (hf5 _ (.head _)) (YV (hR.fin.mono (hle4.trans hle5))))⟩⟩)))
   refine DagOps.step (fun cv fz4 hle4 h4 hd=>?_) ?_
   ·obtain ⟨v7,e7,h7⟩:=hd 15 Zj Zj;obtain ⟨E7,r7,q7,rfl,hs7⟩:=h7.p15 rfl;exact Does.cv (cv':=[(15,_)]) ⟨e7,trivial⟩ h4 (Yk [] _ Zz (and_f hs7 (Ym5 _ (by simp;omega))) (fun v8 fz5 H5 hle5 hR5=>by
     obtain ⟨rfl,hV5⟩:=hR5;exact ⟨rfl,hle5,.m16 hV5⟩))
   refine DagOps.step (fun cv fz4 hle4 h4 hd=>?_) ?_
   ·exact Does.cv (cv':=[]) trivial h4 (Does.post (Yc (cs:=[Zy x.start.op,Zy x.start.name,Zc B1 m1 d1,Zc B2 m2 d2,Zc B3 m3 d3,Zc B4 m4 d4,Zy x.over.op,Zy x.over.name,Zc B5 m5 d5,Zc B6 m6 d6,Zc B7 m7 d7,Zc B8 m8 d8,Zy x.fin.op,Zy x.fin.name,Zc B9 m9 d9,Zc B10 m10 d10,Zc B11 m11 d11,Zc B12 m12 d12]) (fun gb=>⟨_,[_],Zq (l₁:=[_]),fun fz5 hle5 hf5=>⟨rfl,hle5,.m23 (is_three (hf5 _ (.head _)) (YV (hR.start.mono (hle4.trans hle5))) (YV (hR.over.mono (hle4.trans hle5))) (YV (hR.fin.mono (hle4.trans hle5))))⟩⟩)))
   refine DagOps.step (fun cv fz4 hle4 h4 hd=>?_) ?_
   ·obtain ⟨v7,e7,h7⟩:=hd 23 Zj Zj;obtain ⟨E7,r7,q7,rfl,hs7⟩:=h7.p23 rfl;exact Does.cv (cv':=[(23,_)]) ⟨e7,trivial⟩ h4 (Yk [] _ Zz (and_f hs7 (Ym5 _ (by simp;omega))) (fun v8 fz5 H5 hle5 hR5=>by
     obtain ⟨rfl,hV5⟩:=hR5;exact ⟨rfl,hle5,.m24 hV5⟩))
   refine DagOps.step (fun cv fz4 hle4 h4 hd=>?_) ?_
   ·exact Does.cv (cv':=[]) trivial h4 (Yk [] _ Zz (Ygk (ias.mono hle4) Zi w7) (fun v8 fz5 H5 hle5 hR5=>by
     obtain ⟨rfl,hV5⟩:=hR5;exact ⟨rfl,hle5,.m27 hV5⟩))
   refine DagOps.step (fun cv fz4 hle4 h4 hd=>?_) ?_
   ·exact Does.cv (cv':=[]) trivial h4 (Yk [] _ Zz (Ygk (iae.mono hle4) Zi w8) (fun v8 fz5 H5 hle5 hR5=>by
     obtain ⟨rfl,hV5⟩:=hR5;exact ⟨rfl,hle5,.m30 hV5⟩))
   exact DagOps.nil rfl
  obtain ⟨v8,e8,h8⟩:=hv 8 Zj;obtain ⟨v12,e12,h12⟩:=hv 12 Zj;obtain ⟨v16,e16,h16⟩:=hv 16 Zj;obtain ⟨v24,e24,h24⟩:=hv 24 Zj;obtain ⟨v27,e27,h27⟩:=hv 27 Zj;obtain ⟨v30,e30,h30⟩:=hv 30 Zj;obtain ⟨C80,s80,t80,C81,s81,t81,C82,s82,t82,C83,s83,t83,rfl,hF8⟩:=(h8.p8 rfl).open;obtain ⟨C120,s120,t120,C121,s121,t121,C122,s122,t122,C123,s123,t123,rfl,hF12⟩:=(h12.p12 rfl).open;obtain ⟨C160,s160,t160,C161,s161,t161,C162,s162,t162,C163,s163,t163,rfl,hF16⟩:=(h16.p16 rfl).open;obtain ⟨C240,s240,t240,C241,s241,t241,C242,s242,t242,C243,s243,t243,rfl,hF24⟩:=(h24.p24 rfl).open;obtain ⟨C27,s27,t27,rfl,hC27⟩:=h27.p27 rfl;obtain ⟨C30,s30,t30,rfl,hC30⟩:=h30.p30 rfl;refine Po.cv [(8,_),(12,_),(16,_),(24,_),(27,_),(30,_)] ⟨e8,e12,e16,e24,e27,e30,trivial⟩ h2 Zj ?_;refine Yb ?_;refine PoS.qk ⟨hle3,Zx⟩ (XH ?_);refine Yb ?_;refine Ye (Yc (cs:=[Zy x.name,Zc B0 m0 d0,Zy (normV (andF [x.start])).op,Zy (normV (andF [x.start])).name,Zc C80 s80 t80,Zc C81 s81 t81,Zc C82 s82 t82,Zc C83 s83 t83,Zy (normV (andF [x.start,x.over,x.fin])).op,Zy (normV (andF [x.start,x.over,x.fin])).name,Zc C240 s240 t240,Zc C241 s241 t241,Zc C242 s242 t242,Zc C243 s243 t243,Zy (normV (andF [x.over])).op,Zy (normV (andF [x.over])).name,Zc C120 s120 t120,Zc C121 s121 t121,Zc C122 s122 t122,Zc C123 s123 t123,Zy (normV (andF [x.fin])).op,Zy (normV (andF [x.fin])).name,Zc C160 s160 t160,Zc C161 s161 t161,Zc C162 s162 t162,Zc C163 s163 t163,Zc C27 s27 t27,Zc C30 s30 t30,Zo false,Zn]) (fun gb=>⟨⟨hle3,Zx⟩,?_⟩));refine Yb ?_;refine Ye (YG (Hr:=[_,_,_]) (d:=schD x) (Zr _) (hG2.mono hle3) YhC (.head _) (YcS (x:=schD x) ⟨hR.name,ip.is.mono hle3,hF8,hF24,hF12,hF16,hC27.is,hC30.is,trivial,IsSl.nil⟩) (fun v9 H9 hO9=>⟨⟨hle3,Zx⟩,?_⟩));obtain ⟨A9,c9,rfl,_,_⟩:=hO9.form;refine Yb ?_;refine PoS.qk ⟨hle3,Zx⟩ (YR ?_);refine Po.done ?_;refine blkN ?_;refine Ydt ?_;refine Wp.weaken (σ':=[(4,Zc A9 (n5+k+1) c9),(47,Zk k),(46,Zk n6),(45,Zc A6 n6 b6),(1,Zp g1)]) ⟨rfl,(hτ 47 Zj).trans rfl,(hτ 46 Zj).trans rfl,(hτ 45 Zj).trans rfl,(hτ 1 Zj).trans rfl,trivial⟩ (List.Sublist.refl _) ?_;exact wP (h:=by exact ⟨k+1,_,H9,by omega,rfl,rfl,hle2.trans hle3,rfl,hO9.of (by rw [List.take_add_one,hx];simp) rfl⟩)
 have hk2:n6=k:=by omega
 subst hk2;rw [Zl (show d.duratives.length<=n6 by omega)] at hG2;change Grow schemaL _ fz2 _ _ _ (schB d) at hG2;have lB:(schB d).length=n5+n6:=hG2.len;generalize hN:n5+n6=N at hG2 lB;have hleA:=hle.trans hle2;refine zW ?_;refine Yn (fun q σ fz3 H'=>∃ (k:Nat) (Hs:HP),k<=N/\q=N - k/\σ=[(88,Zk k),(87,Zk N),(10,Zk ((YbU (((schB d).take k).map (YaF K)):Nat):Int)),(4,Zc Au2 N cu2),(1,Zp g1)]/\Le fz2 fz3/\H'=(g1,Zu #[Zp gk] 72)::Hs/\Grow schemaL 104 fz3 (Zc Au2 N cu2) N Hs (((schB d).take k).map (YaF K)++(schB d).drop k)) ⟨0,Hs2,Z0 _,rfl,rfl,Zd,rfl,hG2.of (by simp) rfl⟩ Zw Zb ?_;rintro q σ fz3 H' ⟨k,Hs3,hk3,rfl,rfl,hle3,rfl,hG3⟩;have hmb:=manyS_le K d k;refine wC ?_ ?_<;>intro c3
 ·obtain ⟨x,hx⟩:=Yf (l:=schB d) (k:=k) Zi;have hxk:(((schB d).take k).map (YaF K)++(schB d).drop k)[k]?=some x:=by
   rw [List.getElem?_append_right (by rw [List.length_map,List.length_take];omega),List.length_map,List.length_take,List.getElem?_drop,<- hx]
   congr 1;omega
  have hps:=Ymi hS (Zm hx);obtain ⟨gb,cap,cur,e8,rfl,hB⟩:=hG3.b Zi;injection e8 with e81 e82 e83
  subst e81;subst e83;obtain ⟨cs,hrx,hcx⟩:=YbH hB hxk;obtain ⟨u0,u1,u2,u3,u4,u5,u6,u7,u8,u9,u10,u11,u12,u13,u14,u15,u16,u17,u18,u19,rfl,hRx⟩:=Yae hrx;obtain ⟨P1,pn,pc,rfl,hPs⟩:=id hRx.params;have lps:=hPs.len;have hK3:=hK0.mono (hleA.trans hle3);refine zWN ?_;refine Y6 [_,_] ?_;refine wG ?_;refine Yo rfl ?_;refine wG ?_;refine Yw 1 ?_ (hv:=Ykw (o:=1) hcx rfl);refine pU ?_;refine Yg (Yk [] [_,_] Zz (comb_f (most:=4096) hK3 hPs Zi Zh) (fun v8 fz8 H8 hle8 hR8=>⟨⟨hle8,Zx⟩,?_⟩));obtain ⟨rfl,Bc,mc8,dc8,rfl,hSc⟩:=hR8;have lsc:=hSc.len;have hcl:(YcF K x.params 4096).length<=4097:=Yew K 4096 x.params [[]] (by simp);refine Ch.qk ⟨hle8,Zx⟩ (Yo rfl ?_);refine Ch.qk ⟨hle8,Zx⟩ (Xw ?_);have hB8:=YnI (o:=29) (d':=YaF K x) (v:=Zc Bc mc8 dc8) (hB.mono hle8) hxk hcx Zh (YcS (x:=YaF K x) (let h:=hRx.mono hle8;⟨h.name,h.params,h.start,h.all,h.over,h.fin,h.early,h.late,trivial,hSc.is⟩));have e5:(((schB d).take k).map (YaF K)++(schB d).drop k).set k (YaF K x)=((schB d).take (k+1)).map (YaF K)++(schB d).drop (k+1):=by
   rw [List.set_append_right _ _ (by rw [List.length_map,List.length_take];omega),List.length_map,List.length_take,show k - min k (schB d).length=0 by omega];obtain ⟨h1,h2⟩:=Zg hx;rw [List.drop_eq_getElem_cons h1,List.set_cons_zero,List.take_add_one,hx];simp
  rw [e5] at hB8;have hxk8:(((schB d).take (k+1)).map (YaF K)++(schB d).drop (k+1))[k]?=some (YaF K x):=by
   rw [<- e5,List.getElem?_set_self (by rw [List.length_append,List.length_map,List.length_take,List.length_drop];omega)]
  obtain ⟨cs8,hr8,hc8⟩:=YbH hB8 hxk8;have hl29:k*schemaL.size+29<cur.length:=by
   have h1:=hB.size;have h2:k*schemaL.size+schemaL.size<=cu2*schemaL.size:=by rw [<- Nat.succ_mul];exact Nat.mul_le_mul_right _ (by have:=hB.capn;omega)
   have h3:schemaL.size=30:=rfl;omega
  have hc29:cs8[29]?=some (Zc Bc mc8 dc8):=by
   rw [<- hc8,List.getElem?_take_of_lt Zh,List.getElem?_drop,List.getElem?_set_self hl29]
  have hms:YbU (((schB d).take (k+1)).map (YaF K))=YbU (((schB d).take k).map (YaF K))+mc8:=by
   unfold YbU;rw [List.take_add_one,hx,List.map_append,List.map_append,List.sum_append];show _+((YaF K x).arguments.length+0)=_;rw [show (YaF K x).arguments=YcF K x.params 4096 from rfl,lsc];rfl
  refine Ch.hard0 (YgF (pre:=[_]) (j:=k*schemaL.size+29) ?_ (hH:=rfl) (hs:=rfl) (hv:=rfl) (h1:=rfl) (hj:=hl29));refine Ch.done ?_;refine wG ?_;refine Yo rfl ?_;refine wG ?_;refine Yw 1 ?_ (hv:=Ykw (o:=29) (z:=schemaL.size) (j:=k) hc8 hc29);exact wP (h:=by exact ⟨k+1,_,by omega,rfl,by rw [hms],hle3.trans hle8,rfl,hB8.grow⟩)
 have hk4:N=k:=by omega
 subst hk4;rw [Zl (show (schB d).length<=N by omega)] at hG3 ⊢;rw [List.drop_eq_nil_of_le (show (schB d).length<=N by omega),List.append_nil] at hG3;change Grow schemaL _ fz3 _ _ _ (schL K d) at hG3;rw [show (schB d).map (YaF K)=schL K d from rfl];have hmz:YbU (schL K d)<=4097*(schB d).length:=YgB K (schB d);refine wC ?_ ?_<;>intro c4
 ·have hE:schE K d=5:=by rw [schE,if_pos Zi]
  exact wS (h:=by exact ⟨rfl,_,by rw [hE];rfl,fun h=>absurd h (by rw [hE];decide),fun _=>rfl⟩)
 have hno:¬4096<YbU (schL K d):=by omega
 first
 | refine Wp.freezeAll (H1:=[_]) (H2:=Hs3) (Zr _) (fun fz4 hle4 hf4=>?_)
 | refine Seq.freezeAll (H1:=[_]) (H2:=Hs3) (Zr _) (fun fz4 hle4 hf4=>?_)
 obtain ⟨A9,c9,e9,hSl⟩:=hG3.sl hle4 hf4 Zi;injection e9 with e91 e92 e93
 subst e91;subst e93;have lSl:=hSl.len;refine zW ?_;refine Yn (fun q σ fz5 H'=>∃ (k:Nat),k<=N/\q=N - k/\σ=[(116,Zk k),(115,Zk N),(114,Zc Au2 N cu2),(4,Zc Au2 N cu2),(1,Zp g1)]/\fz4=fz5/\H'=[(g1,Zu #[Zp gk] 72)]/\∀ i,i<k->∀ s,(schL K d)[i]?=some s->¬Yla K s) ⟨0,Z0 _,rfl,rfl,rfl,rfl,fun i hi=>absurd hi Zi⟩ Zw Zb ?_;rintro q σ fz5 H' ⟨k,hk5,rfl,rfl,rfl,rfl,hall⟩;have hK4:=hK0.mono (hleA.trans (hle3.trans hle4));refine wC ?_ ?_<;>intro c5
 ·obtain ⟨x,hx⟩:=Yf (l:=schL K d) (k:=k) Zi;have hxm:=Zm hx;refine wI hSl hx (fun p5 hp5=>?_);refine zL hp5 ?_;intro cs hcs;obtain ⟨u0,u1,u2,u3,u4,u5,u6,u7,u8,u9,u10,u11,u12,u13,u14,u15,u16,u17,u18,u19,rfl,hR⟩:=Yae hcs;obtain ⟨B0,m0,d0,rfl,_⟩:=id hR.params;obtain ⟨⟨B1,m1,d1,rfl,_⟩,⟨B2,m2,d2,rfl,_⟩,⟨B3,m3,d3,rfl,_⟩,⟨B4,m4,d4,rfl,_⟩⟩:=id hR.start.sls;obtain ⟨⟨B5,m5,d5,rfl,_⟩,⟨B6,m6,d6,rfl,_⟩,⟨B7,m7,d7,rfl,_⟩,⟨B8,m8,d8,rfl,_⟩⟩:=id hR.all.sls;obtain ⟨⟨B9,m9,d9,rfl,_⟩,⟨B10,m10,d10,rfl,_⟩,⟨B11,m11,d11,rfl,_⟩,⟨B12,m12,d12,rfl,_⟩⟩:=id hR.over.sls;obtain ⟨⟨B13,m13,d13,rfl,_⟩,⟨B14,m14,d14,rfl,_⟩,⟨B15,m15,d15,rfl,_⟩,⟨B16,m16,d16,rfl,_⟩⟩:=id hR.fin.sls;obtain ⟨B17,m17,d17,rfl,_⟩:=id hR.early;obtain ⟨B18,m18,d18,rfl,il⟩:=id hR.late;obtain ⟨B19,m19,d19,rfl,_⟩:=id hR.arguments;cases hcnt:x.count with
  | false=>
   refine zW ?_;intros;exact wM (h:=by exact YH hall hx (fun h=>by rw [Yla,hcnt] at h;exact absurd h.1 Zh))
  | true=>
   obtain ⟨hs1,hs2⟩:=schL_sh hS hxm hcnt;refine zW ?_;intros
   ((refine zG ?_);refine Yh (vs:=[Zy x.start.op,Zy x.start.name,Zc B1 m1 d1,Zc B2 m2 d2,Zc B3 m3 d3,Zc B4 m4 d4]) 0 ?_);refine zc (YoB hK4 hR.start hs1) ?_;refine zC ?_ ?_<;>intro c6
   ·have hb:Yla K x:=⟨hcnt,.inl Zi⟩;have hE:schE K d=5:=by rw [schE,if_neg hno,if_pos ⟨x,hxm,hb⟩]
    exact wS (h:=by exact ⟨rfl,_,by rw [hE];rfl,fun h=>absurd h (by rw [hE];decide),fun _=>rfl⟩)
   refine wG ?_;refine Y0 ?_;refine zG ?_;refine Ycu (fun fz' hle hf=>YaN (p:=fun y=>64<termsM K y.when_) (il.mono hle) (fun y hy cs hcs=>schm1_q (hK4.mono hle) hcs (hs2 y hy) (hf _ (.tail _ (.head _))))) (fun f1=>?_) (fun f1=>?_)
   ·have hb:Yla K x:=⟨hcnt,.inr (Zt f1)⟩;have hE:schE K d=5:=by rw [schE,if_neg hno,if_pos ⟨x,hxm,hb⟩]
    exact wS (h:=by exact ⟨rfl,_,by rw [hE];rfl,fun h=>absurd h (by rw [hE];decide),fun _=>rfl⟩)
   have hb:¬Yla K x:=fun h=>by
    rcases h.2 with h | h
    ·omega
    exact Zf f1 h
   exact wM (h:=by exact YH hall hx hb)
 have hA:∀ i s,(schL K d)[i]?=some s->¬Yla K s:=fun i s hi=>hall i (by have:=(Zg hi).1;omega) s hi
 have hE:schE K d=0:=by
  rw [schE,if_neg hno,if_neg];rintro ⟨s,hs,hb⟩;obtain ⟨i,hi⟩:=List.getElem?_of_mem hs;exact hA i s hi hb
 exact wS (h:=by exact ⟨rfl,_,by rw [hE];rfl,fun _=>hSl.is,fun h=>absurd hE h⟩)
end Go.Proofs.YtbdpaoikccabhaaGreatDoor
namespace Go.Lx
open Go.RowKit
def rowL:Lay (Nat × Nat) where
 size:=1
 rep:=fun _ x cs=>cs=[Zc (some ⟨x.1,0,none⟩) x.2 x.2]
 len:=fun h=>by subst h;rfl
 mono:=fun _ h=>h
section
variable {P:Program} {cx:Cx} {r:Operand->Option Value} {fz:FZ} {H:HP} {V:Value->Prop} {dst:Option Nat} {ty:TypeId} {pos:String} {af:Array Edge} {gd:Option (Nat × Bool)}
theorem Xh {t:TypeId} {x:Operand} {X:Ty} {p:Addr} {d:Nat × Nat} (h:At rowL fz p d) (hV:V (.slice (some ⟨d.1,0,none⟩) d.2 d.2)) (T:Tab P:=by exact T) (hT:T.inf t=some X:=by exact rfl) (hd:Wc X.desc=false:=by exact rfl) (hx:r x=some (.pointer (some p)):=by exact rfl):DoesQ P cx ⟨dst,.load t x,ty,pos,af,gd⟩ r fz H V:=by
 obtain ⟨v,h1,h2⟩:=h.cell rfl;injection h1 with h1
 subst h1;exact Ybm T hT hd hx h2 hV
end
theorem row_one:OneC rowL:=by
 intro fz d cs h u hu;subst h;simp at hu;subst hu;rfl
end Go.Lx
namespace Go.Proofs.YtbdpaoikccabhaaGreatDoor
variable {g i:Nat} {K:Kn}
def rowO (g:Nat) (b:List Bool):Nat × Obj:=(g,.cells (b.map Value.bool).toArray 4 (0,0))
def rowsO (gs:List Nat) (B:List (List Bool)):HP:=List.zipWith rowO gs B
theorem Ygj {gs:List Nat} {B:List (List Bool)} {b:List Bool} (hg:gs[i]?=some g) (hb:B[i]?=some b):(rowsO gs B)[i]?=some (rowO g b):=by
 unfold rowsO;rw [List.getElem?_zipWith,hg,hb]
theorem YoM {gs:List Nat} {B:List (List Bool)} (h:gs.length=B.length):(rowsO gs B).length=gs.length:=by
 unfold rowsO;rw [List.length_zipWith];omega
theorem YjN {gs:List Nat} {B:List (List Bool)} {b b':List Bool} (hl:gs.length=B.length) (hg:gs[i]?=some g) (hb:B[i]?=some b):
 ∃ pre post,rowsO gs B=pre++rowO g b::post/\rowsO gs (B.set i b')=pre++rowO g b'::post:=by
 obtain ⟨h1,h2⟩:=Zg hg;obtain ⟨h3,h4⟩:=Zg hb;have e1:gs=gs.take i++g::gs.drop (i+1):=by rw [<- h2,<- List.drop_eq_getElem_cons h1,List.take_append_drop]
 have e2:B=B.take i++b::B.drop (i+1):=by rw [<- h4,<- List.drop_eq_getElem_cons h3,List.take_append_drop]
 have e3:B.set i b'=B.take i++b'::B.drop (i+1):=by rw [List.set_eq_take_append_cons_drop,if_pos h3]
 have hz:∀ c,rowsO (gs.take i++g::gs.drop (i+1)) (B.take i++c::B.drop (i+1))=rowsO (gs.take i) (B.take i)++rowO g c::rowsO (gs.drop (i+1)) (B.drop (i+1)):=fun c=>by
  unfold rowsO;rw [List.zipWith_append (by rw [List.length_take,List.length_take];omega)];rfl
 refine ⟨rowsO (gs.take i) (B.take i),rowsO (gs.drop (i+1)) (B.drop (i+1)),?_,?_⟩
 ·rw [<- hz b,<- e1,<- e2]
 rw [e3,<- hz b',<- e1]
structure InsR where
 S:List Atom
 b:Bool
 d:Bool
 n:Bool
def envA (s:Schema) (a:List Bs):EnvM:=extE (fun _=>none) s.params a
def Xq (K:Kn) (s:Schema) (a:List Bs) (S:List Atom) (b d:Bool):InsR:=
 let E:=envA s a
 let b':=b || holdsM K S E s.start
 let d':=d || (b' && holdsM K S E s.all)
 let r1:=if b'=true then X8 K s.early E S else (S,false)
 let r2:=if d'=true then X8 K s.late E r1.1 else (r1.1,false)
 ⟨r2.1,b',d',r2.2 || (r1.2 || ((!d && d') || (!b && b')))⟩
structure RowS where
 S:List Atom
 bs:List Bool
 ds:List Bool
 n:Bool
def Ynh (K:Kn) (s:Schema) (st:RowS) (j:Nat) (a:List Bs):RowS:=
 let q:=Xq K s a st.S (st.bs[j]?.getD false) (st.ds[j]?.getD false)
 ⟨q.S,st.bs.set j q.b,st.ds.set j q.d,q.n || st.n⟩
def rowN (K:Kn) (s:Schema):Nat->RowS->RowS
 | 0,st=>st
 | k+1,st=>match s.arguments[k]? with
  | some a=>Ynh K s (rowN K s k st) k a
  | none=>rowN K s k st
structure RndS where
 S:List Atom
 B:List (List Bool)
 D:List (List Bool)
 n:Bool
def stepW (K:Kn) (w:RndS) (i:Nat) (s:Schema):RndS:=
 let r:=rowN K s s.arguments.length ⟨w.S,w.B[i]?.getD [],w.D[i]?.getD [],w.n⟩
 ⟨r.S,w.B.set i r.bs,w.D.set i r.ds,r.n⟩
def rndN (K:Kn) (l:List Schema):Nat->RndS->RndS
 | 0,w=>w
 | i+1,w=>match l[i]? with
  | some s=>stepW K (rndN K l i w) i s
  | none=>rndN K l i w
def Xu (K:Kn) (l:List Schema) (S:List Atom) (B D:List (List Bool)):RndS:=rndN K l l.length ⟨S,B,D,false⟩
theorem YfS (K:Kn) (s:Schema):∀ (k:Nat) (st:RowS),(rowN K s k st).bs.length=st.bs.length/\(rowN K s k st).ds.length=st.ds.length
 | 0,_=>⟨rfl,rfl⟩
 | k+1,st=>by
  have h:=YfS K s k st;rw [rowN];split
  ·exact ⟨by show ((rowN K s k st).bs.set _ _).length=_;rw [List.length_set];exact h.1,by show ((rowN K s k st).ds.set _ _).length=_;rw [List.length_set];exact h.2⟩
  exact h
theorem Yd1 {s:Schema} {k:Nat} {st:RowS} {a:List Bs} (h:s.arguments[k]?=some a):rowN K s (k+1) st=Ynh K s (rowN K s k st) k a:=by rw [rowN,h]
theorem Yd2 {l:List Schema} {w:RndS} {s:Schema} (h:l[i]?=some s):rndN K l (i+1) w=stepW K (rndN K l i w) i s:=by rw [rndN,h]
def FitR (l:List Schema) (B:List (List Bool)):Prop:=B.length=l.length/\∀ (i:Nat) (s:Schema) (b:List Bool),l[i]?=some s->B[i]?=some b->b.length=s.arguments.length
theorem FitR.set {l:List Schema} {B:List (List Bool)} (h:FitR l B) {b b':List Bool} (hb:B[i]?=some b) (hl:b'.length=b.length):FitR l (B.set i b'):=by
 refine ⟨by rw [List.length_set];exact h.1,fun j s c hs hc=>?_⟩;by_cases he:i=j
 ·subst he;have hlt:=(Zg hb).1;rw [List.getElem?_set_self hlt] at hc;injection hc with hc
  subst hc;rw [hl];exact h.2 i s b hs hb
 rw [List.getElem?_set_ne he] at hc;exact h.2 j s c hs hc
theorem Yd3 {K:Kn} {l:List Schema}:∀ (i:Nat) {w:RndS},FitR l w.B->FitR l w.D->FitR l (rndN K l i w).B/\FitR l (rndN K l i w).D
 | 0,_,h1,h2=>⟨h1,h2⟩
 | i+1,w,h1,h2=>by
  obtain ⟨k1,k2⟩:=Yd3 (K:=K) i h1 h2;rw [rndN];split
  ·rename_i s hs;have hlt:i<l.length:=(Zg hs).1;obtain ⟨b,hb⟩:=Yf (l:=(rndN K l i w).B) (k:=i) (by rw [k1.1];exact hlt);obtain ⟨d,hd⟩:=Yf (l:=(rndN K l i w).D) (k:=i) (by rw [k2.1];exact hlt);have hrl:=YfS K s s.arguments.length ⟨(rndN K l i w).S,((rndN K l i w).B[i]?).getD [],((rndN K l i w).D[i]?).getD [],(rndN K l i w).n⟩;exact ⟨k1.set hb (by rw [hrl.1,hb];rfl),k2.set hd (by rw [hrl.2,hd];rfl)⟩
  exact ⟨k1,k2⟩
end Go.Proofs.YtbdpaoikccabhaaGreatDoor
