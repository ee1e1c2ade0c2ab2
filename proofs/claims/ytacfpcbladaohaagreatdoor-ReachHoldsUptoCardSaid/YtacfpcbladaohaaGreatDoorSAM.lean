/- The texts UC, QM, UH, UI, PCE, PCP, PCS, PCT, laid together. Conditions: none. -/
import Derived.Test.YtacfpcbladaohaaGreatDoorSAL
set_option linter.all false
set_option maxHeartbeats 16000000
noncomputable section
set_option maxRecDepth 20000
namespace Go.Proofs.YtacfpcbladaohaaGreatDoor
open Go.Lx Go.RowKit
attribute [local instance 10] Classical.propDecidable
open Go.Proofs.Tryz (prog)
variable {α:Type} {M:Mn} {cs:List Value} {fz:FZ} {v va vb ve vk vp u1 u2 u3 u4 u5 u6 u7 v1 v2 v3 v4 v5 v6:Value} {A B:Option Addr} {c n k g:Nat} {E:EnvM} {K:Kn} {a:Atom} {W:Wd} {f:Formula} {b:Bool} {all vars:List Param} {d:Domain} {p:Problem} {m:List (Bs × Value)} {l:List α}
theorem Yoo {x:Param} {g2:Nat} {t2:TypeId} (hM:MnR fz v M) (h2:fz g2=some (.cells #[v] t2 (0,0))) (hcs:paramL.rep fz x cs):
 QFn prog 117 (.agg cs.toArray:: [Zp g2]) fz (Zo (decide (ofN M x.typ=[]))):=by
 obtain ⟨rfl,hRx⟩:=Yz hcs;have hM0:=hM;obtain ⟨⟨g,v1,v2,v3,v4,v5,v6,a7,a8,a9,a10,a11,a12,a13,a14,a15,a16,a17,vf,A,n,c,rfl,hg,hD,hF,hO⟩,hw,hm⟩:=hM;refine qF Tryz.func117 Tryz.ntmps117 (fun w0=>?_);refine pX (fun g9=>?_);refine zW ?_;refine Ya (Yh [] [_] Zz (Ynr (t:=x.typ) hM0) (fun v4 fz4 H4 hle4 hR4=>?_));obtain ⟨rfl,B,m,cc,rfl,hS⟩:=hR4;have lS:=hS.len;refine wC ?_ ?_<;>intro c1
 ·exact wR (h:=by exact Ym (List.eq_nil_of_length_eq_zero Zi))
 exact wR (h:=by exact Yg (fun h=>c1 (by rw [h] at lS;simp at lS;omega)))
theorem Yl3 {ps:List Param} (hM:MnR fz v M) (hps:Sl paramL fz A n c ps) (hn:n<=3):
 GFn prog 48 [v,Zc A n c] fz [] (fun r fz' H'=>H'=[]/\∃ B m d,r=Zc B m d/\Sl (slL strL) fz' B m d (tupM M ps)):=by
 have lp:=hps.len;have hM0:=hM;have hmany:=hM.many;obtain ⟨⟨g,v1,v2,v3,v4,v5,v6,a7,a8,a9,a10,a11,a12,a13,a14,a15,a16,a17,vf,Ao,no,co,rfl,hg,hD,hF,hO⟩,hw,hm⟩:=hM;refine zF Tryz.func48 Tryz.ntmps48 (fun w0=>?_);refine pX (fun g2=>?_)
 first | refine Wp.freeze Zz (fun fz0 hle0 hf0=>?_) | refine Seq.freeze Zz (fun fz0 hle0 hf0=>?_)
 refine wG ?_;refine YG ?_
 ((refine zG ?_);refine Xu (Wt (cap:=[Zp g2]) (p:=fun x=>ofN M x.typ=[]) (hps.mono hle0) (fun x _ cs hcs=>Yoo (hM0.mono hle0) hf0 hcs)) (fun f1=>?_) (fun f1=>?_))
 ·have f2:=Zt f1;refine zW ?_;exact Yb3 rfl rfl (fun fz3 hle3 _=>⟨rfl,none,0,0,rfl,by rw [tupM,if_pos f2];exact Sl.nil⟩)
 have f2:=Zf f1;refine zW ?_;refine Ya (Yb (cs:=[Zn]) (fun gb=>?_));refine Seq.freezeAll (H1:=[]) (H2:=[_]) (Zr _) (fun fz1 hle1 hf1=>?_);have hgb:Grow (slL strL) 31 fz0 (Zv gb 1 1) 1 [(gb,Zu #[Zn] 31)] [[]]:=
  Grow.block (ys:=[(([]:List Bs),[Value.slice none 0 0])]) rfl rfl (by intro p hp;simp at hp;subst hp;exact ⟨none,0,0,rfl,Sl.nil⟩) rfl
 obtain ⟨B1,d1,e1,hS1⟩:=hgb.sl hle1 hf1 Zh;injection e1 with e11 e12 e13
 subst e11;subst e13;have hg2:=hle1 _ _ hf0;have hle01:=hle0.trans hle1;refine zW ?_;refine Yi (fun q σ fz' H'=>∃ (k:Nat) (B:Option Addr) (m d:Nat),k<=n/\q=n - k/\σ=[(19,Zk k),(18,Zk n),(17,Zc A n c),(5,Zc B m d),(2,Zp g2)]/\Le fz1 fz'/\H'=[]/\Sl (slL strL) fz' B m d (tupF M (ps.take k))) ⟨0,_,_,_,Z0 _,rfl,rfl,Zd,rfl,hS1⟩ Zw Zb ?_;rintro q σ fz2 H' ⟨k,B,m,d,hk,rfl,rfl,hle2,rfl,hS⟩;have lm:=hS.len;have hml:=Yl4 hmany (ps:=ps.take k) (by rw [List.length_take];omega);have hg3:=hle2 _ _ hg2;refine wC ?_ ?_<;>intro c1
 ·obtain ⟨x,hx⟩:=Yc (l:=ps) (k:=k) Zi;refine wI (hps.mono (hle01.trans hle2)) hx (fun p1 hp1=>?_);refine zL hp1 ?_;intro cs hcs;obtain ⟨rfl,hRx⟩:=Yz hcs;refine zW ?_;intros;rename_i g9;refine Yi (fun q σ fz' H'=>∃ (j mm:Nat) (vn:Value) (Hn:HP),j<=m/\q=m - j/\mm<=j*6/\σ=[(25,Zk j),(24,Zk m),(23,Zc B m d),(19,Zk k),(18,Zk n),(17,Zc A n c),(8,vn),(7,Zp g9),(2,Zp g2)]/\Le fz2 fz'/\H'=(g9,Zu #[Zy x.name,Zy x.typ] 132)::Hn/\Grow (slL strL) 31 fz' vn mm Hn (((tupF M (ps.take k)).take j).flatMap fun l=>(ofN M x.typ).map fun o=>l++ [o]))
   ⟨0,0,_,[],Z0 _,rfl,Zs _,rfl,Zd,rfl,Grow.nil _ _ _⟩ Zw Zb ?_
  rintro q σ fz3 H' ⟨j,mm,vn,Hn,hj,rfl,hmm,rfl,hle3,rfl,hG⟩;obtain ⟨An,cn,rfl,_,_⟩:=hG.form;have hg4:=hle3 _ _ hg3;refine wC ?_ ?_<;>intro c2
  ·obtain ⟨y,hy⟩:=Yc (l:=tupF M (ps.take k)) (k:=j) Zi;have hyl:=Yf4 M (ps.take k) [[]] 0 (by simp) _ (Zm hy);refine wI (hS.mono hle3) hy (fun p2 hp2=>?_)
   ((refine zG ?_);refine XQ hp2 (fun Ay ny cy hy2=>?_));have ly:=hy2.len;have hny:ny<=3:=by rw [<- ly,hyl,List.length_take];omega
   refine zW ?_;refine Ya (Yh [] (_::Hn) Zz (Ynr (t:=x.typ) (hM0.mono (hle01.trans (hle2.trans hle3)))) (fun v4 fz4 H4 hle4 hR4=>?_));obtain ⟨rfl,Bo,mo,do_,rfl,hSo⟩:=hR4;have lo:=hSo.len;have hmo:mo<=6:=by rw [<- lo];exact Nat.le_trans (Ylo M x.typ) hmany
   refine zW ?_;refine Yi (fun q σ fz' H'=>∃ (i:Nat) (vn:Value) (Hn:HP),i<=mo/\q=mo - i/\σ=[(34,Zk i),(33,Zk mo),(32,Zc Bo mo do_),(25,Zk j),(24,Zk m),(23,Zc B m d),(19,Zk k),(18,Zk n),(17,Zc A n c),(10,Zc Ay ny cy),(8,vn),(7,Zp g9),(2,Zp g2)]/\Le fz4 fz'/\H'=(g9,Zu #[Zy x.name,Zy x.typ] 132)::Hn/\Grow (slL strL) 31 fz' vn (mm+i) Hn ((((tupF M (ps.take k)).take j).flatMap fun l=>(ofN M x.typ).map fun o=>l++ [o])++((ofN M x.typ).take i).map fun o=>y++ [o]))
    ⟨0,_,Hn,Z0 _,rfl,rfl,Zd,rfl,(hG.mono hle4).of (by simp) rfl⟩ Zw Zb ?_
   rintro q σ fz5 H' ⟨i,vn5,Hn5,hi,rfl,rfl,hle5,rfl,hG5⟩;obtain ⟨A5,c5,rfl,_,_⟩:=hG5.form;refine wC ?_ ?_<;>intro c3
   ·obtain ⟨o,ho⟩:=Yc (l:=ofN M x.typ) (k:=i) Zi;refine wI (hSo.mono hle5) ho (fun p3 hp3=>?_);refine zH hp3 (fun hso=>?_);refine zW ?_;refine Ya (Yh [] (_::Hn5) Zz (YbN (hy2.mono (hle4.trans hle5)) Zi) (fun v6 fz6 H6 hle6 hR6=>?_));obtain ⟨A6,c6,rfl,_,_⟩:=hR6.form;refine zW ?_;refine Ya (Yb (cs:=[Zy o]) (fun gc7=>?_));refine Ya (YD (Hr:=(gc7,_)::(g9,_)::Hn5) (d:=o) (by exact (List.Perm.cons _ (List.perm_append_comm.trans (Zr _)))) hR6 WP (.head _) ⟨rfl,hso⟩ (fun v8 H8 hO8=>?_));obtain ⟨A8,c8,rfl,_,_⟩:=hO8.form;refine Seq.freezeAll (H1:=(gc7,_)::(g9,_)::Hn5) (H2:=H8) (Zr _) (fun fz8 hle8 hf8=>?_);obtain ⟨B8,d8,e8,hS8⟩:=hO8.sl hle8 hf8 Zi;injection e8 with e81 e82 e83
    subst e81;subst e83;refine Ya (Yb (cs:=[Zc A8 (ny+1) c8]) (fun gc9=>?_));refine Ya (YD (Hr:=(gc9,_)::(gc7,_)::(g9,_):: []) (d:=y++ [o]) (Zr _) (hG5.mono (hle6.trans hle8)) sl_one (.head _) ⟨_,_,_,rfl,hS8⟩ (fun v10 H10 hO10=>?_));obtain ⟨A10,c10,rfl,_,_⟩:=hO10.form;exact wP (h:=by exact ⟨i+1,_,H10,by omega,rfl,rfl,hle5.trans (hle6.trans hle8),rfl,hO10.of (by rw [List.take_add_one,ho];simp) rfl⟩)
   have hi2:i=mo:=by omega
   subst hi2;rw [Zl (show (ofN M x.typ).length<=i by omega)] at hG5;refine zW ?_;exact Wr ⟨j+1,mm+i,_,Hn5,by omega,rfl,by omega,rfl,hle3.trans (hle4.trans hle5),rfl,hG5.of (by
    have e7:(tupF M (ps.take k)).take (j+1)=(tupF M (ps.take k)).take j++ [y]:=by rw [List.take_add_one,hy];rfl
    rw [e7,List.flatMap_append];simp) rfl⟩ Zi Zw Zb
  have hj2:j=m:=by omega
  subst hj2;rw [Zl (show (tupF M (ps.take k)).length<=j by omega)] at hG
  first
  | refine Wp.freezeAll (H1:=[]) (H2:=_::Hn) (Zr _) (fun fz9 hle9 hf9=>?_)
  | refine Seq.freezeAll (H1:=[]) (H2:=_::Hn) (Zr _) (fun fz9 hle9 hf9=>?_)
  obtain ⟨B9,d9,e9,hS9⟩:=hG.sl hle9 (fun p hp=>hf9 p (by simp [hp])) Zi;injection e9 with e91 e92 e93
  subst e91;subst e93;exact wP (h:=by exact ⟨k+1,_,_,_,by omega,rfl,rfl,hle2.trans (hle3.trans hle9),rfl,by rw [tupF,List.take_add_one,hx,List.foldl_append];exact hS9⟩)
 have hk2:k=n:=by omega
 subst hk2;rw [Zl (show ps.length<=k by omega)] at hS;refine zW ?_;exact Yb3 rfl rfl (fun fz3 hle3 _=>⟨rfl,B,m,d,rfl,by rw [tupM,if_neg f2];exact hS.mono hle3⟩)
def EnvP (E:EnvM):Prop:=∀ x y,E x=some y->PlnS y
def quantV (K:Kn) (al:Bool) (hb:EnvM->Bool):List Param->EnvM->Bool
 | [],E=>hb E
 | p::ps,E=>if al=true then (ofK K p.typ).all fun o=>quantV K al hb ps (setE E p.name o) else (ofK K p.typ).any fun o=>quantV K al hb ps (setE E p.name o)
theorem Yng {al:Bool} {hb:EnvM->Bool} {p:Param} {ps:List Param} {o:Bs} (ho:o∈ofK K p.typ) (h:quantV K al hb ps (setE E p.name o)≠al):quantV K al hb (p::ps) E=!al:=by
 rw [quantV];cases al with
 | true=>
  rw [if_pos rfl];have:quantV K true hb ps (setE E p.name o)=false:=by simpa using h
  exact List.all_eq_false.2 ⟨o,ho,by rw [this];decide⟩
 | false=>
  rw [if_neg Zh];have:quantV K false hb ps (setE E p.name o)=true:=by simpa using h
  exact List.any_eq_true.2 ⟨o,ho,this⟩
theorem Ynh {al:Bool} {hb:EnvM->Bool} {p:Param} {ps:List Param} (h:∀ o∈ofK K p.typ,quantV K al hb ps (setE E p.name o)=al):quantV K al hb (p::ps) E=al:=by
 rw [quantV];cases al with
 | true=>
  rw [if_pos rfl];exact List.all_eq_true.2 h
 | false=>
  rw [if_neg Zh];exact List.any_eq_false.2 (fun o ho=>by rw [h o ho];decide)
theorem EnvP.set (h:EnvP E) {x a:Bs} (ha:PlnS a):EnvP (setE E x a):=by
 intro y z hz;unfold setE at hz;split at hz
 ·injection hz with hz;subst hz;exact ha
 exact h y z hz
theorem Ylp {t o:Bs} (h:o∈ofK K t):∃ p∈K.os,p.name=o:=by
 unfold ofK ofT at h;obtain ⟨p,hp,e⟩:=List.mem_map.1 h;exact ⟨p,(List.mem_filter.1 hp).1,e⟩
theorem Ymh:∀ (ps:List Param) {fz:FZ} {v:Value} {K:Kn} {gs:Nat} {f g:Formula} {rest:List Formula} {va vp ve vk vat:Value} {E:EnvM} {hb:EnvM->Bool} {A:Option Addr} {n c:Nat},
 KnR fz v K->(∀ o∈K.os,PlnS o.name)->FormulaR fz f va vp ve vk->f.kids=g::rest->Sl paramL fz A n c ps->n<=2000000->EnvR fz vat E->EnvP E->
 (∀ {fz':FZ} {E':EnvM} {vat' wa wp we wk:Value},Le fz fz'->EnvR fz' vat' E'->EnvP E'->FormulaR fz' g wa wp we wk->QFn prog 28 [v,.map (some gs),.agg #[Zy g.op,Zy g.name,wa,wp,we,wk],vat'] fz' (Zo (hb E')))->
 QFn prog 63 [v,.map (some gs),.agg #[Zy f.op,Zy f.name,va,vp,ve,vk],Zc A n c,vat] fz (Zo (quantV K (decide (f.op=kForall)) hb ps E))
 | ps,fz,v,K,gs,f,g,rest,va,vp,ve,vk,vat,E,hb,A,n,c,hK,hOs,hR,hk,hps,hn,hE,hP,ih=>by
  have hR0:=hR;obtain ⟨⟨B1,m1,d1,rfl,ia⟩,⟨B2,m2,d2,rfl,ip⟩,⟨B3,m3,d3,rfl,ie⟩,⟨B4,m4,d4,rfl,ik⟩⟩:=hR.sls;have l4:=ik.len;have lp:=hps.len;have hg0:f.kids[0]?=some g:=by rw [hk];rfl
  have hm4:0<m4:=by rw [<- l4,hk];simp
  have hK0:=hK;obtain ⟨⟨gk,a0,a1,a2,a3,a4,a5,a6,a7,a8,a9,a10,a11,a12,a13,a14,a15,a16,a17,vf,Ao,no,co,gc,gi,mc,mi,rfl,hg,hF,hO,h5,h6,h7,h8⟩,hw,hmany⟩:=hK;have hE0:=hE;obtain ⟨ge,rfl⟩:=hE.form;refine qF Tryz.func63 Tryz.ntmps63 (fun w0=>?_);refine pX (fun g7=>?_);cases ps with
  | nil=>
   have:n=0:=by rw [<- lp];rfl
   subst this;refine wC ?_ ?_<;>intro c1
   ·refine wI ik hg0 (fun p1 hp1=>?_);refine zL hp1 ?_;intro cs hcs;obtain ⟨wa,wp,we,wk,rfl,hRg⟩:=Yn hcs;obtain ⟨⟨E1,r1,q1,rfl,_⟩,⟨E2,r2,q2,rfl,_⟩,⟨E3,r3,q3,rfl,_⟩,⟨E4,r4,q4,rfl,_⟩⟩:=id hRg.sls;refine wG ?_;refine Yu (ih Zd hE0 hP hRg) ?_;exact wR (h:=rfl)
   exact absurd rfl c1
  | cons p ps=>
   have hn1:n=ps.length+1:=by rw [<- lp];rfl
   subst hn1;have hp0:(p::ps)[0]?=some p:=rfl;refine wC ?_ ?_<;>intro c1
   ·exact absurd c1 Zi
   have hcap:=hps.cap;have hN:fz=fz:=rfl;clear hN;refine zWX ?_;refine Yy (YV (fun σ fz' H'=>σ=[(11,Zo (decide (f.op=kForall))),(7,Zp g7),(4,.map ge),(3,Zc A (ps.length+1) c),(1,.map (some gs)),(0,Zp gk)]/\fz=fz'/\H'=[(g7,Zu #[Zy f.op,Zy f.name,Zc B1 m1 d1,Zc B2 m2 d2,Zc B3 m3 d3,Zc B4 m4 d4] 35)]) ?_ ?_)
   ·by_cases wf:f.op=kForall
    ·rw [decide_eq_true wf];exact wN (h:=by exact ⟨rfl,rfl,rfl⟩)
    rw [decide_eq_false wf];exact wN (h:=by exact ⟨rfl,rfl,rfl⟩)
   rintro σ fz1 H' ⟨rfl,rfl,rfl⟩;generalize hal:decide (f.op=kForall)=al;refine wI hps hp0 (fun p1 hp1=>?_);refine wH hp1.Param_typ (fun hst=>?_);refine zW ?_;refine Ya (Yh [] [_] Zz (kof_f (t:=p.typ) hK0) (fun v4 fz4 H4 hle4 hR4=>?_));obtain ⟨rfl,Bo,mo,do_,rfl,hSo⟩:=hR4;have lo:=hSo.len;have so:=hSo.short;refine zW ?_;refine Yi (fun q σ fz' H'=>∃ k:Nat,k<=mo/\q=mo - k/\σ=[(35,Zk k),(34,Zk mo),(33,Zc Bo mo do_),(11,Zo al),(7,Zp g7),(4,.map ge),(3,Zc A (ps.length+1) c),(1,.map (some gs)),(0,Zp gk)]/\Le fz4 fz'/\H'=[(g7,Zu #[Zy f.op,Zy f.name,Zc B1 m1 d1,Zc B2 m2 d2,Zc B3 m3 d3,Zc B4 m4 d4] 35)]/\∀ i,i<k->∀ o,(ofK K p.typ)[i]?=some o->quantV K al hb ps (setE E p.name o)=al) ⟨0,Z0 _,rfl,rfl,Zd,rfl,fun i hi=>absurd hi Zi⟩ Zw Zb ?_;rintro q σ fz5 H' ⟨k,hk5,rfl,rfl,hle5,rfl,hall⟩;refine wC ?_ ?_<;>intro c2
   ·obtain ⟨o,ho⟩:=Yc (l:=ofK K p.typ) (k:=k) Zi;have hom:=Zm ho;obtain ⟨po,hpo,epo⟩:=Ylp hom;have hoP:PlnS o:=epo ▸ hOs po hpo;have hle45:=hle4.trans hle5;refine wI (hSo.mono hle5) ho (fun p2 hp2=>?_);refine zH hp2 (fun hso=>?_);refine zWN ?_;refine YS [_] ?_;refine wG ?_;refine Yfh (j:=1) (hps.mono hle45) (fun A' hS'=>?_);refine wG ?_;refine Ylk (j:=1) ?_;refine zW ?_;refine Yj ?_;refine zW ?_;refine Yj (Yj ?_);refine zW ?_;refine pU ?_;refine Yf (Yb (cs:=[Zy o]) (fun gb=>⟨⟨Zd,Zx⟩,?_⟩));refine Yf (Does.freeze (H1:=[_]) (H2:=[_]) (Zq (l₁:=[_])) (fun fz6 hle6 hf6=>?_));have hgb:Grow strL 9 fz5 (Zv gb 1 1) 1 [(gb,Zu #[Zy o] 9)] [o]:=
     Grow.block (ys:=[(o,[Value.string o])]) rfl rfl (by intro q hq;simp at hq;subst hq;exact ⟨rfl,hso⟩) rfl
    obtain ⟨B7,d7,e7,hS7⟩:=hgb.sl hle6 hf6 Zh;injection e7 with e71 e72 e73
    subst e71;subst e73;have hcut:=Yqc (hps.mono (hle45.trans hle6)) (k:=1) Zi;refine Yh [] [_] Zz (env_f hcut hS7 (Zs _) (hE0.mono (hle45.trans hle6))) (fun v7 fz7 H7 hle7 hR7=>⟨⟨hle6.trans hle7,Zx⟩,?_⟩);obtain ⟨rfl,hE7⟩:=hR7;have hE8:EnvR fz7 v7 (setE E p.name o):=hE7;have hx7:=hle45.trans (hle6.trans hle7);refine Ch.qk ⟨hle6.trans hle7,Zx⟩ (Yu (Ymh ps (hK0.mono hx7) hOs (hR0.mono hx7) hk (hS'.mono (hle6.trans hle7)) Zi hE8 (hP.set hoP) (fun hl hE9 hP9 hR9=>ih (hx7.trans hl) hE9 hP9 hR9)) ?_);rw [hal];refine Ch.qk ⟨hle6.trans hle7,Zx⟩ (Yli T Zz Zz Zz Zz (fun h8=>?_) (fun h8=>?_))
    ·refine Ch.done ?_;exact wR (h:=by rw [Yng hom h8])
    refine Ch.done ?_;exact wP (h:=by exact ⟨k+1,by omega,rfl,rfl,hle5.trans (hle6.trans hle7),rfl,Yx hall ho (by simpa using h8)⟩)
   have hA:=YQ hall Zi;exact wR (h:=by rw [Ynh hA])
theorem is1_q {b:Atom} {g3:Nat} {t3:TypeId} (ha:AtomR fz a va) (h3:fz g3=some (.cells #[Zy a.name,va] t3 (0,0))) (hcs:atomL.rep fz b cs):
 QFn prog 121 (.agg cs.toArray:: [Zp g3]) fz (Zo (decide (a=b))):=by
 obtain ⟨vb,rfl,hb⟩:=Xp hcs;have ha0:=ha;have hb0:=hb;obtain ⟨A,n,c,rfl,ia⟩:=ha.args;obtain ⟨B,m,d,rfl,ib⟩:=hb.args;refine qF Tryz.func121 Tryz.ntmps121 (fun w0=>?_);refine pX (fun g9=>?_);refine wc (Ybi ha0 hb0) ?_;exact wR (h:=rfl)
theorem wis_q (hW:WdR fz W v) (ha:AtomR fz a va):
 QFn prog 51 [v,.agg #[Zy a.name,va]] fz (Zo (decide (a∈W.atoms))):=by
 obtain ⟨A1,n1,b1,A2,n2,b2,rfl,hA,_⟩:=hW;have ha0:=ha;obtain ⟨A,n,c,rfl,ia⟩:=ha.args;refine qF Tryz.func51 Tryz.ntmps51 (fun w0=>?_);refine pX (fun g2=>?_);refine pY (fun g3=>?_)
 first | refine Wp.freeze Zz (fun fz0 hle0 hf0=>?_) | refine Seq.freeze Zz (fun fz0 hle0 hf0=>?_)
 refine wG ?_;refine YG ?_
 ((refine zG ?_);refine Xu (Yg3 (cap:=[Zp g3]) (p:=fun b=>a=b) (hA.mono hle0) (fun b _ cs hcs=>is1_q (ha0.mono hle0) hf0 hcs)) (fun f1=>?_) (fun f1=>?_))
 ·obtain ⟨b,hb,e⟩:=Zt f1;exact wR (h:=by exact Ym (e ▸ hb))
 exact wR (h:=by exact Yg (fun h=>Zf f1 ⟨a,h,rfl⟩))
def quantW (M:Mn) (al:Bool) (hb:List Bs->List Bs->Bool):List Param->List Bs->List Bs->Bool
 | [],ns,bs=>hb ns bs
 | p::ps,ns,bs=>if al=true then (ofN M p.typ).all fun o=>quantW M al hb ps (p.name::ns) (o::bs) else (ofN M p.typ).any fun o=>quantW M al hb ps (p.name::ns) (o::bs)
theorem YhL {al:Bool} {hb:List Bs->List Bs->Bool} {p:Param} {ps:List Param} {ns bs:List Bs} {o:Bs} (ho:o∈ofN M p.typ) (h:quantW M al hb ps (p.name::ns) (o::bs)≠al):quantW M al hb (p::ps) ns bs=!al:=by
 rw [quantW];cases al with
 | true=>
  rw [if_pos rfl];have:quantW M true hb ps (p.name::ns) (o::bs)=false:=by simpa using h
  exact List.all_eq_false.2 ⟨o,ho,by rw [this];decide⟩
 | false=>
  rw [if_neg Zh];have:quantW M false hb ps (p.name::ns) (o::bs)=true:=by simpa using h
  exact List.any_eq_true.2 ⟨o,ho,this⟩
theorem YhM {al:Bool} {hb:List Bs->List Bs->Bool} {p:Param} {ps:List Param} {ns bs:List Bs} (h:∀ o∈ofN M p.typ,quantW M al hb ps (p.name::ns) (o::bs)=al):quantW M al hb (p::ps) ns bs=al:=by
 rw [quantW];cases al with
 | true=>
  rw [if_pos rfl];exact List.all_eq_true.2 h
 | false=>
  rw [if_neg Zh];exact List.any_eq_false.2 (fun o ho=>by rw [h o ho];decide)
theorem consS {a:Bs} {gb:Nat} (ha:Short a):Grow strL 9 fz (Zv gb 1 1) 1 [(gb,Zu #[Zy a] 9)] [a]:=
 Grow.block (ys:=[(a,[Value.string a])]) rfl rfl (by intro q hq;simp at hq;subst hq;exact ⟨rfl,ha⟩) rfl
theorem Ymi:∀ (j:Nat) {k:Nat} {fz:FZ} {M:Mn} {W:Wd} {v vw va vp ve vk:Value} {f g:Formula} {rest:List Formula} {hb:List Bs->List Bs->Bool} {B C:Option Addr} {m d q c:Nat} {ns bs:List Bs},
 MnR fz v M->WdR fz W vw->FormulaR fz f va vp ve vk->(f.op=kForall\/f.op=kExists)->f.kids=g::rest->k+j=f.params.length->Sl strL fz B m d ns->Sl strL fz C q c bs->ns.length<=bs.length->m+j<=1000000000->q+j<=1000000000->
 (∀ {fz':FZ} {ns' bs':List Bs} {B' C':Option Addr} {m' d' q' c':Nat} {wa wp we wk:Value},Le fz fz'->Sl strL fz' B' m' d' ns'->Sl strL fz' C' q' c' bs'->ns'.length<=bs'.length->m'<=m+j->q'<=q+j->FormulaR fz' g wa wp we wk->
  QFn prog 32 [v,vw,.agg #[Zy g.op,Zy g.name,wa,wp,we,wk],Zc B' m' d',Zc C' q' c'] fz' (Zo (hb ns' bs')))->
 QFn prog 80 [v,vw,.agg #[Zy f.op,Zy f.name,va,vp,ve,vk],Zk k,Zc B m d,Zc C q c] fz (Zo (quantW M (decide (f.op=kForall)) hb (f.params.drop k) ns bs))
 | j,k,fz,M,W,v,vw,va,vp,ve,vk,f,g,rest,hb,B,C,m,d,q,c,ns,bs,hM,hW,hR,hQ,hk,hj,hN,hB,hl,hm,hq,ih=>by
  have hR0:=hR;have hM0:=hM;have hW0:=hW;obtain ⟨⟨B1,m1,d1,rfl,ia⟩,⟨B2,m2,d2,rfl,ip⟩,⟨B3,m3,d3,rfl,ie⟩,⟨B4,m4,d4,rfl,ik⟩⟩:=hR.sls;obtain ⟨A5,n5,b5,A6,n6,b6,rfl,_,_⟩:=hW;obtain ⟨⟨gm,v1,v2,v3,v4,v5,v6,a7,a8,a9,a10,a11,a12,a13,a14,a15,a16,a17,vf,Ao,no,co,rfl,hg,hD,hF,hO⟩,hw,hmany⟩:=hM;have l2:=ip.len;have s2:=ip.short;have l4:=ik.len;have lN:=hN.len;have lB:=hB.len;have hg0:f.kids[0]?=some g:=by rw [hk];rfl
  have hm4:0<m4:=by rw [<- l4,hk];simp
  refine qF Tryz.func80 Tryz.ntmps80 (fun w0=>?_);refine pX (fun g7=>?_);refine pY (fun g8=>?_);refine wC ?_ ?_<;>intro c1
  ·have hj0:j=0:=by omega
   subst hj0;rw [List.drop_eq_nil_of_le Zi,quantW];refine wI ik hg0 (fun p1 hp1=>?_);refine zL hp1 ?_;intro cs hcs;obtain ⟨wa,wp,we,wk,rfl,hRg⟩:=Yn hcs;obtain ⟨⟨E1,r1,q1,rfl,_⟩,⟨E2,r2,q2,rfl,_⟩,⟨E3,r3,q3,rfl,_⟩,⟨E4,r4,q4,rfl,_⟩⟩:=id hRg.sls;refine wG ?_;refine Yu (ih Zd hN hB hl Zi Zi hRg) ?_;exact wR (h:=rfl)
  obtain ⟨j,rfl⟩:∃ j',j=j'+1:=⟨j - 1,by omega⟩;obtain ⟨p,hp⟩:=Yc (l:=f.params) (k:=k) Zi;have hdrop:f.params.drop k=p::f.params.drop (k+1):=by
   have hkl:=(Zg hp).1;rw [List.drop_eq_getElem_cons hkl]
   congr 1
   exact (Zg hp).2
  rw [hdrop];obtain ⟨al,hal,hnx⟩:∃ al,decide (f.op=kForall)=al/\decide (f.op=kExists)=!al:=by
   rcases hQ with h | h
   ·exact ⟨true,decide_eq_true h,decide_eq_false (by rw [h];decide)⟩
   exact ⟨false,decide_eq_false (by rw [h];decide),decide_eq_true h⟩
  rw [hal];refine wI ip hp (fun p1 hp1=>?_);refine wH hp1.Param_typ (fun hst=>?_);refine zW ?_;refine Ya (Yh [] [_,_] Zz (Ynr (t:=p.typ) hM0) (fun v4 fz4 H4 hle4 hR4=>?_));obtain ⟨rfl,Bo,mo,do_,rfl,hSo⟩:=hR4;have lo:=hSo.len;have so:=hSo.short;refine zW ?_;refine Yi (fun q' σ fz' H'=>∃ i:Nat,i<=mo/\q'=mo - i/\σ=[(40,Zk i),(39,Zk mo),(38,Zc Bo mo do_),(8,Zp g8),(7,Zp g7),(5,Zc C q c),(4,Zc B m d),(3,Zk k),(0,Zp gm)]/\Le fz4 fz'/\H'=[(g8,Zu #[Zy f.op,Zy f.name,Zc B1 m1 d1,Zc B2 m2 d2,Zc B3 m3 d3,Zc B4 m4 d4] 35),(g7,Zu #[Zc A5 n5 b5,Zc A6 n6 b6] 56)]/\∀ i',i'<i->∀ o,(ofN M p.typ)[i']?=some o->quantW M al hb (f.params.drop (k+1)) (p.name::ns) (o::bs)=al) ⟨0,Z0 _,rfl,rfl,Zd,rfl,fun i hi=>absurd hi Zi⟩ Zw Zb ?_;rintro q' σ fz5 H' ⟨i,hi5,rfl,rfl,hle5,rfl,hall⟩;have hle45:=hle4.trans hle5;refine wC ?_ ?_<;>intro c2
  ·obtain ⟨o,ho⟩:=Yc (l:=ofN M p.typ) (k:=i) Zi;refine wI (hSo.mono hle5) ho (fun p2 hp2=>?_);refine zH hp2 (fun hso=>?_);refine wI (ip.mono hle45) hp (fun p3 hp3=>?_);refine wH hp3.Param_name (fun hsn=>?_);refine zW ?_;refine Ya (Yb (cs:=[Zy p.name]) (fun gb=>?_));refine zW ?_;refine Ya (XF T (Hr:=[_,_]) (n:=1) (l:=[p.name]) Zz Zz Zz Zz Zz Zz Zz Zz (List.perm_append_singleton _ _).symm (consS hsn) WP (hN.mono hle45) (by show _*16<=_;omega) Zi (fun v6 H6 hO6=>?_));obtain ⟨A6',c6',rfl,_,_⟩:=hO6.form;refine Seq.freezeAll (H1:=[_,_]) (H2:=H6) (Zr _) (fun fz6 hle6 hf6=>?_);obtain ⟨B7,d7,e7,hS7⟩:=hO6.sl hle6 hf6 Zi;injection e7 with e71 e72 e73
   subst e71;subst e73;refine zW ?_;refine Ya (Yb (cs:=[Zy o]) (fun gc=>?_));refine zW ?_;refine Ya (XF T (Hr:=[_,_]) (n:=1) (l:=[o]) Zz Zz Zz Zz Zz Zz Zz Zz (List.perm_append_singleton _ _).symm (consS hso) WP (hB.mono (hle45.trans hle6)) (by show _*16<=_;omega) Zi (fun v8 H8 hO8=>?_));obtain ⟨A8',c8',rfl,_,_⟩:=hO8.form;refine Seq.freezeAll (H1:=[_,_]) (H2:=H8) (Zr _) (fun fz8 hle8 hf8=>?_);obtain ⟨B9,d9,e9,hS9⟩:=hO8.sl hle8 hf8 Zi;injection e9 with e91 e92 e93
   subst e91;subst e93;have hle48:=hle45.trans (hle6.trans hle8);refine wG ?_;refine Yu (Ymi j (k:=k+1) (hb:=hb) (hM0.mono hle48) (hW0.mono hle48) (hR0.mono hle48) hQ hk Zi (hS7.mono hle8) hS9 (by simp;omega) Zi Zi (fun hl' h1 h2 h3 h4 h5 h6=>ih (hle48.trans hl') h1 h2 h3 Zi Zi h6)) ?_;rw [hal];have hom:=Zm ho;rcases hQ with hf | he
   ·obtain rfl:al=true:=by rw [<- hal];exact decide_eq_true hf
    have hne:¬f.op=kExists:=by rw [hf];decide
    refine wG ?_;refine Ygi (fun h8=>?_) (fun h8=>?_)
    ·exact wR (h:=by rw [YhL hom (fun h9:quantW M true hb (f.params.drop (k+1)) (p.name::ns) (o::bs)=true=>absurd (h8.symm.trans h9) Zh)];rfl)
    exact wP (h:=by exact ⟨i+1,by omega,rfl,rfl,hle5.trans (hle6.trans hle8),rfl,Yx hall ho (by simpa using h8)⟩)
   obtain rfl:al=false:=by rw [<- hal];exact decide_eq_false (by rw [he];decide)
   refine wG ?_;refine Ygi (fun h8=>?_) (fun h8=>?_)
   ·exact wR (h:=by rw [YhL hom (fun h9:quantW M false hb (f.params.drop (k+1)) (p.name::ns) (o::bs)=false=>absurd (h8.symm.trans h9) Zh)];rfl)
   exact wP (h:=by exact ⟨i+1,by omega,rfl,rfl,hle5.trans (hle6.trans hle8),rfl,Yx hall ho (by simpa using h8)⟩)
  have hA:=YQ hall Zi;rcases hQ with hf | he
  ·obtain rfl:al=true:=by rw [<- hal];exact decide_eq_true hf
   exact wR (h:=by rw [YhM hA])
  obtain rfl:al=false:=by rw [<- hal];exact decide_eq_false (by rw [he];decide)
  have hne:¬f.op=kForall:=by rw [he];decide
  exact wR (h:=by rw [YhM hA])
mutual
def holdsW (M:Mn) (W:Wd):List Bs->List Bs->Formula->Bool
 | ns,bs,.mk op name args params exprs kids=>
  if op=kAtom then decide ((⟨name,args.map (valN ns bs)⟩:Atom)∈W.atoms)
  else if op=kSame then decide (valN ns bs ((args[0]?).getD ⟨#[]⟩)=valN ns bs ((args[1]?).getD ⟨#[]⟩))
  else if op=kNot then !headW M W ns bs kids
  else if op=kAnd then allWH M W ns bs kids
  else if op=kOr then anyWH M W ns bs kids
  else if QuF op then quantW M (decide (op=kForall)) (fun ns' bs'=>headW M W ns' bs' kids) params ns bs
  else cmpW W op (exprs.map (bE ns bs))
def allWH (M:Mn) (W:Wd):List Bs->List Bs->List Formula->Bool
 | _,_,[]=>true
 | ns,bs,g::r=>holdsW M W ns bs g && allWH M W ns bs r
def anyWH (M:Mn) (W:Wd):List Bs->List Bs->List Formula->Bool
 | _,_,[]=>false
 | ns,bs,g::r=>holdsW M W ns bs g || anyWH M W ns bs r
def headW (M:Mn) (W:Wd):List Bs->List Bs->List Formula->Bool
 | _,_,[]=>true
 | ns,bs,g::_=>holdsW M W ns bs g
end
theorem YgM {ns bs:List Bs} (f:Formula):holdsW M W ns bs f=
 if f.op=kAtom then decide ((⟨f.name,f.args.map (valN ns bs)⟩:Atom)∈W.atoms)
 else if f.op=kSame then decide (valN ns bs ((f.args[0]?).getD ⟨#[]⟩)=valN ns bs ((f.args[1]?).getD ⟨#[]⟩))
 else if f.op=kNot then !headW M W ns bs f.kids
 else if f.op=kAnd then allWH M W ns bs f.kids
 else if f.op=kOr then anyWH M W ns bs f.kids
 else if QuF f.op then quantW M (decide (f.op=kForall)) (fun ns' bs'=>headW M W ns' bs' f.kids) f.params ns bs
 else cmpW W f.op (f.exprs.map (bE ns bs)):=by cases f;rw [holdsW];rfl
theorem Yjo {M:Mn} {W:Wd} {ns bs:List Bs}:∀ l:List Formula,allWH M W ns bs l=!decide (∃ g∈l,¬holdsW M W ns bs g=true)
 | []=>by rw [allWH];simp
 | g::r=>by
  rw [allWH,Yjo r];cases h:holdsW M W ns bs g<;>simp [h]
theorem Yjl {M:Mn} {W:Wd} {ns bs:List Bs}:∀ l:List Formula,anyWH M W ns bs l=decide (∃ g∈l,holdsW M W ns bs g=true)
 | []=>by rw [anyWH];simp
 | g::r=>by
  rw [anyWH,Yjl r];cases h:holdsW M W ns bs g<;>simp [h]
inductive WSh:Formula->Prop
 | mk {f:Formula} (h1:f.op=kSame->2<=f.args.length) (h2:f.op=kNot\/QuF f.op->f.kids≠ []) (h3:f.op=kAtom\/f.op=kSame\/f.op=kNot\/f.op=kAnd\/f.op=kOr\/QuF f.op\/(2<=f.exprs.length/\∀ e∈f.exprs,VSh e)) (h6:∀ k∈f.kids,WSh k):WSh f
theorem WSh.same (h:WSh f):f.op=kSame->2<=f.args.length:=by cases h with | mk h1 _ _ _=>exact h1
theorem WSh.head (h:WSh f):f.op=kNot\/QuF f.op->f.kids≠ []:=by cases h with | mk _ h1 _ _=>exact h1
theorem WSh.kinds (h:WSh f):f.op=kAtom\/f.op=kSame\/f.op=kNot\/f.op=kAnd\/f.op=kOr\/QuF f.op\/(2<=f.exprs.length/\∀ e∈f.exprs,VSh e):=by cases h with | mk _ _ h1 _=>exact h1
theorem WSh.kid {k:Formula} (h:WSh f) (hk:k∈f.kids):WSh k:=by cases h with | mk _ _ _ h1=>exact h1 k hk
theorem Yn6 {ns bs:List Bs}:∀ (s:Nat) {e:Lx.Expr},SizeOf.sizeOf e<=s->VSh e->VSh (bE ns bs e)
 | 0,e,hs,_=>by cases e;simp at hs
 | s+1,e,hs,h=>by
  rw [bE_eq];refine .mk ?_ (fun k hk=>?_)
  ·rcases h.two with h1 | h1 | h1
   ·exact .inl h1
   ·exact .inr (.inl h1)
   exact .inr (.inr (by show 2<=(e.kids.map _).length;rw [List.length_map];exact h1))
  obtain ⟨k',hk',rfl⟩:=List.mem_map.1 hk;exact Yn6 s (by have:=Lx.Expr.kids_lt hk';omega) (h.kid hk')
theorem Yn3 {vw vn:Value} {g5 g6 g8 g9:Nat} {t5 t6 t8 t9:TypeId} {gm:Nat} {A5 A6 C:Option Addr} {n5 b5 n6 b6 m d q:Nat} (hR:FormulaR fz f va vp ve vk) (hv:v=Zp gm) (hw:vw=.agg #[Zc A5 n5 b5,Zc A6 n6 b6]) (hn:vn=Zc B m d) (hb:vb=Zc C q c)
 (h5:fz g5=some (.cells #[v] t5 (0,0))) (h6:fz g6=some (.cells #[Zc A5 n5 b5,Zc A6 n6 b6] t6 (0,0))) (h8:fz g8=some (.cells #[vn] t8 (0,0))) (h9:fz g9=some (.cells #[vb] t9 (0,0)))
 (hh:QFn prog 32 [v,vw,.agg #[Zy f.op,Zy f.name,va,vp,ve,vk],vn,vb] fz (Zo b)):
 QFn prog 78 [.agg #[Zy f.op,Zy f.name,va,vp,ve,vk],Zp g5,Zp g6,Zp g8,Zp g9] fz (Zo (!b)):=by
 subst hv hw hn hb;obtain ⟨⟨B1,m1,d1,rfl,ia⟩,⟨B2,m2,d2,rfl,ip⟩,⟨B3,m3,d3,rfl,ie⟩,⟨B4,m4,d4,rfl,ik⟩⟩:=hR.sls;refine qF Tryz.func78 Tryz.ntmps78 (fun w0=>?_);refine pX (fun g1=>?_);refine wc hh ?_;exact wR (h:=rfl)
theorem Yn2 {vw vn:Value} {g5 g6 g8 g9:Nat} {t5 t6 t8 t9:TypeId} {gm:Nat} {A5 A6 C:Option Addr} {n5 b5 n6 b6 m d q:Nat} (hR:FormulaR fz f va vp ve vk) (hv:v=Zp gm) (hw:vw=.agg #[Zc A5 n5 b5,Zc A6 n6 b6]) (hn:vn=Zc B m d) (hb:vb=Zc C q c)
 (h5:fz g5=some (.cells #[v] t5 (0,0))) (h6:fz g6=some (.cells #[Zc A5 n5 b5,Zc A6 n6 b6] t6 (0,0))) (h8:fz g8=some (.cells #[vn] t8 (0,0))) (h9:fz g9=some (.cells #[vb] t9 (0,0)))
 (hh:QFn prog 32 [v,vw,.agg #[Zy f.op,Zy f.name,va,vp,ve,vk],vn,vb] fz (Zo b)):
 QFn prog 79 [.agg #[Zy f.op,Zy f.name,va,vp,ve,vk],Zp g5,Zp g6,Zp g8,Zp g9] fz (Zo b):=by
 subst hv hw hn hb;obtain ⟨⟨B1,m1,d1,rfl,ia⟩,⟨B2,m2,d2,rfl,ip⟩,⟨B3,m3,d3,rfl,ie⟩,⟨B4,m4,d4,rfl,ik⟩⟩:=hR.sls;refine qF Tryz.func79 Tryz.ntmps79 (fun w0=>?_);refine pX (fun g1=>?_);refine wc hh ?_;exact wR (h:=rfl)
theorem YfE:∀ (s:Nat) {fz:FZ} {M:Mn} {W:Wd} {v vw va vp ve vk:Value} {f:Formula} {B C:Option Addr} {m d q c:Nat} {ns bs:List Bs},
 SizeOf.sizeOf f<=s->MnR fz v M->WdR fz W vw->FormulaR fz f va vp ve vk->Sl strL fz B m d ns->Sl strL fz C q c bs->ns.length<=bs.length->m+fW f<=1000000000->q+fW f<=1000000000->WSh f->
 QFn prog 32 [v,vw,.agg #[Zy f.op,Zy f.name,va,vp,ve,vk],Zc B m d,Zc C q c] fz (Zo (holdsW M W ns bs f))
 | 0,_,_,_,_,_,_,_,_,_,f,_,_,_,_,_,_,_,_,hs,_,_,_,_,_,_,_,_,_=>by cases f;simp at hs
 | s+1,fz,M,W,v,vw,va,vp,ve,vk,f,B,C,m,d,q,c,ns,bs,hs,hM,hW,hR,hN,hB,hl,hmf,hqf,hS=>by
  have hR0:=hR;have hM0:=hM;have hW0:=hW;have hwe:=Ya6 f;have hkl:=XH YpX f.kids;have hel:=XH YmL f.exprs;obtain ⟨⟨B1,m1,d1,rfl,ia⟩,⟨B2,m2,d2,rfl,ip⟩,⟨B3,m3,d3,rfl,ie⟩,⟨B4,m4,d4,rfl,ik⟩⟩:=hR.sls;obtain ⟨A5,n5,b5,A6,n6,b6,rfl,_,_⟩:=hW;obtain ⟨⟨gm,v1,v2,v3,v4,v5,v6,a7,a8,a9,a10,a11,a12,a13,a14,a15,a16,a17,vf,Ao,no,co,rfl,hg,hD,hF,hO⟩,hw,hmany⟩:=hM;have l1:=ia.len;have l3:=ie.len;have s3:=ie.short;have l4:=ik.len;have hM1:=YgM (M:=M) (W:=W) (ns:=ns) (bs:=bs) f;refine qF Tryz.func32 Tryz.ntmps32 (fun w0=>?_);refine pX (fun g5=>?_);refine pY (fun g6=>?_);refine pY (fun g7=>?_);refine pY (fun g8=>?_);refine pY (fun g9=>?_);refine Seq.freezeAll (H1:=[]) (H2:=[_,_,_,_,_]) (Zr _) (fun fz0 hle0 hf0=>?_);have b9:=hf0 _ (.head _);have b8:=hf0 _ (.tail _ (.head _));have b7:=hf0 _ (.tail _ (.tail _ (.head _)));have b6':=hf0 _ (.tail _ (.tail _ (.tail _ (.head _))));have b5':=hf0 _ (.tail _ (.tail _ (.tail _ (.tail _ (.head _)))));simp only at b9 b8 b7 b6' b5';refine wC ?_ ?_<;>intro c1
  ·rw [if_pos (show f.op=kAtom from c1)] at hM1;refine zWN ?_;refine YS [] ?_;refine zW ?_;refine pU ?_;refine Yf (Yh [] [] Zz (Yic (ia.mono hle0) Zi (hN.mono hle0) (hB.mono hle0) hl) (fun v2 fz2 H2 hle2 hR2=>⟨⟨hle2,by intro p hp;cases hp⟩,?_⟩));obtain ⟨rfl,A',c',rfl,ia2⟩:=hR2;refine Ch.qk ⟨hle2,by intro p hp;cases hp⟩ (Xy ?_);refine Ch.qk ⟨hle2,by intro p hp;cases hp⟩ (Yu (wis_q (a:=⟨f.name,f.args.map (valN ns bs)⟩) (hW0.mono (hle0.trans hle2)) ⟨hR0.name,⟨_,_,_,rfl,ia2⟩⟩) ?_);refine Ch.qk ⟨hle2,by intro p hp;cases hp⟩ (YE ?_);refine Ch.done ?_;exact wR (h:=by rw [hM1])
  rw [if_neg (show ¬f.op=kAtom from c1)] at hM1;refine wC ?_ ?_<;>intro c2
  ·rw [if_pos (show f.op=kSame from c2)] at hM1;have h2:=hS.same c2;obtain ⟨x,hx⟩:=Yc (l:=f.args) (k:=0) Zi;obtain ⟨y,hy⟩:=Yc (l:=f.args) (k:=1) Zi;rw [hx,hy] at hM1;have hx':(f.args.map (valN ns bs))[0]?=some (valN ns bs x):=by rw [List.getElem?_map,hx];rfl
   have hy':(f.args.map (valN ns bs))[1]?=some (valN ns bs y):=by rw [List.getElem?_map,hy];rfl
   refine zW ?_;refine Ya (Yh [] [] Zz (Yic (ia.mono hle0) Zi (hN.mono hle0) (hB.mono hle0) hl) (fun v2 fz2 H2 hle2 hR2=>?_));obtain ⟨rfl,A',c',rfl,ia2⟩:=hR2;have l6:=ia2.len;rw [List.length_map] at l6;refine wI ia2 hx' (fun p1 hp1=>?_);refine zH hp1 (fun hs1=>?_);refine wI ia2 hy' (fun p2 hp2=>?_);refine zH hp2 (fun hs2=>?_);refine wC ?_ ?_<;>intro c3
   ·exact wR (h:=by rw [hM1];exact Ym c3)
   exact wR (h:=by rw [hM1];exact Yg c3)
  rw [if_neg (show ¬f.op=kSame from c2)] at hM1;have ihk:∀ {x:Formula} {fz':FZ} {ns' bs':List Bs} {B' C':Option Addr} {m' d' q' c':Nat} {wa wp we wk:Value},x∈f.kids->Le fz fz'->Sl strL fz' B' m' d' ns'->Sl strL fz' C' q' c' bs'->ns'.length<=bs'.length->m'<=m+f.params.length->q'<=q+f.params.length->FormulaR fz' x wa wp we wk->
   QFn prog 32 [Zp gm,.agg #[Zc A5 n5 b5,Zc A6 n6 b6],.agg #[Zy x.op,Zy x.name,wa,wp,we,wk],Zc B' m' d',Zc C' q' c'] fz' (Zo (holdsW M W ns' bs' x)):=fun hxm hle h1 h2 h3 h4 h5 h6=>by
   have hxw:=Y2 (w:=fW) hxm;exact YfE s (by have:=Formula.kids_lt hxm;omega) (hM0.mono hle) (hW0.mono hle) h6 h1 h2 h3 Zi Zi (hS.kid hxm)
  refine wC ?_ ?_<;>intro c3
  ·rw [if_pos (show f.op=kNot from c3)] at hM1;obtain ⟨x,rest,hkd⟩:∃ x rest,f.kids=x::rest:=by
    cases hf:f.kids with
    | nil=>exact absurd hf (hS.head (.inl c3))
    | cons x rest=>exact ⟨x,rest,rfl⟩
   have hx:f.kids[0]?=some x:=by rw [hkd];rfl
   have hl0:0<m4:=by rw [<- l4,hkd];simp
   rw [hkd,headW] at hM1;refine wI (ik.mono hle0) hx (fun p1 hp1=>?_);refine zL hp1 ?_;intro cs hcs;obtain ⟨wa,wp,we,wk,rfl,hRx⟩:=Yn hcs;obtain ⟨⟨E1,r1,q1,rfl,_⟩,⟨E2,r2,q2,rfl,_⟩,⟨E3,r3,q3,rfl,_⟩,⟨E4,r4,q4,rfl,_⟩⟩:=id hRx.sls;refine wG ?_;refine Yu (ihk (Zm hx) hle0 (hN.mono hle0) (hB.mono hle0) hl Zi Zi hRx) ?_;exact wR (h:=by rw [hM1])
  rw [if_neg (show ¬f.op=kNot from c3)] at hM1;refine wC ?_ ?_<;>intro c4
  ·rw [if_pos (show f.op=kAnd from c4),Yjo] at hM1;refine wG ?_;refine YG ?_
   (refine zG ?_);refine Yu (XD (cap:=[Zp g5,Zp g6,Zp g8,Zp g9]) (p:=fun x=>¬holdsW M W ns bs x=true) (ik.mono hle0) (fun x hx cs hcs=>by
    obtain ⟨wa,wp,we,wk,rfl,hRx⟩:=Yn hcs;rw [show decide (¬holdsW M W ns bs x=true)=!(holdsW M W ns bs x) from by cases holdsW M W ns bs x<;>simp];exact Yn3 hRx rfl rfl rfl rfl b5' b6' b8 b9 (ihk hx hle0 (hN.mono hle0) (hB.mono hle0) hl Zi Zi hRx))) ?_
   exact wR (h:=by rw [hM1])
  rw [if_neg (show ¬f.op=kAnd from c4)] at hM1;refine wC ?_ ?_<;>intro c5
  ·rw [if_pos (show f.op=kOr from c5),Yjl] at hM1;refine wG ?_;refine YG ?_
   (refine zG ?_);refine Yu (XD (cap:=[Zp g5,Zp g6,Zp g8,Zp g9]) (p:=fun x=>holdsW M W ns bs x=true) (ik.mono hle0) (fun x hx cs hcs=>by
    obtain ⟨wa,wp,we,wk,rfl,hRx⟩:=Yn hcs;rw [show decide (holdsW M W ns bs x=true)=holdsW M W ns bs x from by cases holdsW M W ns bs x<;>simp];exact Yn2 hRx rfl rfl rfl rfl b5' b6' b8 b9 (ihk hx hle0 (hN.mono hle0) (hB.mono hle0) hl Zi Zi hRx))) ?_
   exact wR (h:=by rw [hM1])
  rw [if_neg (show ¬f.op=kOr from c5)] at hM1;by_cases hq:QuF f.op
  ·rw [if_pos hq] at hM1;obtain ⟨x,rest,hkd⟩:∃ x rest,f.kids=x::rest:=by
    cases hf:f.kids with
    | nil=>exact absurd hf (hS.head (.inr hq))
    | cons x rest=>exact ⟨x,rest,rfl⟩
   have hxm:x∈f.kids:=by rw [hkd];simp
   have hcall:=Ymi f.params.length (k:=0) (hb:=fun ns' bs'=>headW M W ns' bs' f.kids) (hM0.mono hle0) (hW0.mono hle0) (hR0.mono hle0) hq hkd Zi (hN.mono hle0) (hB.mono hle0) hl Zi Zi (fun hle' h1 h2 h3 h4 h5 h6=>by
    have:=ihk hxm (hle0.trans hle') h1 h2 h3 h4 h5 h6;rw [hkd,headW];exact this)
   rw [List.drop_zero] at hcall;rcases hq with w6 | w7
   ·refine wc hcall ?_;exact wR (h:=by rw [hM1])
   have w6:¬f.op=kForall:=by rw [w7];decide+kernel
   refine wc hcall ?_;exact wR (h:=by rw [hM1])
  rw [if_neg hq] at hM1;have w6:¬f.op=kForall:=fun h=>hq (.inl h)
  have w7:¬f.op=kExists:=fun h=>hq (.inr h)
  obtain ⟨he2,hes⟩:2<=f.exprs.length/\∀ e∈f.exprs,VSh e:=by
   rcases hS.kinds with h | h | h | h | h | h | h
   ·exact absurd h c1
   ·exact absurd h c2
   ·exact absurd h c3
   ·exact absurd h c4
   ·exact absurd h c5
   ·exact absurd h hq
   exact h
  refine zW ?_;intros;rename_i g12;refine Yi (fun q' σ fz' H'=>∃ (k:Nat) (vo:Value) (Hk:HP),k<=m3/\q'=m3 - k/\σ=[(83,Zk k),(82,Zk m3),(81,Zc B3 m3 d3),(12,Zp g12),(9,Zp g9),(8,Zp g8),(6,Zp g6)]/\Le fz0 fz'/\
   H'=(g12,Zu #[Zy f.op,Ze,Zn,Zn,vo,Zn] 35)::Hk/\Grow exprL 61 fz' vo k Hk ((f.exprs.take k).map (bE ns bs))) ⟨0,_,[],Z0 _,rfl,rfl,Zd,rfl,Grow.nil _ _ _⟩ Zw Zb ?_
  rintro q' σ fz5 H' ⟨k,vo,Hk,hk,rfl,rfl,hle5,rfl,hG⟩;obtain ⟨Ao',co',rfl,_,_⟩:=hG.form;have hle05:=hle0.trans hle5;have b9:=hle5 _ _ b9;have b8:=hle5 _ _ b8;have b6':=hle5 _ _ b6';refine wC ?_ ?_<;>intro c8
  ·obtain ⟨x,hx⟩:=Yc (l:=f.exprs) (k:=k) Zi;have hxm:=Zm hx;have hxw:=Y2 (w:=eW) hxm;refine wI (ie.mono hle05) hx (fun p1 hp1=>?_);refine zL hp1 ?_;intro cs hcs;obtain ⟨wa,wk,rfl,hRx⟩:=Yw hcs;obtain ⟨⟨E1,r1,q1,rfl,_⟩,⟨E2,r2,q2,rfl,_⟩⟩:=id hRx.sls;refine zWN ?_;intros;rename_i g14;refine YS [_,_] ?_;refine zW ?_;refine Yj (Yj (Yj ?_));refine zW ?_;refine pU ?_;refine Yf (Yh [] (_::_::Hk) Zz (Yjj _ (Zs _) hRx (hN.mono hle05) (hB.mono hle05) hl Zi) (fun v6 fz6 H6 hle6 hR6=>⟨⟨hle6,Zx⟩,?_⟩));obtain ⟨rfl,wa6,wk6,rfl,hR6⟩:=hR6;refine Yf (Yb (cs:=[Zy (bE ns bs x).op,Zy (bE ns bs x).name,Zk (bE ns bs x).n,wa6,wk6]) (fun gb=>⟨⟨hle6,Zx⟩,?_⟩));refine Yf (YD (Hr:=[_,_,_]) (d:=bE ns bs x) (Zr _) (hG.mono hle6) Yen (.head _) (Ww hR6) (fun v' Hs' hO'=>⟨⟨hle6,Zx⟩,?_⟩));obtain ⟨Av',cv',rfl,_,_⟩:=hO'.form;refine Ch.hard0 (Wk ?_);refine Ch.done ?_;exact wP (h:=by exact ⟨k+1,_,Hs',by omega,rfl,rfl,hle5.trans hle6,rfl,hO'.of (by rw [List.take_add_one,hx];simp) rfl⟩)
  have hk2:m3=k:=by omega
  subst hk2;rw [show f.exprs.take m3=f.exprs from Zl Zi] at hG
  first
  | refine Wp.freezeAll (H1:=[_]) (H2:=Hk) (Zr _) (fun fz9 hle9 hf9=>?_)
  | refine Seq.freezeAll (H1:=[_]) (H2:=Hk) (Zr _) (fun fz9 hle9 hf9=>?_)
  obtain ⟨B9,d9,e9,hS9⟩:=hG.sl hle9 hf9 Zi;injection e9 with e91 e92 e93
  subst e91;subst e93;have b6':=hle9 _ _ b6';refine zW ?_;have hfr:FormulaR fz9 (.mk f.op ⟨#[]⟩ [] [] (f.exprs.map (bE ns bs)) []) Zn Zn (Zc Ao' m3 co') Zn:={op:=hR0.op,name:=Y3,args:=IsSl.nil,params:=IsSl.nil,exprs:=hS9.is,kids:=IsSl.nil};have hv2:2<=(f.exprs.map (bE ns bs)).length:=by rw [List.length_map];exact he2
  have hvs:∀ e∈f.exprs.map (bE ns bs),VSh e:=fun e he=>by
   obtain ⟨e',he',rfl⟩:=List.mem_map.1 he;exact Yn6 _ (Zs _) (hes e' he')
  refine zc (YnL (hW0.mono (hle05.trans hle9)) hfr hv2 hvs) ?_;exact wR (h:=by rw [hM1];rfl)
def nmd (w n:Bs):Param:=⟨n,w++n⟩
def Ygu (d:Domain):List Param:=d.predicates.map (fun x=>nmd XO x.name)++d.functions.map (fun x=>nmd Xl x.name)
def Yd6 (all:List Param):List Param:=all.map (fun x=>nmd Ycm x.name)
def YhW (d:Domain):List Param:=d.actions.map (fun x=>nmd Wl x.name)++d.duratives.map (fun x=>nmd Xm x.name)
def Ya1 (d:Domain) (all:List Param):Option Bs:=match repM [] (Ygu d) with
 | some p=>some p
 | none=>match repM [] (Yd6 all) with
  | some p=>some p
  | none=>repM [] (YhW d)
theorem Ygt {fz:FZ} {w n:Bs} (hn:Short n) (hs:n.size<=1000) (hw:w.size<=1000:=by decide):paramL.rep fz (nmd w n) [Zy n,Zy (w++n)]:=
 Ygk (x:=nmd w n) ⟨hn,by show (w++n).size<=_;rw [ByteArray.size_append];omega⟩
theorem names_q {vf vg vo:Value} (h:CkR fz v d p all vf vp vg vo) (hs:NmS d all)
 (hm:d.predicates.length<=1000000/\d.functions.length<=1000000/\all.length<=1000000/\d.actions.length<=1000000/\d.duratives.length<=1000000):
 QFn prog 178 [v] fz (repV (Ya1 d all)):=by
 obtain ⟨gc,v1,v2,v3,v4,v5,v6,u1,u2,u3,u4,u5,u6,u7,Aa,na,ca,rfl,hc,hD,hP,hall⟩:=h;obtain ⟨⟨A1,n1,b1,rfl,i1⟩,⟨A2,n2,b2,rfl,i2⟩,⟨A3,n3,b3,rfl,i3⟩,⟨A4,n4,b4,rfl,i4⟩,⟨A5,n5,b5,rfl,i5⟩,⟨A6,n6,b6,rfl,i6⟩⟩:=hD.sls;have l3:=i3.len;have l4:=i4.len;have l5:=i5.len;have l6:=i6.len;have la:=hall.len;have s3:=i3.short;have s4:=i4.short;have s5:=i5.short;have s6:=i6.short;have sa:=hall.short;obtain ⟨m3,m4,ma,m5,m6⟩:=hm;refine qF Tryz.func178 Tryz.ntmps178 (fun w0=>?_);refine zV ?_;intros;rename_i gs;refine zV ?_;refine Yi (fun q σ fz' H'=>∃ (k:Nat) (v':Value) (Ho:HP),k<=n3/\q=n3 - k/\σ=[(25,Zk k),(24,Zk n3),(23,Zc A3 n3 b3),(4,Zp gs),(0,Zp gc)]/\fz=fz'/\H'=(gs,Zu #[v',Zn,Zn] 313)::Ho/\Grow paramL 315 fz v' (k) Ho ((d.predicates.take k).map (fun x=>nmd XO x.name))) ⟨0,_,[],Z0 _,rfl,rfl,rfl,rfl,Grow.nil _ _ _⟩ Zw Zb ?_;rintro q σ fz' H' ⟨k,v',Ho,hk,rfl,rfl,rfl,rfl,hG⟩;obtain ⟨Ao,co,rfl,_,_⟩:=hG.form;refine vC ?_ ?_<;>intro c1
 ·obtain ⟨x,hx⟩:=Yc (l:=d.predicates) (k:=k) Zi;have hxs:=hs.p x (Zm hx);refine vI i3 hx (fun p1 hp=>?_);refine zL hp ?_;intro cs hcs;obtain ⟨w1,rfl,hR⟩:=Xo hcs;obtain ⟨Ap,np,cp,rfl,ip⟩:=hR.params;have hxn:Short x.name:=by unfold Short;omega
  refine zV ?_;intros
  ((refine zG ?_);refine We T Zz Zz Zz Zz Zz Zh Zh ?_);refine vG ?_;refine XM Zz Zz (by show _+_<=_;exact Nat.le_trans (Nat.add_le_add_left hxs _) Zh) ?_;refine zV ?_;refine Ya (Yb (cs:=[Zy x.name,Zy (XO++x.name)]) (fun gb=>?_));refine Ya (YD (Hr:=[_,_,_]) (d:=nmd XO x.name) (Zr _) hG WI (.head _) (Ygt hxn hxs) (fun v2 Hs' hO'=>?_));obtain ⟨Av',cv',rfl,_,_⟩:=hO'.form;refine vG ?_;refine We T Zz Zz Zz Zz Zz Zh Zh ?_;exact vP (h:=by exact ⟨k+1,_,Hs',by omega,rfl,rfl,rfl,rfl,hO'.of (by rw [List.take_add_one,hx];simp) Zi⟩)
 have hk1:n3=k:=by omega
 subst hk1;rw [show d.predicates.take n3=d.predicates from Zl Zi] at hG;refine zV ?_;refine Yi (fun q σ fz' H'=>∃ (k:Nat) (v':Value) (Ho:HP),k<=n4/\q=n4 - k/\σ=[(47,Zk k),(46,Zk n4),(45,Zc A4 n4 b4),(4,Zp gs),(0,Zp gc)]/\fz=fz'/\H'=(gs,Zu #[v',Zn,Zn] 313)::Ho/\Grow paramL 315 fz v' (n3+k) Ho (d.predicates.map (fun x=>nmd XO x.name)++(d.functions.take k).map (fun x=>nmd Xl x.name))) ⟨0,_,Ho,Z0 _,rfl,rfl,rfl,rfl,hG.of (by simp) rfl⟩ Zw Zb ?_;rintro q σ fz' H' ⟨k,v',Ho,hk,rfl,rfl,rfl,rfl,hG⟩;obtain ⟨Ao,co,rfl,_,_⟩:=hG.form;refine vC ?_ ?_<;>intro c1
 ·obtain ⟨x,hx⟩:=Yc (l:=d.functions) (k:=k) Zi;have hxs:=hs.f x (Zm hx);refine vI i4 hx (fun p1 hp=>?_);refine zL hp ?_;intro cs hcs;obtain ⟨w1,rfl,hR⟩:=YU hcs;obtain ⟨Ap,np,cp,rfl,ip⟩:=hR.params;have hxn:Short x.name:=by unfold Short;omega
  refine zV ?_;intros
  ((refine zG ?_);refine We T Zz Zz Zz Zz Zz Zh Zh ?_);refine vG ?_;refine XM Zz Zz (by show _+_<=_;exact Nat.le_trans (Nat.add_le_add_left hxs _) Zh) ?_;refine zV ?_;refine Ya (Yb (cs:=[Zy x.name,Zy (Xl++x.name)]) (fun gb=>?_));refine Ya (YD (Hr:=[_,_,_]) (d:=nmd Xl x.name) (Zr _) hG WI (.head _) (Ygt hxn hxs) (fun v2 Hs' hO'=>?_));obtain ⟨Av',cv',rfl,_,_⟩:=hO'.form;refine vG ?_;refine We T Zz Zz Zz Zz Zz Zh Zh ?_;exact vP (h:=by exact ⟨k+1,_,Hs',by omega,rfl,rfl,rfl,rfl,hO'.of (by rw [List.take_add_one,hx];simp) Zi⟩)
 have hk1:n4=k:=by omega
 subst hk1;rw [show d.functions.take n4=d.functions from Zl Zi] at hG;have hG0:Grow paramL 315 fz _ (n3+n4) Ho (Ygu d):=hG;clear hG;refine zV ?_;refine Yi (fun q σ fz' H'=>∃ (k:Nat) (v':Value) (H1:HP),k<=na/\q=na - k/\σ=[(68,Zk k),(67,Zk na),(66,Zc Aa na ca),(4,Zp gs),(0,Zp gc)]/\fz=fz'/\H'=(gs,Zu #[Zc Ao (n3+n4) co,v',Zn] 313)::(Ho++H1)/\Grow paramL 315 fz v' (k) H1 ((all.take k).map (fun x=>nmd Ycm x.name))) ⟨0,_,[],Z0 _,rfl,rfl,rfl,(by rw [List.append_nil]),Grow.nil _ _ _⟩ Zw Zb ?_;rintro q σ fz' H' ⟨k,v',H1,hk,rfl,rfl,rfl,rfl,hG⟩;obtain ⟨A1',c1',rfl,_,_⟩:=hG.form;refine vC ?_ ?_<;>intro c1
 ·obtain ⟨x,hx⟩:=Yc (l:=all) (k:=k) Zi;have hxs:=hs.o x (Zm hx);refine vI hall hx (fun p1 hp=>?_);refine zL hp ?_;intro cs hcs;obtain ⟨rfl,hR⟩:=Yz hcs;have hxn:Short x.name:=by unfold Short;omega
  refine zV ?_;intros
  ((refine zG ?_);refine We T Zz Zz Zz Zz Zz Zh Zh ?_);refine vG ?_;refine XM Zz Zz (by show _+_<=_;exact Nat.le_trans (Nat.add_le_add_left hxs _) Zh) ?_;refine zV ?_;refine Ya (Yb (cs:=[Zy x.name,Zy (Ycm++x.name)]) (fun gb=>?_));refine Ya (YD (Hr:=_::_::_::Ho) (d:=nmd Ycm x.name) (Zr _) hG WI (.head _) (Ygt hxn hxs) (fun v2 Hs' hO'=>?_));obtain ⟨Av',cv',rfl,_,_⟩:=hO'.form;refine vG ?_;refine We T Zz Zz Zz Zz Zz Zh Zh ?_;exact vP (h:=by exact ⟨k+1,_,Hs',by omega,rfl,rfl,rfl,rfl,hO'.of (by rw [List.take_add_one,hx];simp) Zi⟩)
 have hk1:na=k:=by omega
 subst hk1;rw [show all.take na=all from Zl Zi] at hG;have hG1:Grow paramL 315 fz _ na H1 (Yd6 all):=hG;clear hG;refine zV ?_;refine Yi (fun q σ fz' H'=>∃ (k:Nat) (v':Value) (H2:HP),k<=n5/\q=n5 - k/\σ=[(90,Zk k),(89,Zk n5),(88,Zc A5 n5 b5),(4,Zp gs),(0,Zp gc)]/\fz=fz'/\H'=(gs,Zu #[Zc Ao (n3+n4) co,Zc A1' na c1',v'] 313)::((Ho++H1)++H2)/\Grow paramL 315 fz v' (k) H2 ((d.actions.take k).map (fun x=>nmd Wl x.name))) ⟨0,_,[],Z0 _,rfl,rfl,rfl,(by rw [List.append_nil]),Grow.nil _ _ _⟩ Zw Zb ?_;rintro q σ fz' H' ⟨k,v',H2,hk,rfl,rfl,rfl,rfl,hG⟩;obtain ⟨A2',c2',rfl,_,_⟩:=hG.form;refine vC ?_ ?_<;>intro c1
 ·obtain ⟨x,hx⟩:=Yc (l:=d.actions) (k:=k) Zi;have hxs:=hs.a x (Zm hx);refine vI i5 hx (fun p1 hp=>?_);refine zL hp ?_;intro cs hcs;obtain ⟨w1,w2,w3,w4,w5,w6,rfl,hR⟩:=Y7 hcs;obtain ⟨Ap,np,cp,rfl,ip⟩:=hR.params;obtain ⟨⟨B0,e0,j0,rfl,_⟩,⟨B1,e1,j1,rfl,_⟩,⟨B2,e2,j2,rfl,_⟩,⟨B3,e3,j3,rfl,_⟩⟩:=hR.pre.sls;obtain ⟨B4,e4,j4,rfl,_⟩:=hR.changes;have hxn:Short x.name:=by unfold Short;omega
  refine zV ?_;intros
  ((refine zG ?_);refine We T Zz Zz Zz Zz Zz Zh Zh ?_);refine vG ?_;refine XM Zz Zz (by show _+_<=_;exact Nat.le_trans (Nat.add_le_add_left hxs _) Zh) ?_;refine zV ?_;refine Ya (Yb (cs:=[Zy x.name,Zy (Wl++x.name)]) (fun gb=>?_));refine Ya (YD (Hr:=_::_::_::(Ho++H1)) (d:=nmd Wl x.name) (Zr _) hG WI (.head _) (Ygt hxn hxs) (fun v2 Hs' hO'=>?_));obtain ⟨Av',cv',rfl,_,_⟩:=hO'.form;refine vG ?_;refine We T Zz Zz Zz Zz Zz Zh Zh ?_;exact vP (h:=by exact ⟨k+1,_,Hs',by omega,rfl,rfl,rfl,rfl,hO'.of (by rw [List.take_add_one,hx];simp) Zi⟩)
 have hk1:n5=k:=by omega
 subst hk1;rw [show d.actions.take n5=d.actions from Zl Zi] at hG;refine zV ?_;refine Yi (fun q σ fz' H'=>∃ (k:Nat) (v':Value) (H2:HP),k<=n6/\q=n6 - k/\σ=[(112,Zk k),(111,Zk n6),(110,Zc A6 n6 b6),(4,Zp gs)]/\fz=fz'/\H'=(gs,Zu #[Zc Ao (n3+n4) co,Zc A1' na c1',v'] 313)::((Ho++H1)++H2)/\Grow paramL 315 fz v' (n5+k) H2 (d.actions.map (fun x=>nmd Wl x.name)++(d.duratives.take k).map (fun x=>nmd Xm x.name))) ⟨0,_,H2,Z0 _,rfl,rfl,rfl,rfl,hG.of (by simp) rfl⟩ Zw Zb ?_;rintro q σ fz' H' ⟨k,v',H2,hk,rfl,rfl,rfl,rfl,hG⟩;obtain ⟨A2',c2',rfl,_,_⟩:=hG.form;refine vC ?_ ?_<;>intro c1
 ·obtain ⟨x,hx⟩:=Yc (l:=d.duratives) (k:=k) Zi;have hxs:=hs.u x (Zm hx);refine vI i6 hx (fun p1 hp=>?_);refine zL hp ?_;intro cs hcs;obtain ⟨w0,w1,w2,w3,w4,w5,w6,w7,w8,w9,w10,w11,w12,w13,w14,rfl,hR⟩:=Xx hcs;obtain ⟨Ap,np,cp,rfl,ip⟩:=hR.params;obtain ⟨⟨B0,e0,j0,rfl,_⟩,⟨B1,e1,j1,rfl,_⟩,⟨B2,e2,j2,rfl,_⟩,⟨B3,e3,j3,rfl,_⟩⟩:=hR.start.sls;obtain ⟨⟨B4,e4,j4,rfl,_⟩,⟨B5,e5,j5,rfl,_⟩,⟨B6,e6,j6,rfl,_⟩,⟨B7,e7,j7,rfl,_⟩⟩:=hR.over.sls;obtain ⟨⟨B8,e8,j8,rfl,_⟩,⟨B9,e9,j9,rfl,_⟩,⟨B10,e10,j10,rfl,_⟩,⟨B11,e11,j11,rfl,_⟩⟩:=hR.fin.sls;obtain ⟨B12,e12,j12,rfl,_⟩:=hR.atStart;obtain ⟨B13,e13,j13,rfl,_⟩:=hR.atEnd;have hxn:Short x.name:=by unfold Short;omega
  refine zV ?_;intros
  ((refine zG ?_);refine We T Zz Zz Zz Zz Zz Zh Zh ?_);refine vG ?_;refine XM Zz Zz (by show _+_<=_;exact Nat.le_trans (Nat.add_le_add_left hxs _) Zh) ?_;refine zV ?_;refine Ya (Yb (cs:=[Zy x.name,Zy (Xm++x.name)]) (fun gb=>?_));refine Ya (YD (Hr:=_::_::_::(Ho++H1)) (d:=nmd Xm x.name) (Zr _) hG WI (.head _) (Ygt hxn hxs) (fun v2 Hs' hO'=>?_));obtain ⟨Av',cv',rfl,_,_⟩:=hO'.form;refine vG ?_;refine We T Zz Zz Zz Zz Zz Zh Zh ?_;exact vP (h:=by exact ⟨k+1,_,Hs',by omega,rfl,rfl,rfl,rfl,hO'.of (by rw [List.take_add_one,hx];simp) Zi⟩)
 have hk1:n6=k:=by omega
 subst hk1;rw [show d.duratives.take n6=d.duratives from Zl Zi] at hG;have hG2:Grow paramL 315 fz _ (n5+n6) H2 (YhW d):=hG;clear hG;refine zV ?_;refine Yi (fun q σ fz' H'=>∃ k:Nat,k<=3/\q=3 - k/\σ=[(129,Zk k),(128,.agg #[Zc Ao (n3+n4) co,Zc A1' na c1',Zc A2' (n5+n6) c2'])]/\fz=fz'/\H'=(gs,Zu #[Zc Ao (n3+n4) co,Zc A1' na c1',Zc A2' (n5+n6) c2'] 313)::((Ho++H1)++H2)/\(0<k->repM [] (Ygu d)=none)/\(1<k->repM [] (Yd6 all)=none)/\(2<k->repM [] (YhW d)=none)) ⟨0,by omega,rfl,rfl,rfl,rfl,fun h0=>by omega,fun h0=>by omega,fun h0=>by omega⟩ Zw Zb ?_;rintro q σ fz' H' ⟨k,hk,rfl,rfl,rfl,rfl,z0,z1,z2⟩;refine vC ?_ ?_<;>intro c1
 ·have hk3:k=0\/k=1\/k=2:=by omega
  rcases hk3 with rfl | rfl | rfl
  ·refine vG ?_;refine YiH ?_;refine zV ?_
   (refine zG ?_);refine XJ (v:=repV (repM [] (Ygu d))) (fun fz' hl hf=>by
    obtain ⟨A',c',he,hsl⟩:=hG0.sl hl (fun p hp=>hf p (by simp [hp])) Zi;injection he with x1 x2 x3
    subst x1 x3;exact YeJ hsl) ?_
   cases hr:repM [] (Ygu d) with
   | some pl=>
    rw [show repV (some pl)=.tuple #[Zy pl,.iface 86 (Zk 4)] from rfl];exact vS (h:=by exact (by rw [Ya1,hr];rfl))
   | none=>
    rw [show repV none=.tuple #[Ze,.nilIface] from rfl];exact vP (h:=by exact ⟨1,by omega,rfl,rfl,rfl,rfl,fun _=>rfl,fun h0=>by omega,fun h0=>by omega⟩)
  ·refine vG ?_;refine YiH ?_;refine zV ?_
   (refine zG ?_);refine XJ (v:=repV (repM [] (Yd6 all))) (fun fz' hl hf=>by
    obtain ⟨A',c',he,hsl⟩:=hG1.sl hl (fun p hp=>hf p (by simp [hp])) Zi;injection he with x1 x2 x3
    subst x1 x3;exact YeJ hsl) ?_
   cases hr:repM [] (Yd6 all) with
   | some pl=>
    rw [show repV (some pl)=.tuple #[Zy pl,.iface 86 (Zk 4)] from rfl];exact vS (h:=by exact (by rw [Ya1,z0 Zi,hr];rfl))
   | none=>
    rw [show repV none=.tuple #[Ze,.nilIface] from rfl];exact vP (h:=by exact ⟨2,by omega,rfl,rfl,rfl,rfl,fun _=>z0 Zi,fun _=>rfl,fun h0=>by omega⟩)
  refine vG ?_;refine YiH ?_;refine zV ?_
  (refine zG ?_);refine XJ (v:=repV (repM [] (YhW d))) (fun fz' hl hf=>by
   obtain ⟨A',c',he,hsl⟩:=hG2.sl hl (fun p hp=>hf p (by simp [hp])) Zi;injection he with x1 x2 x3
   subst x1 x3;exact YeJ hsl) ?_
  cases hr:repM [] (YhW d) with
  | some pl=>
   rw [show repV (some pl)=.tuple #[Zy pl,.iface 86 (Zk 4)] from rfl];exact vS (h:=by exact (by rw [Ya1,z0 Zi,z1 Zi,hr];rfl))
  | none=>
   rw [show repV none=.tuple #[Ze,.nilIface] from rfl];exact vP (h:=by exact ⟨3,by omega,rfl,rfl,rfl,rfl,fun _=>z0 Zi,fun _=>z1 Zi,fun _=>rfl⟩)
 exact vS (h:=by exact (by rw [Ya1,z0 Zi,z1 Zi,z2 Zi];rfl))
def wDomainP:Bs:=⟨#[100,111,109,97,105,110]⟩
def YjE:Bs:=⟨#[112,114,111,98,108,101,109]⟩
def wInitP:Bs:=⟨#[105,110,105,116]⟩
def YlZ:Bs:=⟨#[118,97,108,117,101,115]⟩
def wGoalP:Bs:=⟨#[103,111,97,108]⟩
def wLimitsP:Bs:=⟨#[108,105,109,105,116,115]⟩
def wTypesP:Bs:=⟨#[116,121,112,101,115]⟩
def txtV (v:Value_):Bs:=Yot v.fluent.name v.fluent.args
def OutV (d:Domain) (v:Value_):Prop:=∃ f,fstF d.functions v.fluent.name=some f/\(v.n<f.lo\/f.hi<v.n)
def Yij (d:Domain) (all:List Param):List Bs->List Value_->Int
 | _,[]=>0
 | ks,v::r=>
  if fluM d all [] v.fluent.name v.fluent.args≠0 then fluM d all [] v.fluent.name v.fluent.args
  else if OutV d v then 14
  else if txtV v∈ks then 4
  else Yij d all (ks++ [txtV v]) r
def W0 (d:Domain) (all:List Param) (p:Problem):Bs × Int:=
 if p.domain≠d.name then (YjE,8)
 else if Yav (fun a=>atomM d all [] a.name a.args) p.init≠0 then (wInitP,Yav (fun a=>atomM d all [] a.name a.args) p.init)
 else if Yij d all [] p.values≠0 then (YlZ,Yij d all [] p.values)
 else if ∃ f∈d.functions,Yfc d.types all (p.values.map txtV) f.name f.params [] then (YlZ,3)
 else (⟨#[]⟩,0)
theorem YpO {name:Bs} {args:List Bs} (h:fluM d all vars name args=0):∃ f,fstF d.functions name=some f/\args.length=f.params.length:=by
 unfold fluM at h;cases hf:fstF d.functions name with
 | none=>rw [hf] at h;cases h
 | some f=>
  rw [hf] at h;refine ⟨f,rfl,Classical.byContradiction fun h0=>?_⟩;simp only [YdS] at h;rw [if_pos h0] at h;cases h
theorem fstF_mem {l:List Function} {x:Bs} {f:Function} (h:fstF l x=some f):f∈l:=List.mem_of_find?_eq_some h
theorem YnK (h:CkG fz v d p all) (hs:NmS d all) (hpf:∀ f∈d.functions,f.params.length<=64) (hvs:∀ x∈p.values,x.fluent.name.size<=1000/\∀ a∈x.fluent.args,a.size<=1000) (hal:all.length<=1000000000):
 QFn prog 187 [v] fz (resV (W0 d all p)):=by
 have h0:=h;obtain ⟨⟨vf,vpp,vg,vo,hck,hF,hPr,hFu,hO⟩,hw⟩:=h;obtain ⟨gc,v1,v2,v3,v4,v5,v6,u1,u2,u3,u4,u5,u6,u7,Aa,na,ca,rfl,hc,hD,hP,hall⟩:=hck;obtain ⟨A4,n4,b4,rfl,i4⟩:=hD.functions;obtain ⟨B2,m2,d2,rfl,i2⟩:=hP.init;obtain ⟨B3,m3,d3,rfl,i3⟩:=hP.values;obtain ⟨gf,mf,rfl,hgf,hmf⟩:=hFu;have l4:=i4.len;have l2:=i2.len;have l3:=i3.len;have s4:=i4.short;have s2:=i2.short;have s3:=i3.short;refine qF Tryz.func187 Tryz.ntmps187 (fun w0=>?_);refine vC ?_ ?_<;>intro x1
 ·exact vS (h:=by exact (by rw [W0,if_pos x1];rfl))
 have hdn:¬p.domain≠d.name:=fun h=>h x1
 refine zV ?_;refine XW m2 (fun k=>[(32,Zk k),(31,Zk m2),(30,Zc B2 m2 d2),(0,Zp gc)]) [] (fun k=>(∀ i,i<k->∀ a,p.init[i]?=some a->atomM d all [] a.name a.args=0)) (fun i hi=>absurd hi Zi) ?_;intro k hk hh;refine vC ?_ ?_<;>intro c1
 ·obtain ⟨x,hx⟩:=Yc (l:=p.init) (k:=k) Zi;refine vI i2 hx (fun p1 hp=>?_);refine zL hp ?_;intro cs hcs;obtain ⟨va,rfl,hR⟩:=Xp hcs;obtain ⟨Ap,np,cp,rfl,ia⟩:=hR.args;refine zV ?_;intros;refine zc (YlP h0 (Sl.nil (A:=none) (c:=0)) ia) ?_;by_cases hz:atomM d all [] x.name x.args=0
  ·rw [hz,show errV 0=.nilIface from rfl];exact vM (h:=by exact Yx (p:=fun a:Atom=>atomM d all [] a.name a.args=0) hh hx hz)
  rw [Yq hz];have e1:Yav (fun a:Atom=>atomM d all [] a.name a.args) p.init=atomM d all [] x.name x.args:=YgW (E:=fun a:Atom=>atomM d all [] a.name a.args) hx hh hz;exact vS (h:=by exact (by rw [W0,if_neg hdn,e1,if_pos hz,resV,Yq hz];rfl))
 have hA:=YQ hh Zi;have e1:Yav (fun a:Atom=>atomM d all [] a.name a.args) p.init=0:=YdO hA;refine zV ?_;refine Ya (Xf (fun gm=>?_));refine zV ?_;refine Yi (fun q σ fz' H'=>∃ (k:Nat) (ms:List (Bs × Value)),k<=m3/\q=m3 - k/\σ=[(53,Zk k),(52,Zk m3),(51,Zc B3 m3 d3),(7,.map (some gm)),(0,Zp gc)]/\fz=fz'/\H'=[(gm,mapS ms)]/\YdT ms ((p.values.take k).map txtV)/\Yij d all [] p.values=Yij d all ((p.values.take k).map txtV) (p.values.drop k)) ⟨0,[],Z0 _,rfl,rfl,rfl,rfl,YdT.nil,rfl⟩ Zw Zb ?_;rintro q σ fz' H' ⟨k,ms,hk,rfl,rfl,rfl,rfl,hS,hV⟩;refine vC ?_ ?_<;>intro c2
 ·obtain ⟨x,hx⟩:=Yc (l:=p.values) (k:=k) Zi;have hxm:=Zm hx;obtain ⟨hx1,hx2⟩:=hvs x hxm;have hdr:p.values.drop k=x::p.values.drop (k+1):=by
   rw [List.drop_eq_getElem_cons Zi,(Zg hx).2]
  rw [hdr,Yij] at hV;refine vI i3 hx (fun p1 hp=>?_);refine zL hp ?_;intro cs hcs;obtain ⟨va,rfl,hR⟩:=XE hcs;obtain ⟨Ap,np,cp,rfl,ia⟩:=hR.fluent.args;have la:=ia.len;refine zV ?_;intros;refine zc (Yg7 h0 (Sl.nil (A:=none) (c:=0)) ia) ?_;by_cases hz:fluM d all [] x.fluent.name x.fluent.args=0
  ·obtain ⟨f,hf,hfl⟩:=YpO hz;have hfp:=hpf f (fstF_mem hf);have hag:NmsS x.fluent.args:=⟨by omega,hx2⟩;obtain ⟨C,n5,c5,hv5,h5⟩:=(hmf x.fluent.name).2 f hf;rw [hz,show errV 0=.nilIface from rfl];rw [hz,if_neg Zh] at hV;refine zWN ?_;refine YS [_,_] ?_;refine wG ?_;refine WL (v:=.agg #[Zy f.name,Zc C n5 c5,Zk f.lo,Zk f.hi]) hgf ?_ (hv:=by rw [Yhu,hv5];rfl);refine pU ?_;refine Yf (XR (fun gv=>⟨⟨Zd,Zx⟩,?_⟩));refine Ch.hard0 (YP ?_);refine Ch.done ?_;have hout:∀ {z:Int},OutV d x->Yij d all [] p.values=14:=fun ho=>by rw [hV,if_pos ho]
   have hnz:(14:Int)≠0:=by decide
   refine wC ?_ ?_<;>intro c3
   ·have e3:=hout (z:=0) ⟨f,hf,.inl c3⟩;exact vS (h:=by exact (by rw [W0,if_neg hdn,e1,if_neg Zh,e3,if_pos Zh];rfl))
   refine wC ?_ ?_<;>intro c4
   ·have e3:=hout (z:=0) ⟨f,hf,.inr c4⟩;exact vS (h:=by exact (by rw [W0,if_neg hdn,e1,if_neg Zh,e3,if_pos Zh];rfl))
   have hno:¬OutV d x:=by
    rintro ⟨f',hf',h9⟩;rw [hf] at hf';injection hf' with hf'
    subst hf';exact h9.elim c3 c4
   rw [if_neg hno] at hV;refine vc (Yos ia hx1 hag) ?_;refine vG ?_;refine YbU (v:=Zo (decide (txtV x∈(p.values.take k).map txtV))) 2 hS.get ?_;by_cases hm:txtV x∈(p.values.take k).map txtV
   ·rw [if_pos hm] at hV;rw [decide_eq_true hm];exact vS (h:=by exact (by rw [W0,if_neg hdn,e1,if_neg Zh,hV,if_pos Zh];rfl))
   rw [if_neg hm] at hV;rw [decide_eq_false hm];refine vc (Yos ia hx1 hag) ?_;refine zV ?_;refine YA (Xs (pre:=[_,_]) (Zr _) ?_);refine zV ?_;have htk:(p.values.take (k+1)).map txtV=(p.values.take k).map txtV++ [txtV x]:=by rw [List.take_add_one,hx];simp
   exact wP (h:=by exact ⟨k+1,_,by omega,rfl,rfl,rfl,rfl,by rw [htk];exact hS.add (txtV x),by rw [htk];exact hV⟩)
  rw [Yq hz];rw [if_pos hz] at hV;exact vS (h:=by exact (by rw [W0,if_neg hdn,e1,if_neg Zh,hV,if_pos hz,resV,Yq hz];rfl))
 have hk3:k=m3:=by omega
 rw [List.drop_eq_nil_of_le Zi,Yij] at hV;rw [Zl Zi] at hS;refine zVX ?_
 first | refine Wp.freeze Zz (fun fz2 hl2 hm2=>?_) | refine Seq.freeze Zz (fun fz2 hl2 hm2=>?_)
 have h2:=h0.mono hl2;have i42:=i4.mono hl2;have hc2:=hl2 _ _ hc;refine zV ?_;refine Yi (fun q σ fz' H'=>∃ k:Nat,k<=n4/\q=n4 - k/\σ=[(114,Zk k),(113,Zk n4),(112,Zc A4 n4 b4),(7,.map (some gm)),(0,Zp gc)]/\fz2=fz'/\H'=[]/\(∀ i,i<k->∀ f,d.functions[i]?=some f->¬Yfc d.types all (p.values.map txtV) f.name f.params [])) ⟨0,Z0 _,rfl,rfl,rfl,rfl,fun i hi=>absurd hi Zi⟩ Zw Zb ?_;rintro q σ fz' H' ⟨k,hk,rfl,rfl,rfl,rfl,hh⟩;refine vC ?_ ?_<;>intro c3
 ·obtain ⟨x,hx⟩:=Yc (l:=d.functions) (k:=k) Zi;have hxm:=Zm hx;refine vI i42 hx (fun p1 hp=>?_);refine zL hp ?_;intro cs hcs;obtain ⟨va,rfl,hR⟩:=YU hcs;obtain ⟨Ap,np,cp,rfl,ia⟩:=hR.params;have la:=ia.len;have hfp:=hpf x hxm;refine zV ?_;intros
  ((refine zG ?_);refine Xu (Ykh x.params h2 hm2 hS ia (Sl.nil (A:=none) (c:=0)) rfl Zi Zi (hs.f x hxm) ⟨by simp,by simp⟩ hs.o hal) (fun f1=>?_) (fun f1=>?_))
  ·exact vS (h:=by exact (by rw [W0,if_neg hdn,e1,if_neg Zh,hV,if_neg Zh,if_pos ⟨x,hxm,Zt f1⟩];rfl))
  exact vM (h:=by exact Yx (p:=fun f:Function=>¬Yfc d.types all (p.values.map txtV) f.name f.params []) hh hx (Zf f1))
 have hM:=YQ (p:=fun f:Function=>¬Yfc d.types all (p.values.map txtV) f.name f.params []) hh Zi;exact vS (h:=by exact (by rw [W0,if_neg hdn,e1,if_neg Zh,hV,if_neg Zh,if_neg (fun ⟨f,hf,h9⟩=>hM f hf h9)];rfl))
def Ykv (d:Domain) (all:List Param) (p:Problem):Bs × Int:=
 let e:=if d.duratives=[] then formM d all [] p.goal else Yaz d all [] p.goal
 if e≠0 then (wGoalP,e) else (⟨#[]⟩,0)
theorem YmA {e:Int} (he:(if d.duratives=[] then formM d all [] p.goal else Yaz d all [] p.goal)=e) (h:e≠0):resV (Ykv d all p)=.tuple #[Zy wGoalP,errV e]:=by
 simp only [Ykv,he];rw [if_pos h];rfl
theorem YmB {e:Int} (he:(if d.duratives=[] then formM d all [] p.goal else Yaz d all [] p.goal)=e) (h:e=0):resV (Ykv d all p)=.tuple #[Ze,.nilIface]:=by
 simp only [Ykv,he];rw [if_neg (by rw [h];decide)];rfl
theorem cgoal_q (h:CkG fz v d p all) (hW:fW p.goal<=1000000000):
 QFn prog 188 [v] fz (resV (Ykv d all p)):=by
 have h0:=h;obtain ⟨⟨vf,vpp,vg,vo,hck,hF,hPr,hFu,hO⟩,hw⟩:=h;obtain ⟨gc,v1,v2,v3,v4,v5,v6,u1,u2,u3,u4,u5,u6,u7,Aa,na,ca,rfl,hc,hD,hP,hall⟩:=hck;obtain ⟨A6,n6,b6,rfl,i6⟩:=hD.duratives;have hg:=hP.goal;obtain ⟨⟨B0,e0,j0,rfl,_⟩,⟨B1,e1,j1,rfl,_⟩,⟨B2,e2,j2,rfl,_⟩,⟨B3,e3,j3,rfl,_⟩⟩:=hP.goal.sls;have l6:=i6.len;refine qF Tryz.func188 Tryz.ntmps188 (fun w0=>?_);refine vG ?_;refine YG ?_;refine vC ?_ ?_<;>intro x1
 ·have e5:(if d.duratives=[] then formM d all [] p.goal else Yaz d all [] p.goal)=Yaz d all [] p.goal:=if_neg (by intro h9;rw [h9] at l6;simp at l6;omega);refine vG ?_;refine YG ?_;refine vG ?_;refine WM (vs:=[Zy p.goal.op,Zy p.goal.name,Zc B0 e0 j0,Zc B1 e1 j1,Zc B2 e2 j2,Zc B3 e3 j3]) hc ?_;refine vG ?_;refine Ybr (Yg4 h0 (Sl.nil (A:=none) (c:=0)) hg Zi) ?_;by_cases hz:Yaz d all [] p.goal=0
  ·rw [hz,show errV 0=.nilIface from rfl];exact vS (h:=by rw [YmB e5 hz])
  rw [Yq hz];exact vS (h:=by exact (by rw [YmA e5 hz,Yq hz];rfl))
 have e5:(if d.duratives=[] then formM d all [] p.goal else Yaz d all [] p.goal)=formM d all [] p.goal:=if_pos (List.eq_nil_of_length_eq_zero Zi);refine vG ?_;refine WM (vs:=[Zy p.goal.op,Zy p.goal.name,Zc B0 e0 j0,Zc B1 e1 j1,Zc B2 e2 j2,Zc B3 e3 j3]) hc ?_;refine vG ?_;refine Ybr (Yji h0 (Sl.nil (A:=none) (c:=0)) hg Zi) ?_;by_cases hz:formM d all [] p.goal=0
 ·rw [hz,show errV 0=.nilIface from rfl];exact vS (h:=by rw [YmB e5 hz])
 rw [Yq hz];exact vS (h:=by exact (by rw [YmA e5 hz,Yq hz];rfl))
def LargeM (d:Domain) (p:Problem) (all:List Param):Prop:=64<all.length\/64<d.types.length\/64<d.predicates.length\/64<d.functions.length\/64<d.actions.length\/64<d.duratives.length\/LongP p.goal\/(∃ x∈d.predicates,6<x.params.length)\/(∃ x∈d.functions,6<x.params.length)\/(∃ x∈d.actions,LongA x)\/∃ x∈d.duratives,YnU x
theorem large_q {vf vg vo:Value} (h:CkR fz v d p all vf vp vg vo):
 QFn prog 86 [v] fz (Zo (decide (LargeM d p all))):=by
 obtain ⟨gc,v1,v2,v3,v4,v5,v6,u1,u2,u3,u4,u5,u6,u7,Aa,na,ca,rfl,hc,hD,hP,hall⟩:=h;obtain ⟨⟨A1,n1,b1,rfl,i1⟩,⟨A2,n2,b2,rfl,i2⟩,⟨A3,n3,b3,rfl,i3⟩,⟨A4,n4,b4,rfl,i4⟩,⟨A5,n5,b5,rfl,i5⟩,⟨A6,n6,b6,rfl,i6⟩⟩:=hD.sls;have hg:=hP.goal;obtain ⟨⟨B0,e0,q0,rfl,_⟩,⟨B1,e1,q1,rfl,_⟩,⟨B2,e2,q2,rfl,_⟩,⟨B3,e3,q3,rfl,_⟩⟩:=hP.goal.sls;have l1:=i1.len;have l3:=i3.len;have l4:=i4.len;have l5:=i5.len;have l6:=i6.len;have la:=hall.len;refine qF Tryz.func86 Tryz.ntmps86 (fun w0=>?_);refine vG ?_;refine WM (vs:=[Zy d.name,Zc A1 n1 b1,Zc A2 n2 b2,Zc A3 n3 b3,Zc A4 n4 b4,Zc A5 n5 b5,Zc A6 n6 b6]) hc ?_;refine zV ?_;intros;refine zC ?_ ?_<;>intro x0
 ·exact vR (h:=by exact Ym (.inl Zi))
 refine vC ?_ ?_<;>intro x1
 ·exact vR (h:=by exact Ym (.inr (.inl Zi)))
 refine vC ?_ ?_<;>intro x2
 ·exact vR (h:=by exact Ym (.inr (.inr (.inl Zi))))
 refine vC ?_ ?_<;>intro x3
 ·exact vR (h:=by exact Ym (.inr (.inr (.inr (.inl Zi)))))
 refine vC ?_ ?_<;>intro x4
 ·exact vR (h:=by exact Ym (.inr (.inr (.inr (.inr (.inl Zi))))))
 refine vC ?_ ?_<;>intro x5
 ·exact vR (h:=by exact Ym (.inr (.inr (.inr (.inr (.inr (.inl Zi)))))))
 refine zVX ?_;refine Yy ?_;refine zVX ?_;intros;rename_i g3 g4
 first | refine Wp.freeze Zz (fun fz2 hl2 hb2=>?_) | refine Seq.freeze Zz (fun fz2 hl2 hb2=>?_)
 have hb:YcE fz2 g4:=hb2;have hc2:=hl2 _ _ hc;have hg2:=hg.mono hl2;have j3:=i3.mono hl2;have j4:=i4.mono hl2;have j5:=i5.mono hl2;have j6:=i6.mono hl2;refine vG ?_;refine WM (vs:=[Zy p.goal.op,Zy p.goal.name,Zc B0 e0 q0,Zc B1 e1 q1,Zc B2 e2 q2,Zc B3 e3 q3]) hc2 ?_;refine vb (YhY hg2) (fun f6=>?_) (fun f6=>?_)
 ·exact vR (h:=by exact Ym (.inr (.inr (.inr (.inr (.inr (.inr (.inl (Zt f6)))))))))
 refine vG ?_;refine YG ?_;refine vG ?_;refine Xu (Yds (cap:=[Zp g4]) (p:=(fun x:Predicate=>6<x.params.length)) j3 (fun x hx cs hcs=>large2_q hb hcs)) (fun f7=>?_) (fun f7=>?_)
 ·exact vR (h:=by exact Ym (.inr (.inr (.inr (.inr (.inr (.inr (.inr (.inl (Zt f7))))))))))
 refine vG ?_;refine YG ?_;refine vG ?_;refine Xu (YdR (cap:=[Zp g4]) (p:=(fun x:Function=>6<x.params.length)) j4 (fun x hx cs hcs=>large3_q hb hcs)) (fun f8=>?_) (fun f8=>?_)
 ·exact vR (h:=by exact Ym (.inr (.inr (.inr (.inr (.inr (.inr (.inr (.inr (.inl (Zt f8)))))))))))
 refine vG ?_;refine YG ?_;refine vG ?_;refine Xu (Ycb (cap:=[Zp g4]) (p:=LongA) j5 (fun x hx cs hcs=>large4_q hb hcs)) (fun f9=>?_) (fun f9=>?_)
 ·exact vR (h:=by exact Ym (.inr (.inr (.inr (.inr (.inr (.inr (.inr (.inr (.inr (.inl (Zt f9))))))))))))
 refine vG ?_;refine YG ?_;refine vG ?_;refine Yu (YbB (cap:=[Zp g4]) (p:=YnU) j6 (fun x hx cs hcs=>large5_q hb hcs)) ?_;refine zV ?_
 (exact ret1 rfl rfl Zb (by
  by_cases h9:∃ x∈d.duratives,YnU x
  ·rw [decide_eq_true h9,decide_eq_true (show LargeM d p all from (.inr (.inr (.inr (.inr (.inr (.inr (.inr (.inr (.inr (.inr h9)))))))))))]
  rw [decide_eq_false h9,decide_eq_false (show ¬LargeM d p all from fun h0=>by
   rcases h0 with h0 | h0 | h0 | h0 | h0 | h0 | h0 | h0 | h0 | h0 | h0
   ·exact x0 Zi
   ·exact x1 Zi
   ·exact x2 Zi
   ·exact x3 Zi
   ·exact x4 Zi
   ·exact x5 Zi
   ·exact Zf f6 h0
   ·exact Zf f7 h0
   ·exact Zf f8 h0
   ·exact Zf f9 h0
   exact h9 h0)]))
def Once {α:Type} (nm:α->Bs) (l:List α):Prop:=∀ (i j:Nat) (x y:α),i<j->l[i]?=some x->l[j]?=some y->nm x≠nm y
def MapH {α:Type} (nm:α->Bs) (V:α->Value->Prop) (m:List (Bs × Value)) (l:List α) (k:Nat):Prop:=∀ x,((∀ i y,i<k->l[i]?=some y->nm y≠x)->valS m x=none)/\∀ i y,i<k->l[i]?=some y->nm y=x->∃ v,valS m x=some v/\V y v
theorem MapH.zero {nm:α->Bs} {V:α->Value->Prop}:MapH nm V [] l 0:=fun x=>⟨fun _=>rfl,fun i y hi=>absurd hi Zi⟩
theorem MapH.add {nm:α->Bs} {V:α->Value->Prop} {y:α} (h:MapH nm V m l k) (ho:Once nm l) (hy:l[k]?=some y) (hv:V y v):MapH nm V (updS m (nm y) v) l (k+1):=fun x=>by
 constructor
 ·intro hn;have h1:nm y≠x:=hn k y Zi hy;rw [Ycn,if_neg (fun e=>h1 e.symm)];exact (h x).1 (fun i z hi hz=>hn i z Zi hz)
 intro i z hi hz he;by_cases hik:i=k
 ·subst hik;rw [hy] at hz;injection hz with hz;subst hz
  exact ⟨v,by rw [Ycn,if_pos he.symm],hv⟩
 have h2:=ho i k z y Zi hz hy;rw [Ycn,if_neg (fun e=>h2 (by rw [he,e]))];exact (h x).2 i z Zi hz he
theorem MapH.mono {nm:α->Bs} {V V':α->Value->Prop} (h:MapH nm V m l k) (hV:∀ y v,V y v->V' y v):MapH nm V' m l k:=fun x=>⟨(h x).1,fun i y hi hy he=>by obtain ⟨v,h1,h2⟩:=(h x).2 i y hi hy he;exact ⟨v,h1,hV y v h2⟩⟩
def VPred (fz:FZ) (y:Predicate) (v:Value):Prop:=∃ A n c,v=Zc A n c/\Sl paramL fz A n c y.params
def VFun (fz:FZ) (y:Function) (v:Value):Prop:=∃ A n c,v=.agg #[Zy y.name,Zc A n c,Zk y.lo,Zk y.hi]/\Sl paramL fz A n c y.params
def VObj (y:Param) (v:Value):Prop:=v=Zy y.typ
theorem YkE {nm:α->Bs} {x:Bs} (h:(l.find? fun p=>decide (nm p=x))=none):∀ i y,i<l.length->l[i]?=some y->nm y≠x:=fun i y _ hy he=>by
 have:=List.find?_eq_none.1 h y (Zm hy);simp [he] at this
theorem YkD {nm:α->Bs} {x:Bs} {y:α} (h:(l.find? fun p=>decide (nm p=x))=some y):∃ i,i<l.length/\l[i]?=some y/\nm y=x:=by
 obtain ⟨i,hi⟩:=List.getElem?_of_mem (List.mem_of_find?_eq_some h);exact ⟨i,(Zg hi).1,hi,by have:=List.find?_some h;simpa using this⟩
theorem prdR_of {l:List Predicate} (hg:fz g=some (mapS m)) (h:MapH (·.name) (VPred fz) m l l.length):PrdR fz (.map (some g)) l:=⟨g,m,rfl,hg,fun x=>⟨fun hn=>(h x).1 (YkE (nm:=fun p:Predicate=>p.name) hn),fun y hy=>by
 obtain ⟨i,h1,h2,h3⟩:=YkD (nm:=fun p:Predicate=>p.name) hy;obtain ⟨v,h4,A,n,c,rfl,h5⟩:=(h x).2 i y h1 h2 h3;exact ⟨A,n,c,h4,h5⟩⟩⟩
theorem funR_of {l:List Function} (hg:fz g=some (mapS m)) (h:MapH (·.name) (VFun fz) m l l.length):FunR fz (.map (some g)) l:=⟨g,m,rfl,hg,fun x=>⟨fun hn=>(h x).1 (YkE (nm:=fun p:Function=>p.name) hn),fun y hy=>by
 obtain ⟨i,h1,h2,h3⟩:=YkD (nm:=fun p:Function=>p.name) hy;obtain ⟨v,h4,A,n,c,rfl,h5⟩:=(h x).2 i y h1 h2 h3;exact ⟨A,n,c,h4,h5⟩⟩⟩
theorem tyF_none {l:List Param} {x:Bs} (h:tyF l x=none):∀ i y,i<l.length->l[i]?=some y->y.name≠x:=by
 induction l with
 | nil=>intro i y hi;simp at hi
 | cons p r ih=>
  rw [tyF] at h;by_cases h1:x=p.name
  ·rw [if_pos h1] at h;cases h
  rw [if_neg h1] at h;intro i y hi hy;cases i with
  | zero=>simp at hy;subst hy;exact fun e=>h1 e.symm
  | succ i=>exact ih h i y (by simpa using hi) (by simpa using hy)
theorem tyF_at {l:List Param} {x u:Bs} (h:tyF l x=some u):∃ i y,i<l.length/\l[i]?=some y/\y.name=x/\y.typ=u:=by
 induction l with
 | nil=>cases h
 | cons p r ih=>
  rw [tyF] at h;by_cases h1:x=p.name
  ·rw [if_pos h1] at h;injection h with h;exact ⟨0,p,by simp,rfl,h1.symm,h⟩
  rw [if_neg h1] at h;obtain ⟨i,y,h2,h3,h4,h5⟩:=ih h;exact ⟨i+1,y,by simpa using h2,by simpa using h3,h4,h5⟩
theorem objR_of {l:List Param} (hg:fz g=some (mapS m)) (h:MapH (·.name) VObj m l l.length):ObjR fz (.map (some g)) l:=⟨g,m,rfl,hg,fun x=>by
 cases hr:tyF l x with
 | none=>rw [(h x).1 (tyF_none hr)];rfl
 | some u=>
  obtain ⟨i,y,h1,h2,h3,h4⟩:=tyF_at hr;obtain ⟨v,h5,h6⟩:=(h x).2 i y h1 h2 h3;rw [h5,show v=Zy y.typ from h6,h4];rfl⟩
theorem Yqb {gc:Nat} {vf:Value} {Aa:Option Addr} {na ca:Nat} (hD:DomainR fz d v1 v2 v3 v4 v5 v6) (hall:Sl paramL fz Aa na ca all)
 (op:Once (·.name) d.predicates) (of:Once (·.name) d.functions) (oo:Once (·.name) all):
 GFn prog 185 [Zp gc] fz [(gc,Zu #[Zy d.name,v1,v2,v3,v4,v5,v6,Zy p.name,Zy p.domain,u1,u2,u3,Zy p.goal.op,Zy p.goal.name,u4,u5,u6,u7,vf,.map none,.map none,.map none,Zc Aa na ca] 185)]
  (fun v fz' H'=>v=.tuple #[]/\fz=fz'/\∃ go gg gp m1 m2 m3,H'=[(go,mapS m3),(gg,mapS m2),(gp,mapS m1),(gc,Zu #[Zy d.name,v1,v2,v3,v4,v5,v6,Zy p.name,Zy p.domain,u1,u2,u3,Zy p.goal.op,Zy p.goal.name,u4,u5,u6,u7,vf,.map (some gp),.map (some gg),.map (some go),Zc Aa na ca] 185)]/\
   MapH (·.name) (VPred fz) m1 d.predicates d.predicates.length/\MapH (·.name) (VFun fz) m2 d.functions d.functions.length/\MapH (·.name) VObj m3 all all.length):=by
 obtain ⟨⟨A1,n1,b1,rfl,i1⟩,⟨A2,n2,b2,rfl,i2⟩,⟨A3,n3,b3,rfl,i3⟩,⟨A4,n4,b4,rfl,i4⟩,⟨A5,n5,b5,rfl,i5⟩,⟨A6,n6,b6,rfl,i6⟩⟩:=hD.sls;have l3:=i3.len;have l4:=i4.len;have la:=hall.len;have s3:=i3.short;have s4:=i4.short;have sa:=hall.short;refine zF Tryz.func185 Tryz.ntmps185 (fun w0=>?_);refine zV ?_;refine Ya (Xf (fun gp=>?_));refine Ya (Xf (fun gg=>?_));refine Ya (Xf (fun go=>?_));refine zV ?_;refine Yi (fun q σ fz' H'=>∃ (k:Nat) (m:List (Bs × Value)),k<=n3/\q=n3 - k/\σ=[(26,Zk k),(25,Zk n3),(24,Zc A3 n3 b3),(0,Zp gc)]/\fz=fz'/\H'=[(go,mapS []),(gg,mapS []),(gp,mapS m),(gc,Zu #[Zy d.name,Zc A1 n1 b1,Zc A2 n2 b2,Zc A3 n3 b3,Zc A4 n4 b4,Zc A5 n5 b5,Zc A6 n6 b6,Zy p.name,Zy p.domain,u1,u2,u3,Zy p.goal.op,Zy p.goal.name,u4,u5,u6,u7,vf,.map (some gp),.map (some gg),.map (some go),Zc Aa na ca] 185)]/\MapH (·.name) (VPred fz) m d.predicates k) ⟨0,[],Z0 _,rfl,rfl,rfl,rfl,MapH.zero⟩ Zw Zb ?_;rintro q σ fz' H' ⟨k,m,hk,rfl,rfl,rfl,rfl,hm⟩;refine vC ?_ ?_<;>intro c24
 ·obtain ⟨x,hx⟩:=Yc (l:=d.predicates) (k:=k) Zi;refine vI i3 hx (fun p1 hp=>?_);refine zL hp ?_;intro cs hcs;obtain ⟨va,rfl,hR⟩:=Xo hcs;obtain ⟨Ap,np,cp,rfl,ip⟩:=hR.params;refine zWN ?_;intros;refine YS [_,_,_,_,_] ?_;refine zW ?_;refine pU ?_;refine Ch.hard0 (Xs (pre:=[_,_,_]) (Zr _) ?_);refine Ch.done ?_;exact vP (h:=by exact ⟨k+1,_,by omega,rfl,rfl,rfl,rfl,hm.add op hx ⟨_,_,_,rfl,ip⟩⟩)
 have hk3:k=d.predicates.length:=by omega
 subst hk3;obtain ⟨m1,rfl⟩:∃ z,z=m:=⟨_,rfl⟩;have hm1:=hm;refine zV ?_;refine Yi (fun q σ fz' H'=>∃ (k:Nat) (m:List (Bs × Value)),k<=n4/\q=n4 - k/\σ=[(45,Zk k),(44,Zk n4),(43,Zc A4 n4 b4),(0,Zp gc)]/\fz=fz'/\H'=[(go,mapS []),(gg,mapS m),(gp,mapS m1),(gc,Zu #[Zy d.name,Zc A1 n1 b1,Zc A2 n2 b2,Zc A3 n3 b3,Zc A4 n4 b4,Zc A5 n5 b5,Zc A6 n6 b6,Zy p.name,Zy p.domain,u1,u2,u3,Zy p.goal.op,Zy p.goal.name,u4,u5,u6,u7,vf,.map (some gp),.map (some gg),.map (some go),Zc Aa na ca] 185)]/\MapH (·.name) (VFun fz) m d.functions k) ⟨0,[],Z0 _,rfl,rfl,rfl,rfl,MapH.zero⟩ Zw Zb ?_;rintro q σ fz' H' ⟨k,m,hk,rfl,rfl,rfl,rfl,hm⟩;refine vC ?_ ?_<;>intro c43
 ·obtain ⟨x,hx⟩:=Yc (l:=d.functions) (k:=k) Zi;refine vI i4 hx (fun p1 hp=>?_);refine zL hp ?_;intro cs hcs;obtain ⟨va,rfl,hR⟩:=YU hcs;obtain ⟨Ap,np,cp,rfl,ip⟩:=hR.params;refine zWN ?_;intros;refine YS [_,_,_,_,_] ?_;refine zW ?_;refine pU ?_;refine Ch.hard0 (Xs (pre:=[_,_]) (Zr _) ?_);refine Ch.done ?_;exact vP (h:=by exact ⟨k+1,_,by omega,rfl,rfl,rfl,rfl,hm.add of hx ⟨_,_,_,rfl,ip⟩⟩)
 have hk4:k=d.functions.length:=by omega
 subst hk4;obtain ⟨m2,rfl⟩:∃ z,z=m:=⟨_,rfl⟩;have hm2:=hm;refine zV ?_;refine Yi (fun q σ fz' H'=>∃ (k:Nat) (m:List (Bs × Value)),k<=na/\q=na - k/\σ=[(62,Zk k),(61,Zk na),(60,Zc Aa na ca),(0,Zp gc)]/\fz=fz'/\H'=[(go,mapS m),(gg,mapS m2),(gp,mapS m1),(gc,Zu #[Zy d.name,Zc A1 n1 b1,Zc A2 n2 b2,Zc A3 n3 b3,Zc A4 n4 b4,Zc A5 n5 b5,Zc A6 n6 b6,Zy p.name,Zy p.domain,u1,u2,u3,Zy p.goal.op,Zy p.goal.name,u4,u5,u6,u7,vf,.map (some gp),.map (some gg),.map (some go),Zc Aa na ca] 185)]/\MapH (·.name) VObj m all k) ⟨0,[],Z0 _,rfl,rfl,rfl,rfl,MapH.zero⟩ Zw Zb ?_;rintro q σ fz' H' ⟨k,m,hk,rfl,rfl,rfl,rfl,hm⟩;refine vC ?_ ?_<;>intro c60
 ·obtain ⟨x,hx⟩:=Yc (l:=all) (k:=k) Zi;refine vI hall hx (fun p1 hp=>?_);refine zL hp ?_;intro cs hcs;obtain ⟨rfl,hR⟩:=Yz hcs;refine zWN ?_;intros;refine YS [_,_,_,_,_] ?_;refine zW ?_;refine pU ?_;refine Ch.hard0 (Xs (pre:=[_]) (Zr _) ?_);refine Ch.done ?_;exact vP (h:=by exact ⟨k+1,_,by omega,rfl,rfl,rfl,rfl,hm.add oo hx rfl⟩)
 have hk5:k=all.length:=by omega
 subst hk5;refine zV ?_;exact YoG rfl Zb ⟨rfl,rfl,go,gg,gp,m1,m2,_,rfl,hm1,hm2,hm⟩
end Go.Proofs.YtacfpcbladaohaaGreatDoor
