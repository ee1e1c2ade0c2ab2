/- The texts QLn, QAt, QIn, UP, UK, UL, UM, UJ, UN, UO, laid together. Conditions: none. -/
import Derived.Test.YtbdpaoikccabhaaGreatDoorEAS
set_option linter.all false
set_option maxHeartbeats 32000000
noncomputable section
set_option maxRecDepth 20000
open Go.Lx Go.RowKit
attribute [local instance 10] Classical.propDecidable
open Go.Proofs.Tryz (prog)
namespace Go.Proofs.YtbdpaoikccabhaaGreatDoor
variable {α:Type} {d:Domain} {p:Problem} {fz:FZ} {u1 u2 u3 u4 u5 u6 u7 v1 v2 v3 v4 v5 v6 va:Value} {k j i g n:Nat} {cs:List Value} {M:Mn} {t:TypeId} {l:List α} {L:Lay α}
structure ChkOk (d:Domain) (p:Problem):Prop where
 dok:DomOk d/\XVal (domX d)
 pok:FVal p.goal/\PrbOk p/\XVal (prbX p)
 lim:¬LargeM d p (objsM d p)
 typ:newM d.types=0
 step:∀ i,i<8->(stepM d (objsM d p) p i).2=0
theorem YgY {f:Nat->Bs × Int}:∀ (n k:Nat),(Yep f n k).2=0->∀ i,i<n->(f (k+i)).2=0
 | 0,_,_,i,hi=>absurd hi Zi
 | n+1,k,h,i,hi=>by
  rw [Yep] at h;by_cases h0:(f k).2=0
  ·rw [if_pos h0] at h;cases i with
   | zero=>exact h0
   | succ i=>
    have:=YgY n (k+1) h i Zi
    rwa [show k+1+i=k+(i+1) by omega] at this
  rw [if_neg h0] at h;exact absurd h h0
theorem Yh5 (h:(Y4 d p).2=0):ChkOk d p:=by
 unfold Y4 at h;split at h
 ·cases h
 rename_i h1;split at h
 ·cases h
 rename_i h2;split at h
 ·cases h
 rename_i h3;split at h
 ·rename_i h4;exact absurd h h4
 rename_i h4;exact ⟨Classical.byContradiction h1,Classical.byContradiction h2,h3,Classical.byContradiction h4,fun i hi=>by
  have:=YgY 8 0 h i hi
  rwa [Nat.zero_add] at this⟩
theorem objs_len (h:¬LargeM d p (objsM d p)):d.constants.length+p.objects.length<=2000000:=by
 have h1:=(YgE h).1.o;unfold objsM at h1;rw [List.length_append] at h1;omega
def YnW (S:List Atom) (a:Atom):List Atom:=if a∈S then S else S++ [a]
def YfL (l:List Atom):List Atom:=l.foldl YnW []
def chgK (d:Domain) (x:Bs):Bool:=decide (∃ q∈d.predicates,q.name=x) && chgM d x
def knM (d:Domain) (p:Problem):Kn:=⟨d.types,objsM d p,YfL p.init,chgK d⟩
theorem Ypm (hM:MaxF fz) (hD:DomainR fz d v1 v2 v3 v4 v5 v6) (hP:ProblemR fz p u1 u2 u3 u4 u5 u6 u7) (hS:ChkS d p) (hA:(Y4 d p).2=0->∀ a∈p.init,AtmOk a):
 GFn prog 18 [ZD d v1 v2 v3 v4 v5 v6,ZP p u1 u2 u3 u4 u5 u6 u7] fz []
  (fun r fz' H'=>H'=[]/\∃ vk,r=.tuple #[vk,errV (Y4 d p).2]/\((Y4 d p).2=0->KnD fz' vk (knM d p) d)):=by
 have hD0:=hD;have hP0:=hP;obtain ⟨⟨A1,n1,b1,rfl,i1⟩,⟨A2,n2,b2,rfl,i2⟩,⟨A3,n3,b3,rfl,i3⟩,⟨A4,n4,b4,rfl,i4⟩,⟨A5,n5,b5,rfl,i5⟩,⟨A6,n6,b6,rfl,i6⟩⟩:=hD.sls;obtain ⟨⟨B1,m1,d1,rfl,j1⟩,⟨B2,m2,d2,rfl,j2⟩,⟨B3,m3,d3,rfl,j3⟩⟩:=hP.sls;obtain ⟨⟨B4,m4,d4,rfl,_⟩,⟨B5,m5,d5,rfl,_⟩,⟨B6,m6,d6,rfl,_⟩,⟨B7,m7,d7,rfl,_⟩⟩:=hP.goal.sls;have l3:=i3.len;have s3:=i3.short;have lj2:=j2.len;have sj2:=j2.short;refine zF Tryz.func18 Tryz.ntmps18 (fun w0=>?_);refine pX (fun g2=>?_);refine pY (fun g3=>?_);refine zWO ?_;refine vc (Yql hM hD0 hP0 hS) ?_;rw [show resV (Y4 d p)=.tuple #[Zy (Y4 d p).1,errV (Y4 d p).2] from rfl];by_cases hc:(Y4 d p).2=0;rotate_left 1
 ·rw [YD hc];exact vS (h:=by exact ⟨rfl,_,rfl,fun h=>absurd h hc⟩)
 rw [hc,show errV 0=.nilIface from rfl];have hok:=Yh5 hc;have hAt:=hA hc;obtain ⟨hL,hT64,hp6⟩:=YgE hok.lim;have htok:∀ q∈d.types,Xk q.name/\YdE q.typ:=fun q hq=>hok.dok.1.2.1 q hq
 refine vK (q:=YiZ hM hD0 hT64 htok) (h:=fun v7 fz7 H7 hle7 hR7=>?_);obtain ⟨rfl,vf,rfl,hvf⟩:=hR7;obtain ⟨gf,gm,evf,hf1,hf2⟩:=hvf hok.typ;subst evf;have hF:ForR fz7 (Zp gf) d.types:=⟨gf,gm,rfl,hf1,hf2⟩;have hW:WFT d.types:=YiJ hok.typ (fun q hq=>(YaV i1 q hq).2) hT64;rw [hok.typ,show errV 0=.nilIface from rfl];have hD7:=hD0.mono hle7;have hP7:=hP0.mono hle7;refine zWN ?_
 first | refine Xe (fun σ fz' H'=>∃ (gk gc gi:Nat) (Aa:Option Addr) (ca:Nat),σ=[(10,Zp gk),(3,Zp g3),(2,Zp g2)]/\Le fz7 fz'/\H'=[(gk,Zu #[Zy d.name,Zc A1 n1 b1,Zc A2 n2 b2,Zc A3 n3 b3,Zc A4 n4 b4,Zc A5 n5 b5,Zc A6 n6 b6,Zy p.name,Zy p.domain,Zc B1 m1 d1,Zc B2 m2 d2,Zc B3 m3 d3,Zy p.goal.op,Zy p.goal.name,Zc B4 m4 d4,Zc B5 m5 d5,Zc B6 m6 d6,Zc B7 m7 d7,Zp gf,Zc Aa (d.constants.length+p.objects.length) ca,.map (some gc),.map (some gi)] 127),(gc,mapS []),(gi,mapS []),(g3,Zu #[Zy p.name,Zy p.domain,Zc B1 m1 d1,Zc B2 m2 d2,Zc B3 m3 d3,Zy p.goal.op,Zy p.goal.name,Zc B4 m4 d4,Zc B5 m5 d5,Zc B6 m6 d6,Zc B7 m7 d7] 37),(g2,Zu #[Zy d.name,Zc A1 n1 b1,Zc A2 n2 b2,Zc A3 n3 b3,Zc A4 n4 b4,Zc A5 n5 b5,Zc A6 n6 b6] 28)]/\Sl paramL fz' Aa (d.constants.length+p.objects.length) ca (objsM d p)) ?_ ?_ | refine YN (Xe (fun σ fz' H'=>∃ (gk gc gi:Nat) (Aa:Option Addr) (ca:Nat),σ=[(10,Zp gk),(3,Zp g3),(2,Zp g2)]/\Le fz7 fz'/\H'=[(gk,Zu #[Zy d.name,Zc A1 n1 b1,Zc A2 n2 b2,Zc A3 n3 b3,Zc A4 n4 b4,Zc A5 n5 b5,Zc A6 n6 b6,Zy p.name,Zy p.domain,Zc B1 m1 d1,Zc B2 m2 d2,Zc B3 m3 d3,Zy p.goal.op,Zy p.goal.name,Zc B4 m4 d4,Zc B5 m5 d5,Zc B6 m6 d6,Zc B7 m7 d7,Zp gf,Zc Aa (d.constants.length+p.objects.length) ca,.map (some gc),.map (some gi)] 127),(gc,mapS []),(gi,mapS []),(g3,Zu #[Zy p.name,Zy p.domain,Zc B1 m1 d1,Zc B2 m2 d2,Zc B3 m3 d3,Zy p.goal.op,Zy p.goal.name,Zc B4 m4 d4,Zc B5 m5 d5,Zc B6 m6 d6,Zc B7 m7 d7] 37),(g2,Zu #[Zy d.name,Zc A1 n1 b1,Zc A2 n2 b2,Zc A3 n3 b3,Zc A4 n4 b4,Zc A5 n5 b5,Zc A6 n6 b6] 28)]/\Sl paramL fz' Aa (d.constants.length+p.objects.length) ca (objsM d p)) ?_ ?_)
 ·refine Yay [] [_,_] ?_;refine zW ?_;refine pT ?_;refine Po.three ?_ ?_ ?_
  ·refine Ye (Does.post (Yk [] [_,_] Zz (Ybp hD7 hP7 hS.dsm.constants hS.psm.objects) (fun v8 fz8' H8 hle8' hR8=>⟨[_,_],H8,Zq,fun fz8 hle8'' hf8=>?_⟩)));obtain ⟨Aa,ca,rfl,hall8⟩:=hR8.sl hle8'' hf8 (by have:=hS.dsm.constants;have:=hS.psm.objects;omega);have hle8:=hle8'.trans hle8'';refine ⟨⟨hle8,Zx⟩,?_⟩;refine YB ?_ ?_
   ·refine Ye (Xx (fun gc=>⟨⟨hle8,Zx⟩,?_⟩));refine Yb ?_;refine Ye (Xx (fun gi=>⟨⟨hle8,Zx⟩,?_⟩));refine Yb ?_;refine PoS.qk ⟨hle8,Zx⟩ (XH ?_);refine Yb ?_;refine Ye (Does.perm (H':=[(gc,mapS []),(gi,mapS []),_,_]) (List.Perm.swap _ _ _) (Ydv _ (fun gk=>⟨⟨hle8,Zx⟩,?_⟩)));refine Yb ?_;refine PoS.qk ⟨hle8,Zx⟩ (YR ?_);refine Po.done ?_;exact wN (h:=by exact ⟨gk,gc,gi,Aa,ca,rfl,hle8,rfl,hall8⟩)
   refine Ye (Xx (fun gi=>⟨⟨hle8,Zx⟩,?_⟩));refine Yb ?_;refine Ye (Xx (fun gc=>⟨⟨hle8,Zx⟩,?_⟩));refine Yb ?_;refine PoS.qk ⟨hle8,Zx⟩ (XH ?_);refine Yb ?_;refine Ye ((Ydv _ (fun gk=>⟨⟨hle8,Zx⟩,?_⟩)));refine Yb ?_;refine PoS.qk ⟨hle8,Zx⟩ (YR ?_);refine Po.done ?_;exact wN (h:=by exact ⟨gk,gc,gi,Aa,ca,rfl,hle8,rfl,hall8⟩)
  ·refine Ye (Xx (fun gc=>⟨⟨Zd,Zx⟩,?_⟩));refine YB ?_ ?_
   ·refine Ye (Does.post (Yk [] [_,_,_] Zz (Ybp hD7 hP7 hS.dsm.constants hS.psm.objects) (fun v8 fz8' H8 hle8' hR8=>⟨[_,_,_],H8,Zq,fun fz8 hle8'' hf8=>?_⟩)));obtain ⟨Aa,ca,rfl,hall8⟩:=hR8.sl hle8'' hf8 (by have:=hS.dsm.constants;have:=hS.psm.objects;omega);have hle8:=hle8'.trans hle8'';refine ⟨⟨hle8,Zx⟩,?_⟩;refine Yb ?_;refine Ye (Xx (fun gi=>⟨⟨hle8,Zx⟩,?_⟩));refine Yb ?_;refine PoS.qk ⟨hle8,Zx⟩ (XH ?_);refine Yb ?_;refine Ye (Does.perm (H':=[(gc,mapS []),(gi,mapS []),_,_]) (List.Perm.swap _ _ _) (Ydv _ (fun gk=>⟨⟨hle8,Zx⟩,?_⟩)));refine Yb ?_;refine PoS.qk ⟨hle8,Zx⟩ (YR ?_);refine Po.done ?_;exact wN (h:=by exact ⟨gk,gc,gi,Aa,ca,rfl,hle8,rfl,hall8⟩)
   refine Ye (Xx (fun gi=>⟨⟨Zd,Zx⟩,?_⟩));refine Yb ?_;refine Ye (Does.post (Yk [] [_,_,_,_] Zz (Ybp hD7 hP7 hS.dsm.constants hS.psm.objects) (fun v8 fz8' H8 hle8' hR8=>⟨[_,_,_,_],H8,Zq,fun fz8 hle8'' hf8=>?_⟩)));obtain ⟨Aa,ca,rfl,hall8⟩:=hR8.sl hle8'' hf8 (by have:=hS.dsm.constants;have:=hS.psm.objects;omega);have hle8:=hle8'.trans hle8'';refine ⟨⟨hle8,Zx⟩,?_⟩;refine Yb ?_;refine PoS.qk ⟨hle8,Zx⟩ (XH ?_);refine Yb ?_;refine Ye (Does.perm (H':=[(gc,mapS []),(gi,mapS []),_,_]) (List.Perm.swap _ _ _) (Ydv _ (fun gk=>⟨⟨hle8,Zx⟩,?_⟩)));refine Yb ?_;refine PoS.qk ⟨hle8,Zx⟩ (YR ?_);refine Po.done ?_;exact wN (h:=by exact ⟨gk,gc,gi,Aa,ca,rfl,hle8,rfl,hall8⟩)
  refine Ye (Xx (fun gi=>⟨⟨Zd,Zx⟩,?_⟩));refine YB ?_ ?_
  ·refine Ye (Does.post (Yk [] [_,_,_] Zz (Ybp hD7 hP7 hS.dsm.constants hS.psm.objects) (fun v8 fz8' H8 hle8' hR8=>⟨[_,_,_],H8,Zq,fun fz8 hle8'' hf8=>?_⟩)));obtain ⟨Aa,ca,rfl,hall8⟩:=hR8.sl hle8'' hf8 (by have:=hS.dsm.constants;have:=hS.psm.objects;omega);have hle8:=hle8'.trans hle8'';refine ⟨⟨hle8,Zx⟩,?_⟩;refine Yb ?_;refine Ye (Xx (fun gc=>⟨⟨hle8,Zx⟩,?_⟩));refine Yb ?_;refine PoS.qk ⟨hle8,Zx⟩ (XH ?_);refine Yb ?_;refine Ye ((Ydv _ (fun gk=>⟨⟨hle8,Zx⟩,?_⟩)));refine Yb ?_;refine PoS.qk ⟨hle8,Zx⟩ (YR ?_);refine Po.done ?_;exact wN (h:=by exact ⟨gk,gc,gi,Aa,ca,rfl,hle8,rfl,hall8⟩)
  refine Ye (Xx (fun gc=>⟨⟨Zd,Zx⟩,?_⟩));refine Yb ?_;refine Ye (Does.post (Yk [] [_,_,_,_] Zz (Ybp hD7 hP7 hS.dsm.constants hS.psm.objects) (fun v8 fz8' H8 hle8' hR8=>⟨[_,_,_,_],H8,Zq,fun fz8 hle8'' hf8=>?_⟩)));obtain ⟨Aa,ca,rfl,hall8⟩:=hR8.sl hle8'' hf8 (by have:=hS.dsm.constants;have:=hS.psm.objects;omega);have hle8:=hle8'.trans hle8'';refine ⟨⟨hle8,Zx⟩,?_⟩;refine Yb ?_;refine PoS.qk ⟨hle8,Zx⟩ (XH ?_);refine Yb ?_;refine Ye ((Ydv _ (fun gk=>⟨⟨hle8,Zx⟩,?_⟩)));refine Yb ?_;refine PoS.qk ⟨hle8,Zx⟩ (YR ?_);refine Po.done ?_;exact wN (h:=by exact ⟨gk,gc,gi,Aa,ca,rfl,hle8,rfl,hall8⟩)
 rintro σ fz8 H' ⟨gk,gc,gi,Aa,ca,rfl,hle8,rfl,hall8⟩;have hx8:=hle7.trans hle8;have hD8:=hD0.mono hx8;have i38:=i3.mono hx8;have j28:=j2.mono hx8;refine zW ?_;refine Yn (fun q σ fz' H'=>∃ (k:Nat) (m:List (Bs × Value)),k<=n3/\q=n3 - k/\σ=[(45,Zk k),(44,Zk n3),(43,Zc A3 n3 b3),(10,Zp gk),(3,Zp g3),(2,Zp g2)]/\fz8=fz'/\H'=[(gk,Zu #[Zy d.name,Zc A1 n1 b1,Zc A2 n2 b2,Zc A3 n3 b3,Zc A4 n4 b4,Zc A5 n5 b5,Zc A6 n6 b6,Zy p.name,Zy p.domain,Zc B1 m1 d1,Zc B2 m2 d2,Zc B3 m3 d3,Zy p.goal.op,Zy p.goal.name,Zc B4 m4 d4,Zc B5 m5 d5,Zc B6 m6 d6,Zc B7 m7 d7,Zp gf,Zc Aa (d.constants.length+p.objects.length) ca,.map (some gc),.map (some gi)] 127),(gc,mapS m),(gi,mapS []),(g3,Zu #[Zy p.name,Zy p.domain,Zc B1 m1 d1,Zc B2 m2 d2,Zc B3 m3 d3,Zy p.goal.op,Zy p.goal.name,Zc B4 m4 d4,Zc B5 m5 d5,Zc B6 m6 d6,Zc B7 m7 d7] 37),(g2,Zu #[Zy d.name,Zc A1 n1 b1,Zc A2 n2 b2,Zc A3 n3 b3,Zc A4 n4 b4,Zc A5 n5 b5,Zc A6 n6 b6] 28)]/\∀ x,(valS m x).getD (Zo false)=Zo (decide (∃ q∈d.predicates.take k,q.name=x) && chgM d x)) ⟨0,[],Z0 _,rfl,rfl,rfl,rfl,fun x=>by simp [valS,fndS]⟩ Zw Zb ?_;rintro q σ fz9 H' ⟨k,m,hk,rfl,rfl,rfl,rfl,hm⟩;refine wC ?_ ?_<;>intro c1
 ·obtain ⟨x,hx⟩:=Yf (l:=d.predicates) (k:=k) Zi;refine wI i38 hx (fun p1 hp1=>?_);refine zL hp1 ?_;intro cs hcs;obtain ⟨up,rfl,hR⟩:=Wz hcs;obtain ⟨C1,s1,t1,rfl,_⟩:=id hR.params;refine zWN ?_;intros;refine Y6 [_,_,_,_,_,_] ?_;refine wc (static_q hD8) ?_;refine zW ?_;refine pU ?_;refine Ch.hard0 (XG (pre:=[_,_]) (Zr _) ?_);refine Ch.done ?_;refine zW ?_;exact Ws ⟨k+1,updS m x.name (Zo (!(!chgM d x.name))),by omega,rfl,rfl,rfl,rfl,fun y=>by
   rw [Yco];by_cases hy:y=x.name
   ·rw [if_pos hy,hy,List.take_add_one,hx];simp
   rw [if_neg hy,hm y,List.take_add_one,hx]
   congr 2
   refine decide_eq_decide.2 ⟨fun ⟨q,h1,h2⟩=>⟨q,List.mem_append.2 (.inl h1),h2⟩,fun ⟨q,h1,h2⟩=>?_⟩;rcases List.mem_append.1 h1 with h1 | h1
   ·exact ⟨q,h1,h2⟩
   simp at h1;subst h1;exact absurd h2.symm hy⟩ Zi Zw Zb
 rw [Zl (show d.predicates.length<=k by omega)] at hm;refine zW ?_;refine Yn (fun q σ fz' H'=>∃ (k:Nat) (mi:List (Bs × Value)) (S:List Atom),k<=m2/\q=m2 - k/\σ=[(64,Zk k),(63,Zk m2),(62,Zc B2 m2 d2),(10,Zp gk)]/\fz8=fz'/\H'=[(gk,Zu #[Zy d.name,Zc A1 n1 b1,Zc A2 n2 b2,Zc A3 n3 b3,Zc A4 n4 b4,Zc A5 n5 b5,Zc A6 n6 b6,Zy p.name,Zy p.domain,Zc B1 m1 d1,Zc B2 m2 d2,Zc B3 m3 d3,Zy p.goal.op,Zy p.goal.name,Zc B4 m4 d4,Zc B5 m5 d5,Zc B6 m6 d6,Zc B7 m7 d7,Zp gf,Zc Aa (d.constants.length+p.objects.length) ca,.map (some gc),.map (some gi)] 127),(gc,mapS m),(gi,mapS mi)]/\SetM fz' mi S/\(p.init.take k).foldl YnW []=S) ⟨0,[],[],Z0 _,rfl,rfl,rfl,rfl,SetM.nil,rfl⟩ Zw Zb ?_;rintro q σ fz9 H' ⟨j,mi,S,hj,rfl,rfl,rfl,rfl,hSi,hfold⟩;refine wC ?_ ?_<;>intro c2
 ·obtain ⟨a,ha⟩:=Yf (l:=p.init) (k:=j) Zi;have haok:=hAt a (Zm ha);refine wI j28 ha (fun p2 hp2=>?_);refine zL hp2 ?_;intro cs hcs;obtain ⟨va,rfl,hRa⟩:=Xy hcs;obtain ⟨Aa2,na,ca2,rfl,_⟩:=id hRa.args;refine zWN ?_;intros;refine Y6 [_,_] ?_;refine zW ?_;refine pU ?_;refine Yg (Does.perm (H':=[(gi,mapS mi),_,_,_]) (Zq (l₁:=[_]) (l₂:=[_,_,_])) (Does.after (Yk [_] [_,_,_] Zz (add_f hSi hRa haok) (fun v5 fz5 H5 hle5 hR5=>?_))));obtain ⟨rfl,rfl,m5,rfl,hS5⟩:=hR5;refine ⟨_,Zq (l₁:=[_,_,_]) (l₂:=[_]),⟨Zd,Zx⟩,?_⟩;refine Ch.done ?_;exact wP (h:=by exact ⟨j+1,m5,_,by omega,rfl,rfl,rfl,rfl,hS5,by rw [List.take_add_one,ha,List.foldl_append,hfold];rfl⟩)
 rw [Zl (show p.init.length<=j by omega)] at hfold;refine zW ?_;refine ret2F rfl rfl rfl (fun fz3 hle3 hf3=>⟨rfl,_,rfl,fun _=>?_⟩);have hk3:=hf3 _ (.head _);refine ⟨⟨⟨gk,_,_,_,_,_,_,_,_,_,_,_,_,_,_,_,_,_,_,_,Aa,_,ca,gc,gi,m,mi,rfl,hk3,hF.mono (hle8.trans hle3),hall8.mono hle3,hf3 _ (.tail _ (.head _)),hm,hf3 _ (.tail _ (.tail _ (.head _))),?_⟩,hW,?_⟩,gk,_,_,_,rfl,hk3,rfl,rfl,(i5.mono (hx8.trans hle3)).is,(i6.mono (hx8.trans hle3)).is⟩
 ·show SetM fz3 mi (YfL p.init);unfold YfL;rw [hfold];exact hSi.mono hle3
 show (objsM d p).length<=2000000;unfold objsM;rw [List.length_append];exact objs_len hok.lim
structure Apt (d:Domain) (p:Problem):Prop where
 init:∀ a∈p.init,AtmOk a
 sch:SchS (knM d p) d
 os:∀ o∈(knM d p).os,PlnS o.name
 sh:schE (knM d p) d=0->∀ s∈schL (knM d p) d,SSh s
theorem YhY:∀ (l S:List Atom),S.Nodup->(l.foldl YnW S).Nodup
 | [],_,h=>h
 | a::l,S,h=>by
  refine YhY l _ ?_;unfold YnW;split
  ·exact h
  rename_i hn;exact List.nodup_append.2 ⟨h,by simp,fun x hx y hy hxy=>by simp at hy;subst hy;subst hxy;exact hn hx⟩
theorem YgK (l:List Atom):(YfL l).Nodup:=YhY l [] List.nodup_nil
theorem YmP:∀ (l S:List Atom) (a:Atom),a∈l.foldl YnW S↔a∈S\/a∈l
 | [],_,_=>by simp
 | b::l,S,a=>by
  rw [List.foldl_cons,YmP l];unfold YnW;split
  ·rename_i hb;constructor
   ·rintro (h | h)
    ·exact .inl h
    exact .inr (by simp [h])
   rintro (h | h)
   ·exact .inl h
   rcases List.mem_cons.1 h with rfl | h
   ·exact .inl hb
   exact .inr h
  simp [or_assoc]
theorem Yei {l:List Atom} {a:Atom}:a∈YfL l↔a∈l:=by
 unfold YfL;rw [YmP];simp
def Yah (d:Domain) (p:Problem) (S0:List Atom):Int:=if (Y4 d p).2≠0 then (Y4 d p).2 else expE (knM d p) d S0
theorem Yqs (hM:MaxF fz) (hD:DomainR fz d v1 v2 v3 v4 v5 v6) (hP:ProblemR fz p u1 u2 u3 u4 u5 u6 u7) (hS:ChkS d p) (hA:(Y4 d p).2=0->Apt d p):
 GFn prog 8 [ZD d v1 v2 v3 v4 v5 v6,ZP p u1 u2 u3 u4 u5 u6 u7] fz []
  (fun r fz' H'=>H'=[]/\∃ S0,YnY S0 (YfL p.init)/\∃ v,r=.tuple #[v,errV (Yah d p S0)]/\(Yah d p S0≠0->v=Zn)/\(Yah d p S0=0->∃ l,IsSl atomL fz' v l/\l.Perm (expM (knM d p) d S0).S/\Ydd l)):=by
 have hD0:=hD;have hP0:=hP;obtain ⟨⟨A1,n1,b1,rfl,i1⟩,⟨A2,n2,b2,rfl,i2⟩,⟨A3,n3,b3,rfl,i3⟩,⟨A4,n4,b4,rfl,i4⟩,⟨A5,n5,b5,rfl,i5⟩,⟨A6,n6,b6,rfl,i6⟩⟩:=hD.sls;obtain ⟨⟨B1,m1,d1,rfl,j1⟩,⟨B2,m2,d2,rfl,j2⟩,⟨B3,m3,d3,rfl,j3⟩⟩:=hP.sls;obtain ⟨⟨B4,m4,d4,rfl,_⟩,⟨B5,m5,d5,rfl,_⟩,⟨B6,m6,d6,rfl,_⟩,⟨B7,m7,d7,rfl,_⟩⟩:=hP.goal.sls;refine zF Tryz.func8 Tryz.ntmps8 (fun w0=>?_);refine pX (fun g2=>?_);refine pY (fun g3=>?_);refine zWO ?_;refine vK (q:=Ypm hM hD0 hP0 hS (fun h=>(hA h).init)) (h:=fun v4 fz4 H4 hle4 hR4=>?_);obtain ⟨rfl,vk,rfl,hkd⟩:=hR4;by_cases hc:(Y4 d p).2=0;rotate_left 1
 ·rw [YD hc];exact vS (h:=by exact ⟨rfl,YfL p.init,⟨YgK p.init,fun _=>Iff.rfl⟩,_,by rw [Yah,if_pos hc,YD hc];try rfl,fun _=>rfl,fun h=>absurd h (by rw [Yah,if_pos hc];exact hc)⟩)
 rw [hc,show errV 0=.nilIface from rfl];have hap:=hA hc;have hKD:=hkd hc;refine vK (q:=YkB hKD hap.sch hap.os hap.sh) (h:=fun v5 fz5 H5 hle5 hR5=>?_);obtain ⟨rfl,S0,hS0,vr,rfl,hrr⟩:=hR5;have hE:Yah d p S0=expE (knM d p) d S0:=by rw [Yah,if_neg (by rw [hc];decide)]
 by_cases he:expE (knM d p) d S0=0;rotate_left 1
 ·rw [YD he];exact vS (h:=by exact ⟨rfl,S0,hS0,_,by rw [hE,YD he];try rfl,fun _=>rfl,fun h=>absurd h (by rw [hE];exact he)⟩)
 rw [he,show errV 0=.nilIface from rfl];obtain ⟨gr,gs,vk',As,Ad,n,cS,cd,vb,m,gD,rfl,h1,h2,h3,h4,h5,h6,h7⟩:=(hrr he).ex;have hlen:(expM (knM d p) d S0).S.length<=4096:=by
  unfold expE at he;split at he
  ·rename_i h;exact absurd he h
  split at he
  ·cases he
  omega
 refine vK (q:=sorted_f h2 h3 Zi) (h:=fun v6 fz6 H6 hle6 hR6=>?_);obtain ⟨rfl,l,hl,hp,hs⟩:=hR6;obtain ⟨Al,nl,cl,rfl,hsl⟩:=hl;exact vS (h:=by exact ⟨rfl,S0,hS0,_,by rw [hE,he];rfl,fun h=>absurd (by rw [hE];exact he) h,fun _=>⟨l,hsl.is,hp,hs⟩⟩)
abbrev StepM:=Bs × List Bs
def YfG:Lay StepM where
 size:=3
 rep:=fun fz x cs=>∃ va,cs=[Zk 0,Zy x.1,va]/\Short x.1/\IsSl strL fz va x.2
 len:=fun h=>by obtain ⟨va,rfl,_⟩:=h;rfl
 mono:=fun hle h=>by obtain ⟨va,e,h1,h2⟩:=h;exact ⟨va,e,h1,h2.mono hle⟩
def Yhq (n:Bs) (as_:List (List Bs)) (b:List Bool):List StepM:=((as_.zip b).filter (·.2)).map fun z=>(n,z.1)
def YdN (l:List Schema) (D:List (List Bool)):List StepM:=(l.zip D).flatMap fun z=>Yhq z.1.name z.1.arguments z.2
theorem YdW {α β:Type}:∀ (k:Nat) (l:List α) (m:List β),(l.take k).zip (m.take k)=(l.zip m).take k
 | 0,_,_=>by simp
 | k+1,[],_=>by simp
 | k+1,_::_,[]=>by simp
 | k+1,a::l,b::m=>by simp [YdW k l m]
theorem YnH {l:List Schema} {D:List (List Bool)} {s:Schema} {b:List Bool} (hs:l[k]?=some s) (hb:D[k]?=some b):YdN (l.take (k+1)) (D.take (k+1))=YdN (l.take k) (D.take k)++Yhq s.name s.arguments b:=by
 unfold YdN;have hz:(l.zip D)[k]?=some (s,b):=by rw [List.getElem?_zip_eq_some];exact ⟨hs,hb⟩
 rw [YdW,YdW,List.take_add_one,hz];simp
theorem YhW {n:Bs} {l:List (List Bs)} {b:List Bool} {a:List Bs} {x:Bool} (ha:l[j]?=some a) (hx:b[j]?=some x):Yhq n (l.take (j+1)) (b.take (j+1))=Yhq n (l.take j) (b.take j)++(if x=true then [(n,a)] else []):=by
 unfold Yhq;have hz:(l.zip b)[j]?=some (a,x):=by rw [List.getElem?_zip_eq_some];exact ⟨ha,hx⟩
 rw [YdW,YdW,List.take_add_one,hz];cases x<;>simp
theorem Ykm {n:Bs} {l:List (List Bs)} {b:List Bool}:(Yhq n l b).length<=l.length:=by
 unfold Yhq;rw [List.length_map];refine Nat.le_trans (List.length_filter_le _ _) ?_;rw [List.length_zip];omega
theorem Ykn:∀ (l:List Schema) (D:List (List Bool)),(YdN l D).length<=YbU l
 | [],_=>by simp [YdN]
 | _::_,[]=>by simp [YdN]
 | s::l,b::D=>by
  have h1:=Ykn l D;have h2:=Ykm (n:=s.name) (l:=s.arguments) (b:=b);have e:YdN (s::l) (b::D)=Yhq s.name s.arguments b++YdN l D:=by simp [YdN]
  rw [e,List.length_append];unfold YbU at*;simp only [List.map_cons,List.sum_cons];omega
theorem Ynz (l:List Schema) (k:Nat):YbU (l.take k)<=YbU l:=by
 unfold YbU
 conv=>rhs;rw [<- List.take_append_drop k l]
 rw [List.map_append,List.sum_append];omega
theorem Ymd:OneC YfG:=by
 intro fz d cs h u hu;obtain ⟨va,rfl,_,A,n,c,rfl,_⟩:=h;simp at hu;rcases hu with rfl | rfl | rfl<;>rfl
theorem insts_f (hM:MaxF fz) (hD:DomainR fz d v1 v2 v3 v4 v5 v6) (hP:ProblemR fz p u1 u2 u3 u4 u5 u6 u7) (hS:ChkS d p) (hA:(Y4 d p).2=0->Apt d p):
 GFn prog 14 [ZD d v1 v2 v3 v4 v5 v6,ZP p u1 u2 u3 u4 u5 u6 u7] fz []
  (fun r fz' H'=>∃ S0,YnY S0 (YfL p.init)/\∃ v,r=.tuple #[v,errV (Yah d p S0)]/\(Yah d p S0≠0->v=Zn/\H'=[])/\(Yah d p S0=0->∃ n,Grow YfG 54 fz' v n H' (YdN (schL (knM d p) d) (expM (knM d p) d S0).D))):=by
 have hD0:=hD;have hP0:=hP;obtain ⟨⟨A1,n1,b1,rfl,i1⟩,⟨A2,n2,b2,rfl,i2⟩,⟨A3,n3,b3,rfl,i3⟩,⟨A4,n4,b4,rfl,i4⟩,⟨A5,n5,b5,rfl,i5⟩,⟨A6,n6,b6,rfl,i6⟩⟩:=hD.sls;obtain ⟨⟨B1,m1,d1,rfl,j1⟩,⟨B2,m2,d2,rfl,j2⟩,⟨B3,m3,d3,rfl,j3⟩⟩:=hP.sls;obtain ⟨⟨B4,m4,d4,rfl,_⟩,⟨B5,m5,d5,rfl,_⟩,⟨B6,m6,d6,rfl,_⟩,⟨B7,m7,d7,rfl,_⟩⟩:=hP.goal.sls;refine zF Tryz.func14 Tryz.ntmps14 (fun w0=>?_);refine pX (fun g2=>?_);refine pY (fun g3=>?_);refine zWO ?_;refine vK (q:=Ypm hM hD0 hP0 hS (fun h=>(hA h).init)) (h:=fun v4 fz4 H4 hle4 hR4=>?_);obtain ⟨rfl,vk,rfl,hkd⟩:=hR4;by_cases hc:(Y4 d p).2=0;rotate_left 1
 ·rw [YD hc];exact vS (h:=by exact ⟨YfL p.init,⟨YgK p.init,fun _=>Iff.rfl⟩,_,by rw [Yah,if_pos hc,YD hc];try rfl,fun _=>⟨rfl,rfl⟩,fun h=>absurd h (by rw [Yah,if_pos hc];exact hc)⟩)
 rw [hc,show errV 0=.nilIface from rfl];have hap:=hA hc;have hKD:=hkd hc;refine vK (q:=YkB hKD hap.sch hap.os hap.sh) (h:=fun v5 fz5 H5 hle5 hR5=>?_);obtain ⟨rfl,S0,hS0,vr,rfl,hrr⟩:=hR5;have hE:Yah d p S0=expE (knM d p) d S0:=by rw [Yah,if_neg (by rw [hc];decide)]
 by_cases he:expE (knM d p) d S0=0;rotate_left 1
 ·rw [YD he];exact vS (h:=by exact ⟨S0,hS0,_,by rw [hE,YD he];try rfl,fun _=>⟨rfl,rfl⟩,fun h=>absurd h (by rw [hE];exact he)⟩)
 rw [he,show errV 0=.nilIface from rfl];obtain ⟨gr,gs,vk',As,Ad,n,cS,cd,vb,m,gD,rfl,h1,h2,h3,h4,h5,h6,h7⟩:=(hrr he).ex;have ln:=h4.len;have sn:=h4.short;refine zV ?_;have hE0:schE (knM d p) d=0:=by
  unfold expE at he;by_cases h0:schE (knM d p) d=0
  ·exact h0
  rw [if_pos h0] at he;exact absurd he h0
 have hfit:FitR (schL (knM d p) d) (expM (knM d p) d S0).D:=(Yg3 (K:=knM d p) (l:=schL (knM d p) d) _ (w:=⟨S0,exN0 (schL (knM d p) d),exN0 (schL (knM d p) d),false⟩) (Nat.lt_succ_self _) (Yet _) (Yet _)).2.2.1;have hmany:YbU (schL (knM d p) d)<=4096:=by
  unfold schE at hE0;by_cases h0:4096<YbU (schL (knM d p) d)
  ·rw [if_pos h0] at hE0;cases hE0
  omega
 have hlen:∀ s∈schL (knM d p) d,∀ a∈s.arguments,a.length<=2000000:=fun s hs a ha=>by
  obtain ⟨s0,h0,rfl⟩:=List.mem_map.1 hs;have h1:=Ymi hap.sch h0;have e:a.length=s0.params.length:=Yff ha;omega
 generalize hll:schL (knM d p) d=l at*;generalize hDD:(expM (knM d p) d S0).D=D at*;obtain ⟨hfl,hff⟩:=hfit;refine Yn (fun q σ fz' H'=>∃ (k:Nat) (v:Value) (nn:Nat),k<=n/\q=n - k/\σ=[(36,Zk k),(35,Zk n),(34,Zc As n cS),(9,v),(8,Zp gr)]/\Le fz5 fz'/\Grow YfG 54 fz' v nn H' (YdN (l.take k) (D.take k))) ⟨0,_,0,Z0 _,rfl,rfl,Zd,Grow.nil _ _ _⟩ Zw Zb ?_;rintro q σ fz6 H6 ⟨k,v6,nn,hk,rfl,rfl,hle6,hG6⟩;obtain ⟨A6,c6,rfl,_,_⟩:=hG6.form;refine wC ?_ ?_<;>intro c1
 ·obtain ⟨s,hs⟩:=Yf (l:=l) (k:=k) Zi;obtain ⟨b,hb⟩:=Yf (l:=D) (k:=k) Zi;have hbl:=hff k s b hs hb;refine wI (h4.mono hle6) hs (fun p1 hp1=>?_);refine zL hp1 ?_;intro cs hcs;obtain ⟨u0,u1,u2,u3,u4,u5,u6,u7,u8,u9,u10,u11,u12,u13,u14,u15,u16,u17,u18,u19,rfl,hR⟩:=Yae hcs;obtain ⟨P0,p0,q0,rfl,_⟩:=id hR.params;obtain ⟨⟨P1,p1,q1,rfl,_⟩,⟨P2,p2,q2,rfl,_⟩,⟨P3,p3,q3,rfl,_⟩,⟨P4,p4,q4,rfl,_⟩⟩:=id hR.start.sls;obtain ⟨⟨P5,p5,q5,rfl,_⟩,⟨P6,p6,q6,rfl,_⟩,⟨P7,p7,q7,rfl,_⟩,⟨P8,p8,q8,rfl,_⟩⟩:=id hR.all.sls;obtain ⟨⟨P9,p9,q9,rfl,_⟩,⟨P10,p10,q10,rfl,_⟩,⟨P11,p11,q11,rfl,_⟩,⟨P12,p12,q12,rfl,_⟩⟩:=id hR.over.sls;obtain ⟨⟨P13,p13,q13,rfl,_⟩,⟨P14,p14,q14,rfl,_⟩,⟨P15,p15,q15,rfl,_⟩,⟨P16,p16,q16,rfl,_⟩⟩:=id hR.fin.sls;obtain ⟨P17,p17,q17,rfl,_⟩:=id hR.early;obtain ⟨P18,p18,q18,rfl,_⟩:=id hR.late;obtain ⟨P19,p19,q19,rfl,iar⟩:=id hR.arguments;have lar:=iar.len;have sar:=iar.short;refine Yd (YU (fun ga=>?_));refine zW ?_;refine Yn (fun q σ fz' H'=>∃ (j:Nat) (v:Value) (mm:Nat) (Hs:HP),j<=p19/\q=p19 - j/\σ=[(44,Zk j),(43,Zk p19),(42,Zc P19 p19 q19),(36,Zk k),(35,Zk n),(34,Zc As n cS),(11,Zp ga),(10,Zk k),(9,v),(8,Zp gr)]/\Le fz6 fz'/\H'=(ga,Zu #[Zy s.name,Zc P0 p0 q0,Zy s.start.op,Zy s.start.name,Zc P1 p1 q1,Zc P2 p2 q2,Zc P3 p3 q3,Zc P4 p4 q4,Zy s.all.op,Zy s.all.name,Zc P5 p5 q5,Zc P6 p6 q6,Zc P7 p7 q7,Zc P8 p8 q8,Zy s.over.op,Zy s.over.name,Zc P9 p9 q9,Zc P10 p10 q10,Zc P11 p11 q11,Zc P12 p12 q12,Zy s.fin.op,Zy s.fin.name,Zc P13 p13 q13,Zc P14 p14 q14,Zc P15 p15 q15,Zc P16 p16 q16,Zc P17 p17 q17,Zc P18 p18 q18,Zo s.count,Zc P19 p19 q19] 104)::Hs/\Grow YfG 54 fz' v mm Hs (YdN (l.take k) (D.take k)++Yhq s.name (s.arguments.take j) (b.take j))) ⟨0,_,nn,H6,Z0 _,rfl,rfl,Zd,rfl,by simpa [Yhq] using hG6⟩ Zw Zb ?_;rintro q σ fz7 H' ⟨j,v7,mm,H7,hj,rfl,rfl,hle7,rfl,hG7⟩;obtain ⟨A7,c7,rfl,_,_⟩:=hG7.form;have hx7:=hle6.trans hle7;refine wC ?_ ?_<;>intro c2
  ·obtain ⟨a,ha⟩:=Yf (l:=s.arguments) (k:=j) Zi;obtain ⟨x,hx⟩:=Yf (l:=b) (k:=j) Zi;have hgl:gD.length=n:=h6;obtain ⟨gg,hgg⟩:=Yf (l:=gD) (k:=k) Zi;have hz:(gD.zip (l.map fun s=>s.arguments.length))[k]?=some (gg,p19):=by
    rw [List.getElem?_zip_eq_some];refine ⟨hgg,?_⟩;rw [List.getElem?_map,hs];exact congrArg some lar
   have hfg:fz7 gg=some (.cells (b.map Value.bool).toArray 4 (0,0)):=hx7 _ _ (h7 _ (Zm (Ygj hgg hb)));refine wI (iar.mono hle7) ha (fun p1 hp1=>?_)
   ((refine zG ?_);refine Wy hp1 (fun Ay ny cy hy=>?_));have ly:=hy.len;have sy:=hy.short;have hgr7:=hx7 _ _ h1;refine vI (h5.mono hx7) hz (fun p2 hp2=>?_);refine zG ?_;refine Xh hp2 ?_;refine wG ?_;refine Yo (z:=1) rfl ?_;refine zG ?_;refine YcW T Zz Zz Zz hfg (Yab hx) ?_;cases x with
   | false=>
    exact wP (h:=by exact ⟨j+1,_,mm,H7,by omega,rfl,rfl,hle7,rfl,hG7.of (by rw [YhW ha hx];simp) rfl⟩)
   | true=>
    have hlen7:mm<=8192:=by
     have e7:=hG7.len;have b1:=Ykn (l.take k) (D.take k);have b2:=Ynz l k;have b3:=Ykm (n:=s.name) (l:=s.arguments.take j) (b:=b.take j);have b4:s.arguments.length<=YbU l:=YeM (f:=fun s:Schema=>s.arguments.length) (Zm hs);rw [List.length_append] at e7;rw [List.length_take] at b3;omega
    have hny:ny<=2000000:=by rw [<- ly];exact hlen s (Zm hs) a (Zm ha)
    refine zWN ?_;refine Y6 [(ga,_)] ?_;refine zW ?_;refine pU ?_;refine Yg (Yk [] ((ga,_)::H7) Zz (YbI hy Zi) (fun v8 fz8 H8 hle8 hR8=>?_));obtain ⟨A8,c8,rfl,_,_⟩:=hR8.form;refine ⟨⟨hle8,fun p hp=>List.mem_append_right _ (by simp at hp;subst hp;exact .head _)⟩,?_⟩;refine Ch.qk ⟨hle8,fun p hp=>List.mem_append_right _ (by simp at hp;subst hp;exact .head _)⟩ (XH ?_);refine Yg (Does.freeze (H1:=(ga,_)::H7) (H2:=H8) Zq (fun fz9 hle9 hf9=>?_));obtain ⟨B8,d8,e8,hS8⟩:=hR8.sl hle9 hf9 Zi;injection e8 with e81 e82 e83
    subst e81;subst e83;refine Yc (cs:=[Zk 0,Zy s.name,Zc A8 ny c8]) (fun gb=>⟨⟨hle8.trans hle9,fun p hp=>by simp at hp;subst hp;simp⟩,?_⟩);refine Yg (YG (Hr:=(gb,_)::(ga,_):: []) (d:=(s.name,a)) (Zr _) (hG7.mono (hle8.trans hle9)) Ymd (.head _) ⟨_,rfl,hR.name,_,_,_,rfl,hS8⟩ (fun v10 H10 hO10=>⟨⟨hle8.trans hle9,fun p hp=>by simp at hp;subst hp;simp⟩,?_⟩));obtain ⟨A10,c10,rfl,_,_⟩:=hO10.form;refine Ch.qk ⟨hle8.trans hle9,fun p hp=>by simp at hp;subst hp;simp⟩ (YR ?_);refine Ch.done ?_;refine zW ?_;exact Ws ⟨j+1,_,mm+1,H10,by omega,rfl,rfl,hle7.trans (hle8.trans hle9),rfl,hO10.of (by rw [YhW ha hx,if_pos rfl,List.append_assoc]) rfl⟩ Zi Zw (List.Sublist.cons _ (List.Sublist.refl _))
  have hj2:j=p19:=by omega
  subst hj2;rw [Zl (show s.arguments.length<=j by omega),Zl (show b.length<=j by omega),<- YnH hs hb] at hG7;refine zW ?_;exact Ws ⟨k+1,_,mm,by omega,rfl,rfl,hx7,hG7⟩ Zi Zw (List.Sublist.cons _ (List.Sublist.refl _))
 have hk2:k=n:=by omega
 subst hk2;rw [Zl Zi,Zl Zi] at hG6;exact wS (h:=by exact ⟨S0,hS0,_,by rw [hE,he];rfl,fun h=>absurd (by rw [hE];exact he) h,fun _=>⟨nn,by first | exact hG6 | (rw [hDD];exact hG6)⟩⟩)
theorem typed1_q {s:StepM} {x:Action} {g3:Nat} {t3:TypeId} (h3:fz g3=some (.cells #[Zk 0,Zy s.1,va] t3 (0,0))) (hcs:actionL.rep fz x cs):
 QFn prog 96 (.agg cs.toArray:: [Zp g3]) fz (Zo (decide (x.name=s.1))):=by
 obtain ⟨u0,u1,u2,u3,u4,u5,rfl,hR⟩:=Xd hcs;obtain ⟨P0,p0,q0,rfl,_⟩:=id hR.params;obtain ⟨⟨P1,p1,q1,rfl,_⟩,⟨P2,p2,q2,rfl,_⟩,⟨P3,p3,q3,rfl,_⟩,⟨P4,p4,q4,rfl,_⟩⟩:=id hR.pre.sls;obtain ⟨P5,p5,q5,rfl,_⟩:=id hR.changes;refine qF Tryz.func96 Tryz.ntmps96 (fun w0=>?_);refine pX (fun g9=>?_);refine wC ?_ ?_<;>intro c1
 ·exact wR (h:=by exact Ys c1)
 exact wR (h:=by exact Yj c1)
theorem typed2_q {nm:Bs} {x:Param} {g3:Nat} {t3:TypeId} (h3:fz g3=some (.cells #[Zy nm] t3 (0,0))) (hcs:paramL.rep fz x cs):
 QFn prog 97 (.agg cs.toArray:: [Zp g3]) fz (Zo (decide (x.name=nm))):=by
 obtain ⟨rfl,hRx⟩:=YM hcs;refine qF Tryz.func97 Tryz.ntmps97 (fun w0=>?_);refine pX (fun g9=>?_);refine wC ?_ ?_<;>intro c1
 ·exact wR (h:=by exact Ys c1)
 exact wR (h:=by exact Yj c1)
structure TypOk (M:Mn) (s:StepM) (a:Action):Prop where
 fd:∃ k:Nat,M.d.actions[k]?=some a/\a.name=s.1/\∀ j,j<k->∀ y:Action,M.d.actions[j]?=some y->¬y.name=s.1
 len:s.2.length=a.params.length
 typ:∀ (i:Nat) (x:Bs) (p:Param),s.2[i]?=some x->a.params[i]?=some p->x∈ofN M p.typ
theorem ofN_os {t x:Bs} (h:x∈ofN M t):∃ o∈M.os,o.name=x:=by
 unfold ofN ofT at h;obtain ⟨o,h1,h2⟩:=List.mem_map.1 h;exact ⟨o,(List.mem_filter.1 h1).1,h2⟩
theorem YgX {p:α->Prop} {a b:α} (h1:l[k]?=some a) (h2:p a) (h3:∀ j,j<k->∀ y,l[j]?=some y->¬p y) (g1:l[i]?=some b) (g2:p b) (g3:∀ j,j<i->∀ y,l[j]?=some y->¬p y):a=b:=by
 rcases Nat.lt_trichotomy k i with h | h | h
 ·exact absurd h2 (g3 k h a h1)
 ·subst h;rw [h1] at g1;exact Option.some.inj g1
 exact absurd g2 (h3 i h b g1)
theorem TypOk.one {s:StepM} {a b:Action} (h:TypOk M s a) (g:TypOk M s b):a=b:=by
 obtain ⟨k,h1,h2,h3⟩:=h.fd;obtain ⟨i,g1,g2,g3⟩:=g.fd;exact YgX (p:=fun y:Action=>y.name=s.1) h1 h2 h3 g1 g2 g3
theorem typed_f {v:Value} {s:StepM} (hM:MnR fz v M) (hs:YfG.rep fz s [Zk 0,Zy s.1,va]):
 GFn prog 53 [v,.agg #[Zk 0,Zy s.1,va]] fz [] (fun r fz' H'=>H'=[]/\∃ cs e a,r=.tuple #[.agg (List.toArray cs),errV e]/\actionL.rep fz' a cs/\(e=0->TypOk M s a)/\(e≠0->∀ a,¬TypOk M s a)):=by
 have hM0:=hM;obtain ⟨⟨g,v1,v2,v3,v4,v5,v6,a7,a8,a9,a10,a11,a12,a13,a14,a15,a16,a17,vf,A,n,c,rfl,hg,hD,hF,hO⟩,hw,hm⟩:=hM;obtain ⟨va',he,hsn,hsa⟩:=hs;simp at he;subst he;obtain ⟨B,m,d,rfl,ia⟩:=hsa;obtain ⟨A5,n5,c5,rfl,i5⟩:=hD.actions;have lb:=ia.len;have sb:=ia.short;have l5:=i5.len;refine zF Tryz.func53 Tryz.ntmps53 (fun w0=>?_);refine pX (fun g3=>?_);refine zW ?_;intros;rename_i g4;refine zG ?_;refine Y0 ?_;refine zG ?_;refine WF (fun fz' hle hf=>YdA (cap:=[Zp g3]) (p:=fun y:Action=>y.name=s.1) (i5.mono hle) (fun y _ cs hcs=>typed1_q (s:=s) (hf _ (.tail _ (.head _))) hcs)) ?_;rcases Yf0 (p:=fun y:Action=>y.name=s.1) M.d.actions with hno | ⟨k,a,hk1,hk2,hk3⟩
 ·rw [Xo hno];refine wC ?_ ?_<;>intro c0;rotate_left 1
  ·exact absurd Zh c0
  refine zW ?_;exact Ybk T (vs:=[.agg #[Ze,Zn,Zk 0,Ze,Ze,Zn,Zn,Zn,Zn,Zn],.iface 88 (Zk 8)]) ⟨⟨_,_,0,_,_,_,rfl,rfl,rfl,rfl,rfl,rfl⟩,rfl,trivial⟩ (fun fz3 hle3 hf3=>⟨rfl,_,8,_,rfl,YkU (x:=⟨⟨#[]⟩,[],0,Yds,[]⟩) ⟨Y5,IsSl.nil,XP,Yk1,IsSl.nil⟩,Za,fun _ a ha=>by
   obtain ⟨k,h1,h2,_⟩:=ha.fd;exact hno a (Zm h1) h2⟩)
 have hkl:k<M.d.actions.length:=(Zg hk2).1;have s5:=i5.short;rw [XQ hk1 hk2 hk3,Int.zero_add];refine wC ?_ ?_<;>intro c0
 ·exact absurd c0 Zi
 refine wI i5 hk2 (fun p9 hp9=>?_);refine zL hp9 ?_;intro cs hcs;have hcs0:=hcs;obtain ⟨u0,u1,u2,u3,u4,u5,rfl,hR⟩:=Xd hcs;obtain ⟨P0,p0,q0,rfl,i0⟩:=id hR.params;obtain ⟨⟨P1,p1,q1,rfl,_⟩,⟨P2,p2,q2,rfl,_⟩,⟨P3,p3,q3,rfl,_⟩,⟨P4,p4,q4,rfl,_⟩⟩:=id hR.pre.sls;obtain ⟨P5,p5,q5,rfl,_⟩:=id hR.changes;have l0:=i0.len;refine zW ?_;intros;rename_i g7;have hfail:∀ (e:Int) (fz3:FZ),Le fz fz3->e≠0->(∀ b,¬TypOk M s b)->∃ cs' e' a',Value.tuple #[.agg #[Zy a.name,Zc P0 p0 q0,Zk a.cost,Zy a.pre.op,Zy a.pre.name,Zc P1 p1 q1,Zc P2 p2 q2,Zc P3 p3 q3,Zc P4 p4 q4,Zc P5 p5 q5],.iface 88 (Zk e)]=(.tuple #[.agg (List.toArray cs'),errV e']:Value)/\actionL.rep fz3 a' cs'/\(e'=0->TypOk M s a')/\(e'≠0->∀ a,¬TypOk M s a):=
  fun e fz3 hle he hno=>⟨_,e,a,by rw [YD he],actionL.mono hle hcs0,fun h=>absurd h he,fun _=>hno⟩
 have hone:∀ b,TypOk M s b->b=a:=fun b hb=>by
  obtain ⟨i,g1,g2,g3⟩:=hb.fd;exact YgX (p:=fun y:Action=>y.name=s.1) g1 g2 g3 hk2 hk3 hk1
 refine zC ?_ ?_<;>intro c1
 ·refine zW ?_;exact Ybk T (vs:=[.agg #[Zy a.name,Zc P0 p0 q0,Zk a.cost,Zy a.pre.op,Zy a.pre.name,Zc P1 p1 q1,Zc P2 p2 q2,Zc P3 p3 q3,Zc P4 p4 q4,Zc P5 p5 q5],.iface 88 (Zk 11)]) ⟨⟨_,_,1,_,_,_,rfl,rfl,rfl,rfl,rfl,rfl⟩,rfl,trivial⟩ (fun fz3 hle3 hf3=>⟨rfl,hfail 11 fz3 hle3 Zh fun b hb=>by
   have:=hb.len;have e:=hone b hb;subst e;exact absurd this Zi⟩)
 have hlen:s.2.length=a.params.length:=by omega
 refine zW ?_;refine WD m (fun k=>[(43,Zk k),(42,Zk m),(41,Zc B m d),(7,Zp g7),(4,Zp g4),(3,Zp g3),(0,Zp g)]) [(g7,Zu #[Zy a.name,Zc P0 p0 q0,Zk a.cost,Zy a.pre.op,Zy a.pre.name,Zc P1 p1 q1,Zc P2 p2 q2,Zc P3 p3 q3,Zc P4 p4 q4,Zc P5 p5 q5] 67),(g4,Zu #[Ze,Zn,Zk 0,Ze,Ze,Zn,Zn,Zn,Zn,Zn] 67),(g3,Zu #[Zk 0,Zy s.1,Zc B m d] 54)] (fun k=>(∀ i,i<k->∀ x,s.2[i]?=some x->∃ o∈M.os,o.name=x)) (fun i hi=>absurd hi Zi) ?_;intro k hk hh;refine wC ?_ ?_<;>intro c2
 ·obtain ⟨x,hx⟩:=Yf (l:=s.2) (k:=k) Zi;refine wI ia hx (fun p8 hp8=>?_);refine zH hp8 (fun ix=>?_);refine zW ?_;intros;rename_i g9;refine zG ?_;refine Y0 ?_;refine zG ?_;refine Ycu (b:=decide (∃ o∈M.os,o.name=x)) (fun fz' hle hf=>YcL (cap:=[Zp g9]) (p:=fun o:Param=>o.name=x) (hO.mono hle) (fun o _ cs hcs=>typed2_q (hf _ (.head _)) hcs)) (fun f1=>?_) (fun f1=>?_)
  ·have f1:=Zt f1;exact wM (h:=by exact YH hh hx f1)
  have f1:=Zf f1;refine zW ?_;exact Ybk T (vs:=[.agg #[Zy a.name,Zc P0 p0 q0,Zk a.cost,Zy a.pre.op,Zy a.pre.name,Zc P1 p1 q1,Zc P2 p2 q2,Zc P3 p3 q3,Zc P4 p4 q4,Zc P5 p5 q5],.iface 88 (Zk 3)]) ⟨⟨_,_,2,_,_,_,rfl,rfl,rfl,rfl,rfl,rfl⟩,rfl,trivial⟩ (fun fz3 hle3 hf3=>⟨rfl,hfail 3 fz3 hle3 Zh fun b hb=>by
   have e:=hone b hb;subst e;obtain ⟨p,hp⟩:=Yf (l:=b.params) (k:=k) Zi;exact f1 (ofN_os (hb.typ k x p hx hp))⟩)
 refine zW ?_;refine Yn (fun q σ fz' H'=>∃ k:Nat,k<=m/\q=m - k/\σ=[(60,Zk k),(59,Zk m),(58,Zc B m d),(7,Zp g7),(4,Zp g4),(0,Zp g)]/\Le fz fz'/\H'=[(g7,Zu #[Zy a.name,Zc P0 p0 q0,Zk a.cost,Zy a.pre.op,Zy a.pre.name,Zc P1 p1 q1,Zc P2 p2 q2,Zc P3 p3 q3,Zc P4 p4 q4,Zc P5 p5 q5] 67),(g4,Zu #[Ze,Zn,Zk 0,Ze,Ze,Zn,Zn,Zn,Zn,Zn] 67),(g3,Zu #[Zk 0,Zy s.1,Zc B m d] 54)]/\(∀ i,i<k->∀ x,s.2[i]?=some x->∀ p,a.params[i]?=some p->x∈ofN M p.typ)) ⟨0,Z0 _,rfl,rfl,Zd,rfl,fun i hi=>absurd hi Zi⟩ Zw Zb ?_;rintro q σ fz1 H' ⟨k,hk,rfl,rfl,hle1,rfl,hi⟩;refine wC ?_ ?_<;>intro c3
 ·obtain ⟨x,hx⟩:=Yf (l:=s.2) (k:=k) Zi;obtain ⟨p,hp⟩:=Yf (l:=a.params) (k:=k) Zi;refine wI (ia.mono hle1) hx (fun p8 hp8=>?_);refine zH hp8 (fun ix=>?_);refine wI (i0.mono hle1) hp (fun p7 hp7=>?_);refine wH hp7.Param_typ (fun iy=>?_);refine zW ?_;refine Yd (Yk [] [_,_,_] Zz (Ynx (t:=p.typ) (hM0.mono hle1)) (fun v4 fz4 H4 hle4 hR4=>?_));obtain ⟨rfl,B4,m4,c4,rfl,hS4⟩:=hR4;refine wb (YdT (x:=x) hS4) (fun f2=>?_) (fun f2=>?_)
  ·have hnx:∀ i,i<k+1->∀ x,s.2[i]?=some x->∀ p,a.params[i]?=some p->x∈ofN M p.typ:=fun i h' x' hx' p' hp'=>by
    rcases Nat.lt_or_ge i k with h | h
    ·exact hi i h x' hx' p' hp'
    have e:i=k:=by omega
    subst e;rw [hx] at hx';rw [hp] at hp';cases hx';cases hp';exact Zt f2
   exact wP (h:=by exact ⟨k+1,by omega,rfl,rfl,hle1.trans hle4,rfl,hnx⟩)
  have f2:=Zf f2;refine zW ?_;exact Ybk T (vs:=[.agg #[Zy a.name,Zc P0 p0 q0,Zk a.cost,Zy a.pre.op,Zy a.pre.name,Zc P1 p1 q1,Zc P2 p2 q2,Zc P3 p3 q3,Zc P4 p4 q4,Zc P5 p5 q5],.iface 88 (Zk 9)]) ⟨⟨_,_,1,_,_,_,rfl,rfl,rfl,rfl,rfl,rfl⟩,rfl,trivial⟩ (fun fz3 hle3 hf3=>⟨rfl,hfail 9 fz3 ((hle1.trans hle4).trans hle3) Zh fun b hb=>by
   have e:=hone b hb;subst e;exact f2 (hb.typ k x p hx hp)⟩)
 have hok:TypOk M s a:=⟨⟨_,hk2,hk3,hk1⟩,hlen,fun i x p hx hp=>hi i (by have:=(Zg hx).1;omega) x hx p hp⟩;refine zW ?_;exact Ybk T (vs:=[.agg #[Zy a.name,Zc P0 p0 q0,Zk a.cost,Zy a.pre.op,Zy a.pre.name,Zc P1 p1 q1,Zc P2 p2 q2,Zc P3 p3 q3,Zc P4 p4 q4,Zc P5 p5 q5],.nilIface]) ⟨⟨_,_,1,_,_,_,rfl,rfl,rfl,rfl,rfl,rfl⟩,rfl,trivial⟩ (fun fz3 hle3 hf3=>⟨rfl,_,0,a,rfl,actionL.mono (hle1.trans hle3) hcs0,fun _=>hok,fun h=>absurd rfl h⟩)
def SortedBy {α:Type} (C:α->α->Int) (l:List α):Prop:=∀ (i j:Nat) (a b:α),i<j->l[i]?=some a->l[j]?=some b->¬C b a<0
theorem sortG {ρ:Go.Shelf.Ren} (Ly:Go.Proofs.SlLaysF0.n6 prog ρ) {f6:FuncId} (hf6:ρ.f 6=f6) (hca:YbP prog f6) (hone:OneC L) {z:Nat} (hz:L.size=z) (hz0:0<z) (hag:∀ W,(isAgg (ρ.t 24)).run prog W=.ok true W) (hsi:∀ W,(Go.sizeOf (ρ.t 24)).run prog W=.ok z W)
 {C:α->α->Int} (hsw:∀ {β:Type} (f:β->α),Go.Sort.SWO (ltOf fun x y=>C (f x) (f y))) {fc:FuncId} (hen:∀ args w,(callFunc fc args).run prog w=.ok (.enter fc args) w)
 (hcf:∀ {fz:FZ} {a b:α} {ca cb:List Value},L.rep fz a ca->L.rep fz b cb->@GFn drT prog fc [.agg ca.toArray,.agg cb.toArray] fz [] (fun r fz' H'=>H'=[]/\r=Zk (C a b))) {cap:Nat} {cur:List Value} (hB:GrowB L t fz g n cap cur l) (hn:0<n) (hn2:n<=2000000):
 GFn prog f6 [Zv g n cap,.func (.func fc) #[] #[]] fz [(g,Zu cur.toArray t)]
  (fun r fz' H'=>r=.tuple #[]/\fz=fz'/\∃ cur' l',H'=[(g,Zu (List.toArray cur') t)]/\GrowB L t fz g n cap cur' l'/\l'.Perm l/\SortedBy C l'):=by
 subst hf6;obtain ⟨xs,e1,e2,e3⟩:=hB.pairs;have hxl:xs.length=n:=by have:=hB.len;rw [<- e1,List.length_map] at this;exact this
 have hsz:=hB.size;have hcap:=hB.capn;rw [hz] at hsz e3;refine GFn.of hca (fun w hw=>?_);have hg:=hw.own (g,Zu cur.toArray t) (.head _);simp only at hg;have hgs:=lt_of_heap hg.1;obtain ⟨x0,hx0⟩:=Yf (l:=xs) (k:=0) Zi
 haveI:Inhabited {x:α × List Value // L.rep fz x.1 x.2}:=⟨⟨x0,e2 x0 (Zm hx0)⟩⟩
 generalize hds:(xs.attach.map fun p=>(⟨p.1,e2 p.1 p.2⟩:{x:α × List Value // L.rep fz x.1 x.2}))=ds;have hdm:ds.map (·.1)=xs:=by rw [<- hds,List.map_map];exact List.attach_map_subtype_val xs
 have hdl:ds.length=n:=by rw [<- hxl,<- hdm,List.length_map]
 have hk2:∀ x:{x:α × List Value // L.rep fz x.1 x.2},x.1.2.length=z:=fun x=>(L.len x.2).trans hz
 have h1c:∀ x:{x:α × List Value // L.rep fz x.1 x.2},∀ v∈x.1.2,v.oneCell'=true:=fun x v hv=>hone _ _ _ x.2 v hv
 have hpos:∀ (k:Nat) (cs:List Value) (ys:List {x:α × List Value // L.rep fz x.1 x.2}),True:=fun _ _ _=>trivial
 have hcell:∀ (ys:List {x:α × List Value // L.rep fz x.1 x.2}) (j:Nat),j<ys.length*z->∃ v,((ys.map (·.1)).flatMap Prod.snd)[j]?=some v/\(Go.Sort.flatK (fun x:{x:α × List Value // L.rep fz x.1 x.2}=>x.1.2) z ys.toArray)[j]! =v:=by
  intro ys j hj;obtain ⟨y,hy⟩:=Yf (l:=ys) (k:=j / z) ((Nat.div_lt_iff_lt_mul hz0).2 hj);obtain ⟨v,hv⟩:=Yf (l:=y.1.2) (k:=j % z) (by rw [hk2 y];exact Nat.mod_lt _ hz0);have hf:=Yeo (z:=z) (l:=ys.map (·.1)) (i:=j / z) (j:=j % z) (x:=y.1) (u:=v) (fun p hp=>by
   obtain ⟨q,_,rfl⟩:=List.mem_map.1 hp;exact hk2 q) (by rw [List.getElem?_map,hy];rfl) hv
  rw [Nat.div_add_mod'] at hf;refine ⟨v,hf,?_⟩;rw [Go.Sort.get_flatK _ _ _ _ (by simpa using hj),list_get! hy];exact Ykd hv
 have hcmp:CmpLays prog fc #[] (fun x:{x:α × List Value // L.rep fz x.1 x.2}=>x.1.2) z (fun x y=>C x.1.1 y.1.1) g 0 ds.toArray.size w:=by
  intro m os dk _ x y;have hD:=@GFn.out drT _ _ _ _ _ _ (hcf x.2 y.2) (sortWorldK (fun x:{x:α × List Value // L.rep fz x.1 x.2}=>x.1.2) z w g 0 m dk os) ⟨fun b o hbo=>by
   have h1:=hw.keep b o hbo;rw [YeL (lt_of_heap h1) (fun e=>by subst e;rw [hg.2] at hbo;cases hbo)];exact h1,by simp,by simp⟩
  refine hD.mono fun e w' hh=>?_
  obtain ⟨v,fz',H',he,⟨_,rfl⟩,_,hfr,_⟩:=hh;exact ⟨he,Yhz hfr⟩
 have hH:Go.Sort.HoldsK (fun x:{x:α × List Value // L.rep fz x.1 x.2}=>x.1.2) z w g 0 ds.toArray:=by
  intro j hj;rw [Go.Sort.size_flatK] at hj;simp only [List.size_toArray] at hj;obtain ⟨v,h1,h2⟩:=hcell ds j hj;rw [hdm,<- e3] at h1;refine ⟨?_,?_⟩
  ·rw [h2];show w.cell? ⟨g,0+j,none⟩=some v;rw [List.getElem?_take_of_lt (by rw [<- hdl];exact hj)] at h1;simp [World.cell?,hg.1,h1]
  simp [World.frozen?,hg.1]
 have hcon:=AnyQ.slices_SortFunc Ly z hag hsi (fun x:{x:α × List Value // L.rep fz x.1 x.2}=>x.1.2) hk2 h1c (fun x y=>C x.1.1 y.1.1) (hsw (fun x:{x:α × List Value // L.rep fz x.1 x.2}=>x.1.1)) fc #[] g 0 cap ds.toArray w hen hcmp hH hgs (by simp;omega);simp only [List.size_toArray,hdl] at hcon;refine Calls.mono hcon fun e w' hh=>?_
 obtain ⟨he,d',m,os,hp,hs,rfl⟩:=hh;have hsd:d'.size=n:=by rw [hp.1];simp [hdl]
 obtain ⟨ys,rfl⟩:∃ ys:List {x:α × List Value // L.rep fz x.1 x.2},d'=ys.toArray:=⟨d'.toList,by simp⟩;simp only [List.size_toArray] at hsd;have hperm:ys.Perm ds:=by
  have h:=hp.2.2;rw [show (ys.toArray.extract 0 n)=ys.toArray from by rw [<- hsd];simp,show (ds.toArray.extract 0 n)=ds.toArray from by rw [<- hdl];simp] at h;simpa using h
 have hgw:=YjF (enc:=fun x:{x:α × List Value // L.rep fz x.1 x.2}=>x.1.2) (k:=z) (m:=m) (dk:=ys.toArray) (os:=os) hg.1;generalize hF:Go.Sort.flatK (fun x:{x:α × List Value // L.rep fz x.1 x.2}=>x.1.2) z ys.toArray=F at hgw;have hFs:F.size=n*z:=by rw [<- hF,Go.Sort.size_flatK];simp [hsd]
 have hFc:∀ j,j<n*z->∃ v,((ys.map (·.1)).flatMap Prod.snd)[j]?=some v/\F[j]! =v:=fun j hj=>by
  have:=hcell ys j (by rw [hsd];exact hj)
  rwa [hF] at this
 refine ⟨_,fz,[(g,Zu (List.toArray (Go.Sort.putCells id 0 F cur.toArray).toList) t)],he,⟨rfl,rfl,_,ys.map (·.1.1),rfl,⟨⟨ys.map (·.1),by rw [List.map_map];rfl,fun p hp=>?_,?_⟩,by rw [List.length_map];exact hsd,hcap,hB.max,?_⟩,?_,?_⟩,⟨fun b o hbo=>?_,fun p hp=>?_,by simp⟩,⟨rfl,rfl,rfl,?_,fun b hb hnb=>?_,fun h=>h.elim⟩,⟨fun _ _ h=>h,fun _ _ _=>rfl,fun p hp=>?_⟩⟩
 ·obtain ⟨q,_,rfl⟩:=List.mem_map.1 hp;exact q.2
 ·rw [hz];refine List.ext_getElem? fun j=>?_
  by_cases hj:j<n*z
  ·obtain ⟨v,h1,h2⟩:=hFc j hj;have hlt:j<cur.length:=by rw [hsz];exact Nat.lt_of_lt_of_le hj (Nat.mul_le_mul_right z hcap)
   rw [h1,List.getElem?_take_of_lt hj,Array.getElem?_toList];unfold Go.Sort.putCells;simp [hlt,hFs,hj];rw [<- h2];exact (getElem!_pos F j Zi).symm
  rw [List.getElem?_eq_none (by rw [List.length_take];omega),List.getElem?_eq_none];rw [YaQ (z:=z) (fun p hp=>by
   obtain ⟨q,_,rfl⟩:=List.mem_map.1 hp;exact hk2 q),List.length_map,hsd]
  omega
 ·unfold Go.Sort.putCells;simp [hsz,hz]
 ·have h1:=hperm.map (fun x:{x:α × List Value // L.rep fz x.1 x.2}=>x.1.1);have h2:ds.map (fun x:{x:α × List Value // L.rep fz x.1 x.2}=>x.1.1)=l:=by rw [<- e1,<- hdm,List.map_map];rfl
  rw [h2] at h1;exact h1
 ·intro i j a b hij ha hb;rw [List.getElem?_map] at ha hb;cases hya:ys[i]? with
  | none=>rw [hya] at ha;cases ha
  | some p=>
   cases hyb:ys[j]? with
   | none=>rw [hyb] at hb;cases hb
   | some q=>
    rw [hya] at ha;rw [hyb] at hb;injection ha with ha;injection hb with hb
    have h:=hs i j (Z0 _) hij (by have:=(Zg hyb).1;omega);rw [list_get! hya,list_get! hyb] at h;unfold ltOf at h;have h:=Zf h;rw [<- ha,<- hb];exact h
 ·have h1:=hw.keep b o hbo;rw [YeL (lt_of_heap h1) (fun e=>by subst e;rw [hg.2] at hbo;cases hbo)];exact h1
 ·rw [List.mem_singleton] at hp;subst hp;exact ⟨by simpa using hgw,hg.2⟩
 ·unfold sortWorldK Go.Sort.grow Go.Sort.putRowK Go.Sort.putRow Go.Sort.mapBlock Go.Sort.ahead;simp
 ·exact YeL hb (fun e=>hnb (by simp [e]))
 rw [List.mem_singleton] at hp;subst hp;exact .inl (by simp)
end Go.Proofs.YtbdpaoikccabhaaGreatDoor
namespace Go.Lx
open Go.RowKit
section
variable {P:Program} {cx:Cx} {r:Operand->Option Value} {fz:FZ} {H:HP} {V:Value->Prop} {dst:Option Nat} {ty:TypeId} {pos:String} {af:Array Edge} {gd:Option (Nat × Bool)}
variable {g j:Nat}
theorem addr_add {o:Nat}:(⟨g,o,none⟩:Addr).add j=⟨g,o+j,none⟩:=by unfold Addr.add;split<;>simp_all
theorem Yfp {t e:TypeId} {x i:Operand} {X Y:Ty} {g n c z:Nat} {j:Nat} (hz:Y.size=z)
 (h:V (.slice (some ⟨g,j*z,none⟩) (n - j) (c - j))) (T:Tab P:=by exact T) (hT:T.inf t=some X:=by exact rfl) (hd:X.desc=.slice e:=by exact rfl) (hY:T.inf e=some Y:=by exact rfl) (hx:r x=some (Zv g n c):=by exact rfl) (hi:r i=some (Zk j):=by exact rfl) (hj:j<=n:=by omega) (hc:j<c:=by omega):DoesQ P cx ⟨dst,.slice t x (some i) none none,ty,pos,af,gd⟩ r fz H V:=
  YL (v:=Zc (some ⟨g,j*z,none⟩) (n - j) (c - j)) (fun ρ w hr=>by
   have hu:=run_underlying (und_plain T hT hd rfl) w;have hs:=Lx.run_sizeOf T hY w;have ha:(⟨g,0,none⟩:Addr).add (j*Y.size)=⟨g,j*z,none⟩:=by rw [hz,addr_add,Nat.zero_add]
   simp [execOp,hr _ _ hx,hr _ _ hi,Instr.sliceAt,Instr.slice,Instr.sliceBounds,Instr.sliceBound,asIntOf,hu,hs,hj,ha];omega) h
variable {A:Option Addr} {X Y:Ty} {c n:Nat} {e t:TypeId} {x:Operand}
theorem YoY (T:Tab P) {i:Operand} (hT:T.inf t=some X) (hd:X.desc=.slice e) (hY:T.inf e=some Y)
 (hx:r x=some (.slice A n c)) (hi:r i=some (Zk j)) (hj:j<=c) (h:V (.slice A j c)):DoesQ P cx ⟨dst,.slice t x none (some i) none,ty,pos,af,gd⟩ r fz H V:=
 YL (fun ρ w hr=>by
  have hu:=run_underlying (und_plain T hT hd rfl) w;have hs:=Lx.run_sizeOf T hY w;simp [execOp,hr _ _ hx,hr _ _ hi,Instr.sliceAt,Instr.slice,Instr.sliceBounds,Instr.sliceBound,asIntOf,hu,hs,hj];intro _;cases A<;>simp [Addr.add]) h
theorem YcX {t e:TypeId} {x i:Operand} {X Y:Ty} {g b n c z:Nat} {k:IntKind} {j:Int}
 (hs:Y.size=z) (h:V (.pointer (some ⟨g,(b+j.toNat)*z,none⟩))) (T:Tab P:=by exact T) (hT:T.inf t=some X:=by exact rfl) (hd:X.desc=.slice e:=by exact rfl) (hY:T.inf e=some Y:=by exact rfl) (hx:r x=some (.slice (some ⟨g,b*z,none⟩) n c):=by exact rfl) (hi:r i=some (.int k j):=by exact rfl) (h0:0<=j:=by omega) (hn:j<n:=by omega):DoesQ P cx ⟨dst,.indexAddr t x i,ty,pos,af,gd⟩ r fz H V:=by
  refine Yct T hT hd hY hx hi h0 hn ?_;rw [hs,addr_add,<- Nat.add_mul];exact h
variable {t':TypeId}
theorem k_clear (T:Tab P) {pre post:HP} {o z:Nat} {cur:List Value} {K:Value->FZ->HP->Prop} (hT:T.inf t=some X) (hd:X.desc=.slice e) (hY:T.inf e=some Y) (hz:Y.zero.cells.size=z) (h1:Y.zero.cells.toList.all (·.oneCell')=true) (hz0:0<z)
 (hx:r x=some (Zc (some ⟨g,o,none⟩) n c)) (hn:0<n) (hH:H=pre++(g,Zu cur.toArray t')::post) (hle:o+n*z<=cur.length)
 (h:∀ cur':List Value,cur'.length=cur.length->cur'.take o=cur.take o->K (.tuple #[]) fz (pre++(g,Zu cur'.toArray t')::post)):
 Does P cx ⟨dst,.call {callee:=.builtin .clear,args:=#[x],argTypes:=#[t]},ty,pos,af,gd⟩ r fz H K:=by
 refine Does.of fun ρ w hr hw=>?_
 subst hH;have hb:=(hw.hp.own (g,Zu cur.toArray t') (by simp)).1;obtain ⟨n,rfl⟩:∃ m,n=m+1:=⟨n - 1,by omega⟩;generalize hcs:(Builtin.zeroCells Y.zero.cells (n+1)).toList=cs;have hcl:cs.length=(n+1)*z:=by rw [<- hcs];simp [Builtin.zeroCells,hz]
 have hc1:∀ u∈cs,u.oneCell'=true:=by
  intro u hu;rw [<- hcs] at hu;simp only [Builtin.zeroCells,Array.toList_map,Array.toList_range,List.mem_map,List.mem_range] at hu;obtain ⟨i,hi,rfl⟩:=hu;have hlt:i % Y.zero.cells.size<Y.zero.cells.size:=Nat.mod_lt _ Zi;rw [getElem!_pos Y.zero.cells _ hlt];exact List.all_eq_true.1 h1 _ (Array.getElem_mem_toList hlt)
 have hst:=run_storeCells_at (P:=P) g o t' cs 0 cur.toArray w hb (by simp;omega) hc1;simp only [Nat.add_zero] at hst;have hu:=run_underlying (und_plain T hT hd rfl) w;have hze:=Ybz T hY w;have hexec:(execOp ρ ⟨dst,.call {callee:=.builtin .clear,args:=#[x],argTypes:=#[t]},ty,pos,af,gd⟩).run P w=.ok (.value (.tuple #[])) (w.setRow g (cur.take o++cs++cur.drop (o+cs.length)).toArray):=by
  simp only [execOp,resolve,invoke,builtin,Sem.run_bind,Sem.run_pure,Result.andThen_ok,List.map_toArray,List.map_cons,List.map_nil,hr _ _ hx,Builtin.clear_];simp [hu,hze,hcs,hst]
 rw [hexec];refine ⟨fz,_,hw.write (o':=.cells (cur.take o++cs++cur.drop (o+cs.length)).toArray t' (0,0)) rfl rfl rfl (by simp) ?_ (fun k hk=>?_),h _ ?_ ?_⟩
 ·simp [World.setRow,Array.getElem?_modify,hb]
 ·simp only [World.setRow,Array.getElem?_modify];rw [if_neg Zi]
 ·simp;omega
 rw [List.append_assoc,List.take_append_of_le_length (by rw [List.length_take];omega),List.take_take,Nat.min_self]
end
end Go.Lx
namespace Go.Proofs.YtbdpaoikccabhaaGreatDoor
variable {i g n k c:Nat} {fz:FZ} {t:TypeId} {d:Domain} {p:Problem} {u1 u2 u3 u4 u5 u6 u7 v1 v2 v3 v4 v5 v6 va:Value} {Hs:HP} {A:Option Addr} {cs:List Value} {W:Wd}
def cpt (l:List Atom):Nat->List Atom
 | 0=>[]
 | i+1=>match l[i]? with
  | none=>cpt l i
  | some x=>if i≠0/\l[i - 1]?=some x then cpt l i else cpt l i++ [x]
theorem YmW {l:List Atom} {x:Atom} (h0:i≠0) (hx:l[i]?=some x) (hy:l[i - 1]?=some x):cpt l (i+1)=cpt l i:=by
 rw [cpt,hx];exact if_pos ⟨h0,hy⟩
theorem Yjc {l:List Atom} {x:Atom} (hx:l[i]?=some x) (h:i=0\/l[i - 1]?≠some x):cpt l (i+1)=cpt l i++ [x]:=by
 rw [cpt,hx];exact if_neg (fun hh=>h.elim hh.1 (fun h=>h hh.2))
theorem Yjd (l:List Atom):∀ i,(cpt l i).length<=i
 | 0=>Zs _
 | i+1=>by
  have:=Yjd l i;rw [cpt];split
  ·omega
  split
  ·omega
  rw [List.length_append];simp;omega
theorem YlJ {l:List Atom} {a:Atom}:∀ i,a∈cpt l i↔a∈l.take i
 | 0=>by simp [cpt]
 | i+1=>by
  have ih:=YlJ (l:=l) (a:=a) i;rw [cpt,List.take_add_one];split
  ·rename_i h;rw [h];simpa using ih
  rename_i x h;rw [h];split
  ·rename_i hc;rw [ih];constructor
   ·exact fun hh=>List.mem_append.2 (.inl hh)
   intro hh;rcases List.mem_append.1 hh with hh | hh
   ·exact hh
   simp at hh;subst hh;have:(l.take i)[i - 1]?=some a:=by rw [List.getElem?_take_of_lt Zi];exact hc.2
   exact Zm this
  simp [ih]
theorem Yqd (l:List Atom):∀ i,(cpt l i).Sublist (l.take i)
 | 0=>by simp [cpt]
 | i+1=>by
  have ih:=Yqd l i;rw [cpt,List.take_add_one];split
  ·rename_i h;rw [h];simpa using ih
  rename_i x h;rw [h];split
  ·exact ih.trans (List.sublist_append_left _ _)
  exact ih.append (List.Sublist.refl _)
def cptM (l:List Atom):List Atom:=cpt l l.length
theorem Yf3 {l:List Atom} {a:Atom}:a∈cptM l↔a∈l:=by unfold cptM;rw [YlJ,List.take_length]
theorem YnS {fv:Value}:QFn prog 42 [Zn,fv] fz Zn:=by
 refine qF Tryz.func42 Tryz.ntmps42 (fun w0=>?_);refine wC ?_ ?_<;>intro c1
 ·exact wR (h:=rfl)
 exact absurd c1 Zh
theorem _root_.Go.Lx.GrowB.cut {α:Type} {L:Lay α} {e:Nat} {m cap:Nat} {cur cur':List Value} {a b:List α} (h:GrowB L e fz g n cap cur (a++b)) (hm:a.length=m) (hl:cur'.length=cur.length) (ht:cur'.take (m*L.size)=cur.take (m*L.size)):GrowB L e fz g m cap cur' a:=by
 obtain ⟨xs,h1,h2,h3⟩:=h.pairs;obtain ⟨xs1,xs2,rfl,h4,h5⟩:=List.map_eq_append_iff.1 h1;have hn:=h.len;rw [List.length_append,hm] at hn;have hx:xs1.length=m:=by rw [<- hm,<- h4,List.length_map]
 have hmn:m*L.size<=n*L.size:=Nat.mul_le_mul_right _ Zi;have hf:(xs1.flatMap Prod.snd).length=m*L.size:=by rw [YaQ (fun p hp=>L.len (h2 p (List.mem_append.2 (.inl hp)))),hx]
 refine ⟨⟨xs1,h4,fun p hp=>h2 p (List.mem_append.2 (.inl hp)),?_⟩,hm,by have:=h.capn;omega,h.max,by rw [hl];exact h.size⟩;have e:(cur.take (n*L.size)).take (m*L.size)=xs1.flatMap Prod.snd:=by rw [h3,List.flatMap_append,List.take_left' hf]
 rw [List.take_take,Nat.min_eq_left hmn] at e;rw [ht,e]
theorem YnR {cap:Nat} {cur:List Value} {l:List Atom} (hB:GrowB atomL t fz g n cap cur l) (hn:0<n) (hn2:n<=2000000):
 GFn prog 42 [Zv g n cap,.func (.func 39) #[] #[]] fz [(g,Zu cur.toArray t)]
  (fun r fz' H'=>fz=fz'/\∃ m cur',r=Zv g m cap/\H'=[(g,Zu (List.toArray cur') t)]/\GrowB atomL t fz g m cap cur' (cptM l)):=by
 have hl:=hB.len;have hcn:=hB.capn;have hcs:=hB.size;have hmax:=hB.max;unfold maxLen at hmax;have hz:atomL.size=2:=rfl
 -- an atom of the row,as1 it lies there
 have look:∀ {cur':List Value} {l':List Atom} {m i:Nat} {a:Atom},GrowB atomL t fz g m cap cur' l'->l'[i]?=some a->∃ A n c,AtomR fz a (Zc A n c)/\∀ {j:Nat},j=i*2->(cur'.drop j).take 2=[Zy a.name,Zc A n c]:=by
  intro cur' l' m i a hb ha;obtain ⟨cs,hr,hc⟩:=YbH hb ha;obtain ⟨va,rfl,hR⟩:=Xy hr;obtain ⟨A,n,c,rfl,_⟩:=id hR.args;exact ⟨A,n,c,hR,fun hj=>by subst hj;exact hc⟩
 refine zF Tryz.func42 Tryz.ntmps42 (fun w0=>?_);refine wC ?_ ?_<;>intro c1
 ·have h1:n=1:=by omega
  obtain ⟨x,hx⟩:=Yf (l:=l) (k:=0) Zi;have hcp:cptM l=l:=by
   unfold cptM;rw [hl,h1,Yjc hx (.inl rfl),cpt]
   match l,hl,hx with
   | [y],_,hx=>simpa using hx.symm
   | [],hl,_=>simp at hl;omega
   | _::_::_,hl,_=>simp at hl;omega
  exact wR (h:=by exact ⟨rfl,n,cur,rfl,rfl,by rw [hcp];exact hB⟩)
 refine zW ?_;refine Yn (fun q σ fz' H'=>∃ k:Nat,1<=k/\k<=n/\q=n - k/\σ=[(5,Zk k),(0,Zv g n cap),(1,.func (.func 39) #[] #[])]/\fz=fz'/\H'=[(g,Zu cur.toArray t)]/\cpt l k=l.take k) ⟨1,Zs _,by omega,rfl,rfl,rfl,rfl,?_⟩ Zw Zb ?_
 ·obtain ⟨x,hx⟩:=Yf (l:=l) (k:=0) Zi;rw [Yjc hx (.inl rfl),cpt,List.take_add_one,hx];rfl
 rintro q σ fz' H' ⟨k,hk1,hk,rfl,rfl,rfl,rfl,hcp⟩;refine wC ?_ ?_<;>intro c2
 ·obtain ⟨x,hx⟩:=Yf (l:=l) (k:=k) Zi;obtain ⟨y,hy⟩:=Yf (l:=l) (k:=k - 1) Zi;obtain ⟨Ax,nx,cx,hRx,hcx⟩:=look hB hx;obtain ⟨Ay,ny,cy,hRy,hcy⟩:=look hB hy;refine wG ?_;refine Yo rfl ?_;refine zG ?_;refine Yh (vs:=[Zy x.name,Zc Ax nx cx]) 0 ?_ (hv:=hcx (j:=(k:Int).toNat*2) Zi);refine wG ?_;refine Yo rfl ?_;refine zG ?_;refine Yh (vs:=[Zy y.name,Zc Ay ny cy]) 0 ?_ (hv:=hcy (j:=((k:Int) - 1).toNat*2) Zi);refine wG ?_;refine Wb Zz Zz Zz (Ybc hRx hRy) (fun f1=>?_) (fun f1=>?_)
  ·have exy:x=y:=f1;subst exy;have hcp1:cpt l (k+1)=l.take k:=by rw [YmW Zi hx hy,hcp]
   refine wG ?_;refine Yfp (z:=2) rfl ?_;refine zW ?_;refine Yn (fun q σ fz' H'=>∃ (j m:Nat) (cur1:List Value),1<=j/\k+j<=n/\q=n - (k+j)/\m<k+j/\σ=[(7,Zk j),(6,Zc (some ⟨g,k*2,none⟩) (n - k) (cap - k)),(5,Zk m),(0,Zv g n cap),(1,.func (.func 39) #[] #[])]/\fz=fz'/\H'=[(g,Zu cur1.toArray t)]/\(cpt l (k+j)).length=m/\GrowB atomL t fz g n cap cur1 (cpt l (k+j)++l.drop m)) ⟨1,k,cur,Zs _,by omega,rfl,by omega,rfl,rfl,rfl,by rw [hcp1,List.length_take];omega,by rw [hcp1,List.take_append_drop];exact hB⟩ Zw Zb ?_;rintro q σ fz' H' ⟨j,m,cur1,hj1,hj,rfl,hm,rfl,rfl,rfl,hcl,hB1⟩;have hat:∀ i,m<=i->(cpt l (k+j)++l.drop m)[i]?=l[i]?:=fun i hi=>by
    rw [List.getElem?_append_right Zi,hcl,List.getElem?_drop,show m+(i - m)=i by omega]
   have hs1:=hB1.size;refine wC ?_ ?_<;>intro c3
   ·obtain ⟨u,hu⟩:=Yf (l:=l) (k:=k+j) Zi;obtain ⟨v,hv⟩:=Yf (l:=l) (k:=k+j - 1) Zi;obtain ⟨Au,nu,cu,hRu,hcu⟩:=look hB1 ((hat (k+j) Zi).trans hu);obtain ⟨Av,nv,cv,hRv,hcv⟩:=look hB1 ((hat (k+j - 1) Zi).trans hv);refine wG ?_;refine YcX rfl ?_;refine zG ?_;refine Yh (vs:=[Zy u.name,Zc Au nu cu]) 0 ?_ (hv:=hcu (j:=(k+(j:Int).toNat)*2) Zi);refine wG ?_;refine YcX rfl ?_;refine zG ?_;refine Yh (vs:=[Zy v.name,Zc Av nv cv]) 0 ?_ (hv:=hcv (j:=(k+((j:Int) - 1).toNat)*2) Zi);refine wG ?_;refine Wb Zz Zz Zz (Ybc hRu hRv) (fun f2=>?_) (fun f2=>?_)
    ·have euv:u=v:=f2;subst euv;have hc2:cpt l (k+j+1)=cpt l (k+j):=YmW Zi hu hv;exact wP (h:=by exact ⟨j+1,m,cur1,by omega,by omega,rfl,by omega,rfl,rfl,rfl,by rw [<- Nat.add_assoc,hc2];exact hcl,by rw [<- Nat.add_assoc,hc2];exact hB1⟩)
    have euv:¬u=v:=f2;have hc2:cpt l (k+j+1)=cpt l (k+j)++ [u]:=Yjc hu (.inr (by rw [hv];intro h;injection h with h;exact euv h.symm));have hset:(cpt l (k+j)++l.drop m).set m u=cpt l (k+j)++ [u]++l.drop (m+1):=by
     rw [List.set_append_right _ _ Zi,hcl,Nat.sub_self,List.drop_eq_getElem_cons Zi,List.set_cons_zero];simp
    refine wG ?_;refine YcX rfl ?_;refine zG ?_;refine Yh (vs:=[Zy u.name,Zc Au nu cu]) 0 ?_ (hv:=hcu (j:=(k+(j:Int).toNat)*2) Zi);refine wG ?_;refine Yo rfl ?_;refine YI (YE (pre:=[]) (L:=atomL) (j:=m) rfl rfl YbK (Ycg hRu) hB1 (fun cur2 hB2=>?_));exact wP (h:=by exact ⟨j+1,m+1,cur2,by omega,by omega,rfl,by omega,rfl,rfl,rfl,by rw [<- Nat.add_assoc,hc2,List.length_append,hcl];rfl,by rw [<- Nat.add_assoc,hc2,<- hset];exact hB2⟩)
   have hkj:k+j=n:=by omega
   refine wG ?_;refine Yfp (z:=2) rfl ?_;refine YI (k_clear T (pre:=[]) (z:=2) Zz Zz Zz rfl rfl Zi Zz Zi rfl (by rw [hs1,hz];omega) (fun cur3 hl3 ht3=>?_));refine wG ?_;refine YoY T Zz Zz Zz Zz Zz Zi ?_;refine zW ?_;rw [hkj] at hcl hB1;exact wR (h:=by exact ⟨rfl,m,cur3,rfl,rfl,by unfold cptM;rw [hl];exact hB1.cut hcl hl3 ht3⟩)
  have exy:¬x=y:=f1;exact wP (h:=by exact ⟨k+1,by omega,by omega,rfl,rfl,rfl,rfl,by rw [Yjc hx (.inr (by rw [hy];intro h;injection h with h;exact exy h.symm)),hcp,List.take_add_one,hx];rfl⟩)
 have hk2:n=k:=by omega
 subst hk2;exact wR (h:=by exact ⟨rfl,n,cur,rfl,rfl,by unfold cptM;rw [hl,hcp,Zl Zi];exact hB⟩)
def mnM (d:Domain) (p:Problem):Mn:=⟨d,d.types,objsM d p⟩
theorem Ylt (hM:MaxF fz) (hD:DomainR fz d v1 v2 v3 v4 v5 v6) (hP:ProblemR fz p u1 u2 u3 u4 u5 u6 u7) (hS:ChkS d p) (h6:(objsM d p).length<=6):
 GFn prog 15 [ZD d v1 v2 v3 v4 v5 v6,ZP p u1 u2 u3 u4 u5 u6 u7] fz []
  (fun r fz' H'=>H'=[]/\∃ vm,r=.tuple #[vm,errV (Y4 d p).2]/\((Y4 d p).2=0->MnR fz' vm (mnM d p))):=by
 have hD0:=hD;have hP0:=hP;obtain ⟨⟨A1,n1,b1,rfl,i1⟩,⟨A2,n2,b2,rfl,i2⟩,⟨A3,n3,b3,rfl,i3⟩,⟨A4,n4,b4,rfl,i4⟩,⟨A5,n5,b5,rfl,i5⟩,⟨A6,n6,b6,rfl,i6⟩⟩:=hD.sls;obtain ⟨⟨B1,m1,d1,rfl,j1⟩,⟨B2,m2,d2,rfl,j2⟩,⟨B3,m3,d3,rfl,j3⟩⟩:=hP.sls;obtain ⟨⟨B4,m4,d4,rfl,_⟩,⟨B5,m5,d5,rfl,_⟩,⟨B6,m6,d6,rfl,_⟩,⟨B7,m7,d7,rfl,_⟩⟩:=hP.goal.sls;refine zF Tryz.func15 Tryz.ntmps15 (fun w0=>?_);refine pX (fun g2=>?_);refine pY (fun g3=>?_);refine zWO ?_;refine vc (Yql hM hD0 hP0 hS) ?_;rw [show resV (Y4 d p)=.tuple #[Zy (Y4 d p).1,errV (Y4 d p).2] from rfl];by_cases hc:(Y4 d p).2=0;rotate_left 1
 ·rw [YD hc];exact vS (h:=by exact ⟨rfl,_,rfl,fun h=>absurd h hc⟩)
 rw [hc,show errV 0=.nilIface from rfl];have hok:=Yh5 hc;obtain ⟨hL,hT64,hp6⟩:=YgE hok.lim;have htok:∀ q∈d.types,Xk q.name/\YdE q.typ:=fun q hq=>hok.dok.1.2.1 q hq
 refine vK (q:=YiZ hM hD0 hT64 htok) (h:=fun v7 fz7 H7 hle7 hR7=>?_);obtain ⟨rfl,vf,rfl,hvf⟩:=hR7;obtain ⟨gf,gm,evf,hf1,hf2⟩:=hvf hok.typ;subst evf;have hF:ForR fz7 (Zp gf) d.types:=⟨gf,gm,rfl,hf1,hf2⟩;have hW:WFT d.types:=YiJ hok.typ (fun q hq=>(YaV i1 q hq).2) hT64;rw [hok.typ,show errV 0=.nilIface from rfl];have hD7:=hD0.mono hle7;have hP7:=hP0.mono hle7;refine zWN ?_;refine Y6 [_,_] ?_;refine zW ?_;refine pU ?_;refine Yg (Does.post (Yk [] [_,_] Zz (Ybp hD7 hP7 hS.dsm.constants hS.psm.objects) (fun v8 fz8' H8 hle8' hR8=>⟨[_,_],H8,Zq,fun fz8 hle8'' hf8=>?_⟩)));obtain ⟨Aa,ca,rfl,hall8⟩:=hR8.sl hle8'' hf8 (by have:=hS.dsm.constants;have:=hS.psm.objects;omega);have hle8:=hle8'.trans hle8'';refine ⟨⟨hle8,Zx⟩,?_⟩;refine Ch.qk ⟨hle8,Zx⟩ (XH ?_);refine Yg (Ydv _ (fun gk=>⟨⟨hle8,Zx⟩,?_⟩));refine Ch.qk ⟨hle8,Zx⟩ (YR ?_);refine Ch.qk ⟨hle8,Zx⟩ (YR ?_);refine Ch.done ?_;refine zW ?_;refine ret2F rfl rfl rfl (fun fz9 hle9 hf9=>⟨rfl,_,rfl,fun _=>?_⟩);have hk:=hf9 _ (.head _);exact ⟨⟨gk,_,_,_,_,_,_,_,_,_,_,_,_,_,_,_,_,_,_,_,_,_,rfl,hk,hD7.mono (hle8.trans hle9),hF.mono (hle8.trans hle9),hall8.mono hle9⟩,hW,h6⟩
section
variable [Dr]
theorem YcV {P:Program} {cx:Cx} {r:Operand->Option Value} {fz:FZ} {H:HP} {V:Value->Prop} {dst:Option Nat} {ty:TypeId} {pos:String} {af:Array Edge} {gd:Option (Nat × Bool)} {t:TypeId} {x:Operand} {t2:TypeId} {X:Ty} {g j:Nat} {cs vs:List Value} {f:Nat × Nat} (i:Nat)
 (h:V (.agg vs.toArray)) (T:Tab P:=by exact T) (hT:T.inf t=some X:=by exact rfl) (hd:Wc X.desc=true:=by exact rfl) (hx:r x=some (.pointer (some ⟨g,j,none⟩)):=by exact rfl) (hi:H[i]?=some (g,.cells cs.toArray t2 f):=by exact rfl) (hv:(cs.drop j).take X.size=vs:=by exact rfl) (hs:X.size=vs.length:=by exact rfl):DoesQ P cx ⟨dst,.load t x,ty,pos,af,gd⟩ r fz H V:=
  DoesQ.of h fun ρ w hr hw=>by
   have hc:∀ m v,vs[m]?=some v->w.cell? ((⟨g,j,none⟩:Addr).add m)=some v:=fun m v hm=>by
    rw [addr_add,hw.cellOwn hi];rw [<- hv,List.getElem?_take] at hm;split at hm
    ·rw [List.getElem?_drop] at hm;simpa using hm
    cases hm
   simp only [execOp,hr _ _ hx,Instr.loadAt,Instr.sureAddr,Sem.run_bind,Sem.run_pure,Result.andThen_ok,YaT T hT hd hs hc];exact ⟨rfl,Fr.refl _ _⟩
theorem YhB {fz:FZ} {a b:Atom} {va vb:Value} (ha:AtomR fz a va) (hb:AtomR fz b vb):GFn prog 41 [.agg #[Zy a.name,va],.agg #[Zy b.name,vb]] fz [] (fun r fz' H'=>H'=[]/\r=Zk (cmpA a b)):=by
 obtain ⟨A,n,c,rfl,ia⟩:=ha.args;obtain ⟨B,m,d,rfl,ib⟩:=hb.args;refine zF Tryz.func41 Tryz.ntmps41 (fun w0=>?_);refine pX (fun g0=>?_);refine pY (fun g1=>?_);refine zWN ?_;refine Y6 [_,_] ?_;refine wc (Yqj (a:=a.name) (b:=b.name)) ?_;refine wc (cmpL_q ia ib) ?_;refine pU ?_;refine Yg (Yc (cs:=[Zk (cmpS a.name b.name),Zk (cmpL a.args b.args)]) (fun gb=>⟨⟨Zd,Zx⟩,?_⟩));refine Yg (Yk [_] [_,_] Zz (or_f (YlM _ _) (YlN _ _) ⟨Zs _,by decide⟩) (fun v2 fz2 H2 hle2 hR2=>?_));obtain ⟨rfl,rfl⟩:=hR2;refine ⟨⟨hle2,Zx⟩,?_⟩;refine Ch.q (YR ⟨⟨hle2,Zx⟩,?_⟩);refine Ch.done ?_;refine zW ?_;exact Yb1 rfl rfl (fun fz3 hle3 hf3=>⟨rfl,rfl⟩)
theorem Yld {fz:FZ} {a b:Value_} {ca cb:List Value} (ha:valueL.rep fz a ca) (hb:valueL.rep fz b cb):GFn prog 44 [.agg ca.toArray,.agg cb.toArray] fz [] (fun r fz' H'=>H'=[]/\r=Zk (cmpA a.fluent b.fluent)):=by
 obtain ⟨va,rfl,hA⟩:=XM ha;obtain ⟨vb,rfl,hB⟩:=XM hb;have hA1:=hA.fluent;have hB1:=hB.fluent;obtain ⟨A,n,c,rfl,ia⟩:=hA.fluent.args;obtain ⟨B,m,d,rfl,ib⟩:=hB.fluent.args;refine zF Tryz.func44 Tryz.ntmps44 (fun w0=>?_);refine pX (fun g0=>?_);refine pY (fun g1=>?_);refine wG ?_;refine YcV (vs:=[Zy a.fluent.name,Zc A n c]) 1 ?_;refine wG ?_;refine YcV (vs:=[Zy b.fluent.name,Zc B m d]) 0 ?_;refine zW ?_;refine Yd (Yk [] [_,_] Zz (YhB hA1 hB1) (fun v2 fz2 H2 hle2 hR2=>?_));obtain ⟨rfl,rfl⟩:=hR2;refine zW ?_;exact Yb1 rfl rfl (fun fz3 hle3 hf3=>⟨rfl,rfl⟩)
end
theorem YbZ:OneC valueL:=by
 intro fz d cs h u hu;obtain ⟨va,rfl,hR⟩:=XM h;obtain ⟨A,n,c,rfl,_⟩:=hR.fluent.args;simp at hu;rcases hu with rfl | rfl | rfl<;>rfl
theorem sortSA_f {cap:Nat} {cur:List Value} {l:List Atom} (hB:GrowB atomL t fz g n cap cur l) (hn:0<n) (hn2:n<=2000000):
 GFn prog 40 [Zv g n cap,.func (.func 41) #[] #[]] fz [(g,Zu cur.toArray t)]
  (fun r fz' H'=>r=.tuple #[]/\fz=fz'/\∃ cur' l',H'=[(g,Zu (List.toArray cur') t)]/\GrowB atomL t fz g n cap cur' l'/\l'.Perm l/\SortedBy cmpA l'):=
 sortG Ya9 rfl ⟨_,Tryz.func40,by decide,by decide⟩ YbK (z:=2) rfl Zh
  (fun W=>(Go.Lx.run_isAgg T (t:=59) rfl W).trans rfl) (fun W=>(Go.Lx.run_sizeOf T (t:=59) rfl W).trans rfl) (fun f=>ordA.swo f)
  (enters_of Tryz.func41 Zj rfl) (fun ha hb=>by
   obtain ⟨va,rfl,hA⟩:=Xy ha;obtain ⟨vb,rfl,hB⟩:=Xy hb;exact @YhB drT _ _ _ _ _ hA hB) hB hn hn2
theorem sortSV_f {cap:Nat} {cur:List Value} {l:List Value_} (hB:GrowB valueL t fz g n cap cur l) (hn:0<n) (hn2:n<=2000000):
 GFn prog 43 [Zv g n cap,.func (.func 44) #[] #[]] fz [(g,Zu cur.toArray t)]
  (fun r fz' H'=>r=.tuple #[]/\fz=fz'/\∃ cur' l',H'=[(g,Zu (List.toArray cur') t)]/\GrowB valueL t fz g n cap cur' l'/\l'.Perm l/\SortedBy (fun x y=>cmpA x.fluent y.fluent) l'):=
 sortG YdF rfl ⟨_,Tryz.func43,by decide,by decide⟩ YbZ (z:=3) rfl Zh
  (fun W=>(Go.Lx.run_isAgg T (t:=117) rfl W).trans rfl) (fun W=>(Go.Lx.run_sizeOf T (t:=117) rfl W).trans rfl) (fun f=>ordA.swo fun x=>(f x).fluent)
  (enters_of Tryz.func44 Zj rfl) (fun ha hb=>@Yld drT _ _ _ _ _ ha hb) hB hn hn2
theorem sort0A_q {fv:Value}:QFn prog 40 [Zn,fv] fz (.tuple #[]):=by
 unfold QFn;refine ⟨⟨_,Tryz.func40,by decide,by decide⟩,fun w hw=>?_⟩;exact (AnyF.slices_SortFunc_none Ya9 none 0 fv w).mono fun e w' ⟨he,hb⟩=>⟨he,by subst hb;exact Fr.refl _ _⟩
theorem sort0V_q {fv:Value}:QFn prog 43 [Zn,fv] fz (.tuple #[]):=by
 unfold QFn;refine ⟨⟨_,Tryz.func43,by decide,by decide⟩,fun w hw=>?_⟩;exact (AnyF.slices_SortFunc_none YdF none 0 fv w).mono fun e w' ⟨he,hb⟩=>⟨he,by subst hb;exact Fr.refl _ _⟩
theorem YmX {a:Atom} (ha:AtomR fz a va) (hl:a.args.length<=1000000000):GFn prog 36 [.agg #[Zy a.name,va]] fz [] (fun r fz' H'=>H'=[]/\∃ va',r=.agg #[Zy a.name,va']/\AtomR fz' a va'):=by
 obtain ⟨A,n,c,rfl,ia⟩:=ha.args;have ln:=ia.len;refine zF Tryz.func36 Tryz.ntmps36 (fun w0=>?_);refine pX (fun g1=>?_);refine zWO ?_;intros;rename_i g2;refine zWN ?_;refine Y6 [_,_] ?_;refine zW ?_;refine pU ?_;refine Yg (Does.post (Yk [] [_,_] Zz (YbI ia Zi) (fun v5 fz5' H5 hle5' hR5=>⟨[_,_],H5,Zq,fun fz5 hle5'' hf5=>?_⟩)));obtain ⟨A',c',rfl,hs⟩:=hR5.sl hle5'' hf5 Zi;have hle5:=hle5'.trans hle5'';refine ⟨⟨hle5,Zx⟩,?_⟩;refine Ch.qk ⟨hle5,Zx⟩ (XH ?_);refine Ch.hard0 (Yy ?_);refine Ch.done ?_;refine zW ?_;refine YW (i:=0) rfl (fun fz3 hle3 hf3=>⟨rfl,_,rfl,ha.name,?_⟩);exact (hs.mono hle3).is
theorem YgR {f:FuncId} {args:List Value} {v:Value} {R:Value->FZ->HP->Prop} (h:QFn prog f args fz v) (hc:YbP prog f) (hR:R v fz []):GFn prog f args fz [] R:=
 GFn.of hc fun w hw=>(h.out w hw).mono fun e w' ⟨he,hf⟩=>⟨v,fz,[],he,hR,⟨fun b o hb=>by
  have h1:=hw.keep b o hb;rw [hf.block b (lt_of_heap h1) (by simp)];exact h1,by simp,by simp⟩,hf,⟨fun _ _ h=>h,fun _ _ _=>rfl,by simp⟩⟩
def Yjr {α:Type} (L:Lay α) (e:Nat) (fz:FZ) (v:Value) (n:Nat) (Hs:HP) (l:List α):Prop:=(n=0->v=Zn/\Hs=[])/\Grow L e fz v n Hs l
theorem sortA_f {v:Value} {l:List Atom} (h:Yjr atomL 59 fz v n Hs l) (hn2:n<=2000000):
 GFn prog 40 [v,.func (.func 41) #[] #[]] fz Hs (fun r fz' H'=>r=.tuple #[]/\fz=fz'/\∃ l',Yjr atomL 59 fz v n H' l'/\l'.Perm l/\SortedBy cmpA l'):=by
 rcases Nat.eq_zero_or_pos n with h0 | hp
 ·obtain ⟨rfl,rfl⟩:=h.1 h0;have hl:l=[]:=List.eq_nil_of_length_eq_zero (by rw [h.2.len];exact h0);subst hl;exact YgR sort0A_q ⟨_,Tryz.func40,by decide,by decide⟩ ⟨rfl,rfl,[],h,Zr _,fun i j a b _ ha=>by simp at ha⟩
 obtain ⟨g,cap,cur,rfl,rfl,hb⟩:=h.2.b hp;exact (sortSA_f hb hp hn2).mono fun r fz' H' ⟨h1,h2,cur',l',h3,h4,h5,h6⟩=>⟨h1,h2,l',⟨fun h=>absurd h Zi,h3 ▸ h4.grow⟩,h5,h6⟩
theorem sortV_f {v:Value} {l:List Value_} (h:Yjr valueL 117 fz v n Hs l) (hn2:n<=2000000):
 GFn prog 43 [v,.func (.func 44) #[] #[]] fz Hs (fun r fz' H'=>r=.tuple #[]/\fz=fz'/\∃ l',Yjr valueL 117 fz v n H' l'/\l'.Perm l):=by
 rcases Nat.eq_zero_or_pos n with h0 | hp
 ·obtain ⟨rfl,rfl⟩:=h.1 h0;have hl:l=[]:=List.eq_nil_of_length_eq_zero (by rw [h.2.len];exact h0);subst hl;exact YgR sort0V_q ⟨_,Tryz.func43,by decide,by decide⟩ ⟨rfl,rfl,[],h,Zr _⟩
 obtain ⟨g,cap,cur,rfl,rfl,hb⟩:=h.2.b hp;exact (sortSV_f hb hp hn2).mono fun r fz' H' ⟨h1,h2,cur',l',h3,h4,h5,_⟩=>⟨h1,h2,l',⟨fun h=>absurd h Zi,h3 ▸ h4.grow⟩,h5⟩
theorem Yqg {v:Value} {l:List Atom} (h:Yjr atomL 59 fz v n Hs l) (hn2:n<=2000000):
 GFn prog 42 [v,.func (.func 39) #[] #[]] fz Hs (fun r fz' H'=>fz=fz'/\∃ m,m<=n/\Grow atomL 59 fz r m H' (cptM l)):=by
 rcases Nat.eq_zero_or_pos n with h0 | hp
 ·obtain ⟨rfl,rfl⟩:=h.1 h0;have hl:l=[]:=List.eq_nil_of_length_eq_zero (by rw [h.2.len];exact h0);subst hl;exact YgR YnS ⟨_,Tryz.func42,by decide,by decide⟩ ⟨rfl,0,by omega,Grow.nil _ _ _⟩
 obtain ⟨g,cap,cur,rfl,rfl,hb⟩:=h.2.b hp;have hbl:=hb.len;exact (YnR hb hp hn2).mono fun r fz' H' ⟨h1,m,cur',h2,h3,h4⟩=>⟨h1,m,by rw [<- h4.len,<- hbl];have:=Yjd l l.length;exact this,by rw [h2,h3];exact h4.grow⟩
structure WdSm (W:Wd):Prop where
 na:W.atoms.length<=2000000
 nv:W.values.length<=2000000
 a:∀ a∈W.atoms,a.args.length<=1000000000
 v:∀ v∈W.values,v.fluent.args.length<=1000000000
def Yhw (acc:List Value_) (v:Value_):List Value_:=if ∃ x∈acc,x.fluent=v.fluent then acc else acc++ [v]
def dedV (l:List Value_):List Value_:=l.foldl Yhw []
theorem Yqa {l:List Value_} {x:Value_} (hx:l[k]?=some x):dedV (l.take (k+1))=Yhw (dedV (l.take k)) x:=by
 unfold dedV;rw [List.take_add_one,hx,List.foldl_append];rfl
theorem Yf2:∀ (l acc:List Value_),(∀ x∈l.foldl Yhw acc,x∈acc\/x∈l)/\(l.foldl Yhw acc).length<=acc.length+l.length
 | [],acc=>⟨fun x h=>.inl h,by simp⟩
 | v::r,acc=>by
  obtain ⟨h1,h2⟩:=Yf2 r (Yhw acc v);have h3:(Yhw acc v).length<=acc.length+1:=by unfold Yhw;split<;>simp
  refine ⟨fun x hx=>?_,by rw [List.foldl_cons,List.length_cons];omega⟩;rcases h1 x hx with h | h
  ·unfold Yhw at h;split at h
   ·exact .inl h
   rcases List.mem_append.1 h with h | h
   ·exact .inl h
   simp at h;subst h;exact .inr (by simp)
  exact .inr (by simp [h])
theorem world1_q {v x:Value_} {g7:Nat} {t7:TypeId} (hv:AtomR fz v.fluent (Zc A n c)) (h7:fz g7=some (.cells #[Zy v.fluent.name,Zc A n c,Zk v.n] t7 (0,0))) (hcs:valueL.rep fz x cs):
 QFn prog 38 (.agg cs.toArray:: [Zp g7]) fz (Zo (decide (x.fluent=v.fluent))):=by
 obtain ⟨va,rfl,hx⟩:=XM hcs;have hx1:=hx.fluent;obtain ⟨B,m,d,rfl,ib⟩:=hx.fluent.args;refine qF Tryz.func38 Tryz.ntmps38 (fun w0=>?_);refine pX (fun g9=>?_);refine wG ?_;refine Yh (vs:=[Zy x.fluent.name,Zc B m d]) 0 ?_;refine wG ?_;refine WV (vs:=[Zy v.fluent.name,Zc A n c]) h7 ?_;refine zc (Ybc hx1 hv) ?_;exact wR (h:=rfl)
theorem Yn5 {v:Value} (hW:WdR fz W v) (hS:WdSm W):
 GFn prog 16 [v] fz [] (fun r fz' H'=>H'=[]/\∃ W',WdR fz' W' r/\(∃ l,l.Perm W.atoms/\SortedBy cmpA l/\W'.atoms=cptM l)/\W'.values.Perm (dedV W.values)):=by
 obtain ⟨A,n,c,B,m,d,rfl,hA,hV⟩:=hW;have la:=hA.len;have lv:=hV.len;have sa:=hA.short;have sv:=hV.short;have hna:=hS.na;have hnv:=hS.nv;refine zF Tryz.func16 Tryz.ntmps16 (fun w0=>?_);refine pX (fun g1=>?_);refine zW ?_;intros;rename_i g2 g3;refine Yn (fun q σ fz' H'=>∃ (k:Nat) (vo:Value) (Hs:HP),k<=n/\q=n - k/\σ=[(11,Zk k),(10,Zk n),(9,Zc A n c),(3,Zp g3),(2,Zp g2),(1,Zp g1)]/\Le fz fz'/\H'=(g3,Zu #[vo,Zn] 41)::(g2,Zu #[Zn,Zn] 41)::(g1,Zu #[Zc A n c,Zc B m d] 41)::Hs/\Yjr atomL 59 fz' vo k Hs (W.atoms.take k))
  ⟨0,_,[],Z0 _,rfl,rfl,Zd,rfl,⟨fun _=>⟨rfl,rfl⟩,Grow.nil _ _ _⟩⟩ Zw Zb ?_
 rintro q σ fz1 H' ⟨k,vo,Hs,hk,rfl,rfl,hle1,rfl,hz1,hG⟩;obtain ⟨Ao,co,rfl,_,_⟩:=hG.form;refine wC ?_ ?_<;>intro c1
 ·obtain ⟨x,hx⟩:=Yf (l:=W.atoms) (k:=k) Zi;have hxm:=Zm hx;refine wI (hA.mono hle1) hx (fun p1 hp1=>?_);refine zL hp1 ?_;intro cs hcs;obtain ⟨vx,rfl,hRx⟩:=Xy hcs;have hRx0:=hRx;obtain ⟨E1,r1,q1,rfl,_⟩:=hRx.args;refine zWN ?_;intros;rename_i g5;refine Y6 [_,_,_,_] ?_;refine zW ?_;refine Yl (Yl (Yl ?_));refine zW ?_;refine pU ?_;refine Yg (Yk [] (_::_::_::_::Hs) Zz (YmX hRx0 (hS.a x hxm)) (fun v6 fz6 H6 hle6 hR6=>⟨⟨hle6,Zx⟩,?_⟩));obtain ⟨rfl,va6,rfl,hR6⟩:=hR6;refine Yg (Yc (cs:=[Zy x.name,va6]) (fun gb=>⟨⟨hle6,Zx⟩,?_⟩));refine Yg (YG (Hr:=[_,_,_,_,_]) (d:=x) (Zr _) (hG.mono hle6) YbK (.head _) (Ycg hR6) (fun v' Hs' hO'=>⟨⟨hle6,Zx⟩,?_⟩));obtain ⟨Av',cv',rfl,_,_⟩:=hO'.form;refine Ch.hard0 (XK ?_);refine Ch.done ?_;exact wP (h:=by exact ⟨k+1,_,Hs',by omega,rfl,rfl,hle1.trans hle6,rfl,⟨fun h=>absurd h Zi,hO'.of (by rw [List.take_add_one,hx];simp) rfl⟩⟩)
 have hkn:n=k:=by omega
 subst hkn;rw [show W.atoms.take n=W.atoms from Zl Zi] at hG;refine zW ?_;refine Yn (fun q σ fz' H'=>∃ (k:Nat) (vo:Value) (Ho:HP) (mo:Nat),k<=m/\q=m - k/\σ=[(26,Zk k),(25,Zk m),(24,Zc B m d),(3,Zp g3),(2,Zp g2)]/\Le fz1 fz'/\H'=(g3,Zu #[Zc Ao n co,vo] 41)::(g2,Zu #[Zn,Zn] 41)::(Hs++Ho)/\mo<=k/\Yjr valueL 117 fz' vo mo Ho (dedV (W.values.take k)))
  ⟨0,_,[],0,Z0 _,rfl,rfl,Zd,by rw [List.append_nil],Zs _,⟨fun _=>⟨rfl,rfl⟩,Grow.nil _ _ _⟩⟩ Zw Zb ?_
 rintro q σ fz2 H' ⟨k,vo,Ho,mo,hk2,rfl,rfl,hle2,rfl,hmo,hz2,hGV⟩;obtain ⟨Bo,do_,rfl,_,_⟩:=hGV.form;have hle02:=hle1.trans hle2;refine wC ?_ ?_<;>intro c2
 ·obtain ⟨x,hx⟩:=Yf (l:=W.values) (k:=k) Zi;have hxm:=Zm hx;have hnx:=Yqa hx;refine wI (hV.mono hle02) hx (fun p1 hp1=>?_);refine zL hp1 ?_;intro cs hcs;obtain ⟨vx,rfl,hRx⟩:=XM hcs;have hRf:=hRx.fluent;obtain ⟨E1,r1,q1,rfl,_⟩:=hRx.fluent.args;refine zW ?_;intros;rename_i g7;refine zG ?_;refine Y0 ?_;refine zG ?_;refine Ycu (b:=decide (∃ y∈dedV (W.values.take k),y.fluent=x.fluent)) (fun fz' hle hf=>?_) (fun f1=>?_) (fun f1=>?_)
  ·obtain ⟨A',c',e,hs⟩:=hGV.sl hle (fun p hp=>hf p (by simp [hp])) Zi;injection e with e1 e2 e3
   subst e1 e3;exact YcK (cap:=[Zp g7]) (p:=fun y=>y.fluent=x.fluent) hs (fun y _ cs hcs=>world1_q (hRf.mono hle) (hf _ (.head _)) hcs)
  ·have hd:Yhw (dedV (W.values.take k)) x=dedV (W.values.take k):=if_pos (Zt f1);exact wP (h:=by exact ⟨k+1,_,Ho,mo,by omega,rfl,rfl,hle2,rfl,by omega,hz2,by rw [hnx,hd];exact hGV⟩)
  have hd:Yhw (dedV (W.values.take k)) x=dedV (W.values.take k)++ [x]:=if_neg (Zf f1);refine zWN ?_;refine Y6 [_,_,_] ?_;refine wG ?_;refine Yh (vs:=[Zy x.fluent.name,Zc E1 r1 q1]) 0 ?_;refine Yl ?_;refine zW ?_;refine Yl (Yl (Yl ?_));refine zW ?_;refine pU ?_;refine Yg (Yk [] (_::_::_::(Hs++Ho)) Zz (YmX hRf (hS.v x hxm)) (fun v6 fz6 H6 hle6 hR6=>⟨⟨hle6,Zx⟩,?_⟩));obtain ⟨rfl,va6,rfl,hR6⟩:=hR6;refine Ch.qk ⟨hle6,Zx⟩ (XH ?_);refine Yg (Yc (cs:=[Zy x.fluent.name,va6,Zk x.n]) (fun gb=>⟨⟨hle6,Zx⟩,?_⟩));refine Yg (YG (Hr:=_::_::_::_::Hs) (d:=x) (Zr _) (hGV.mono hle6) YbZ (.head _) (Ybi ⟨hR6,hRx.n⟩) (fun v' Hs' hO'=>⟨⟨hle6,Zx⟩,?_⟩));obtain ⟨Av',cv',rfl,_,_⟩:=hO'.form;refine Ch.hard0 (XK ?_);refine Ch.done ?_;exact wP (h:=by exact ⟨k+1,_,Hs',mo+1,by omega,rfl,rfl,hle2.trans hle6,rfl,by omega,⟨fun h=>absurd h Zi,hO'.of (by rw [hnx,hd]) rfl⟩⟩)
 have hkm:m=k:=by omega
 subst hkm;rw [show W.values.take m=W.values from Zl Zi] at hGV;have hGA:Yjr atomL 59 fz2 (Zc Ao n co) n Hs W.atoms:=⟨hz1,hG.mono hle2⟩;have hGZ:Yjr valueL 117 fz2 (Zc Bo mo do_) mo Ho (dedV W.values):=⟨hz2,hGV⟩;refine zW ?_;refine Yd (Does.perm (H':=Hs++(_::_::Ho)) (List.perm_middle.trans (List.perm_middle.cons _)) (Yk Hs _ Zz (sortA_f hGA Zi) (fun v6 fz6 H6 hle6 hR6=>?_)));obtain ⟨rfl,rfl,l1,hG1,hp1,hs1⟩:=hR6;refine Seq.perm (H':=_::_::(H6++Ho)) (List.perm_middle.trans (List.perm_middle.cons _)).symm ?_;refine zW ?_;refine Yd (Does.perm (H':=H6++(_::_::Ho)) (List.perm_middle.trans (List.perm_middle.cons _)) (Yk H6 _ Zz (Yqg hG1 Zi) (fun v7 fz7 H7 hle7 hR7=>?_)));obtain ⟨rfl,m7,hm7,hG7⟩:=hR7;obtain ⟨A7,c7,rfl,_,_⟩:=hG7.form;refine Seq.perm (H':=_::_::(H7++Ho)) (List.perm_middle.trans (List.perm_middle.cons _)).symm ?_;refine zW ?_;refine Yd (Does.perm (H':=Ho++(_::_::H7)) Zq (Yk Ho _ Zz (sortV_f hGZ Zi) (fun v8 fz8 H8 hle8 hR8=>?_)));obtain ⟨rfl,rfl,l8,hG8,hp8⟩:=hR8;refine Seq.perm (H':=_::_::(H7++H8)) (Zq (l₁:=_::_::H7)) ?_;refine zW ?_;refine YW (i:=1) rfl (fun fz9 hle9 hf9=>?_);obtain ⟨B9,d9,e9,hS9⟩:=hG7.sl hle9 (fun p hp=>hf9 p (by simp [hp])) Zi;injection e9 with x1 x2 x3
 subst x1 x3;obtain ⟨C9,q9,e9,hT9⟩:=hG8.2.sl hle9 (fun p hp=>hf9 p (by simp [hp])) Zi;injection e9 with x1 x2 x3
 subst x1 x3;exact ⟨rfl,⟨cptM l1,l8⟩,⟨_,_,_,_,_,_,rfl,hS9,hT9⟩,⟨l1,hp1,hs1,rfl⟩,hp8⟩
end Go.Proofs.YtbdpaoikccabhaaGreatDoor
