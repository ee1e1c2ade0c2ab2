/- The texts U6, UW, UX, VA, HG, HI, HJ, VB, U8, UY, laid together. Conditions: none. -/
import Derived.Test.YtacfpcbladaohaaGreatDoorSAU
set_option linter.all false
set_option maxHeartbeats 32000000
noncomputable section
set_option maxRecDepth 20000
open Go.Lx Go.RowKit
attribute [local instance 10] Classical.propDecidable
open Go.Proofs.Tryz (prog)
namespace Go.Proofs.YtacfpcbladaohaaGreatDoor
variable {f:Formula} {d:Domain} {p:Problem}
theorem fmC_of (h:FVal f) (hw:fW f<=100000000):FmC f:=⟨hw,Ykd h,by have:=Yo2 h;omega⟩
theorem actF_of {a:Action} (hok:YnT a) (hf:FitA a) (hw:actW a<=100000000):ActF a:=by
 have e:actW a=1+a.params.length+fW a.pre+(a.changes.map YW).sum:=rfl;obtain ⟨_,_,_,hp,hc⟩:=hok;have hcw:∀ c∈a.changes,1+c.params.length+fW c.when_+c.args.length+eW c.value<=100000000:=fun c h=>by
  have h1:=Y2 (w:=YW) h;have h2:YW c=1+c.params.length+fW c.when_+c.args.length+eW c.value:=rfl;omega
 refine ⟨⟨by have:=hf.params;omega,by have:=hf.many;omega,fmC_of hp Zi,fun c h=>⟨by have:=hcw c h;omega,by have:=hcw c h;omega,fun hn=>?_⟩⟩,fun c h=>⟨hf.c c h,fmC_of ?_ (by have:=hcw c h;omega),by have:=hcw c h;omega⟩,hf.many⟩
 ·obtain ⟨_,hk,_,_⟩:=hc c h;rcases hk with ⟨hk,_⟩ | ⟨_,hk⟩
  ·unfold numC at hn;omega
  exact Yn5 _ (Zs _) hk.1
 obtain ⟨_,_,hwn,_⟩:=hc c h;rcases hwn with hwn | hwn
 ·rw [hwn];exact YdN
 exact hwn
theorem actsF_of (hc:(YT d p).2=0) (hf:Fit14 d p) (hd:domW d<=100000000):∀ a∈d.actions,ActF a:=fun a ha=>by
 have hok:=(Yh9 hc).dok.1;have hw:actW a<=domW d:=by
  have:=Y2 (w:=actW) ha;unfold domW;omega
 exact actF_of (hok.2.2.2.2.2.1 a ha) (hf.a a ha) Zi
theorem wb_of (hp:prbW p<=1300000):WB 1300000 ⟨p.init,p.values⟩:=by
 have e:prbW p=1+p.objects.length+(p.init.map YcK).sum+(p.values.map Yb2).sum+fW p.goal:=rfl;have h1:=XH (w:=YcK) (fun a=>by unfold YcK;omega) p.init;have h2:=XH (w:=Yb2) (fun a=>by unfold Yb2;omega) p.values;exact
  {na:=by show p.init.length<=_;omega
   nv:=by show p.values.length<=_;omega
   a:=fun a ha=>by
    have:=Y2 (w:=YcK) (show a∈p.init from ha);have e2:YcK a=1+a.args.length:=rfl;omega
   v:=fun v hv=>by
    have:=Y2 (w:=Yb2) (show v∈p.values from hv);have e2:Yb2 v=1+(1+v.fluent.args.length):=rfl;omega}
end Go.Proofs.YtacfpcbladaohaaGreatDoor
namespace Go.Proofs.YtacfpcbladaohaaGreatDoor
variable {d:Domain} {fz:FZ} {p:Problem} {u1 u2 u3 u4 u5 u6 u7 v1 v2 v3 v4 v5 v6:Value} {M:Mn} {k:Nat}
theorem YpE {nb:Nat} (hM:MaxF fz) (hD:DomainR fz d v1 v2 v3 v4 v5 v6) (hP:ProblemR fz p u1 u2 u3 u4 u5 u6 u7) (hS:ChkS d p) (h6:(objsM d p).length<=6) (hWB:WB nb ⟨p.init,p.values⟩) (hnb:nb<=1900000):
 GFn prog 20 [ZD d v1 v2 v3 v4 v5 v6,ZP p u1 u2 u3 u4 u5 u6 u7] fz []
  (fun r fz' H'=>H'=[]/\∃ v W',r=.tuple #[v,errV (YT d p).2]/\WdR fz' W' v/\((YT d p).2=0->WB nb W'/\(∀ x,x∈W'.atoms↔x∈p.init)/\∃ l,SortedBy cmpA l/\W'.atoms=cptM l)):=by
 have hD0:=hD;have hP0:=hP;obtain ⟨⟨A1,n1,b1',rfl,i1⟩,⟨A2,n2,b2',rfl,i2⟩,⟨A3,n3,b3,rfl,i3⟩,⟨A4,n4,b4,rfl,i4⟩,⟨A5,n5,b5,rfl,i5⟩,⟨A6,n6,b6,rfl,i6⟩⟩:=hD.sls;obtain ⟨⟨B1,m1,d1,rfl,j1⟩,⟨B2,m2,d2,rfl,j2⟩,⟨B3,m3,d3,rfl,j3⟩⟩:=hP.sls;obtain ⟨⟨B4,m4,d4,rfl,_⟩,⟨B5,m5,d5,rfl,_⟩,⟨B6,m6,d6,rfl,_⟩,⟨B7,m7,d7,rfl,_⟩⟩:=hP.goal.sls;refine zF Tryz.func20 Tryz.ntmps20 (fun w0=>?_);refine pX (fun g2=>?_);refine pY (fun g3=>?_);refine zWO ?_;intros;refine zV ?_;rename_i g4;refine Ya (Yh [] [_,_,_] Zz (Ygv hM hD0 hP0 hS h6) (fun v7 fz7 H7 hle7 hR7=>?_));obtain ⟨rfl,vm,rfl,_⟩:=hR7;rw [List.nil_append];by_cases hc:(YT d p).2=0;rotate_left 1
 ·rw [Yq hc];refine zV ?_;exact YaW T (vs:=[.agg #[Zn,Zn],.iface 86 (Zk (YT d p).2)]) ⟨⟨_,_,0,_,_,_,rfl,rfl,rfl,rfl,rfl,rfl⟩,rfl,trivial⟩ (fun fz3 hle3 hf3=>⟨rfl,_,⟨[],[]⟩,rfl,⟨_,_,_,_,_,_,rfl,Sl.nil,Sl.nil⟩,fun h=>absurd h hc⟩)
 rw [hc,show errV 0=.nilIface from rfl];refine zV ?_;refine Ya (Yh [] [_,_,_] Zz (Yn0 (W:=⟨p.init,p.values⟩) ⟨_,_,_,_,_,_,rfl,j2.mono hle7,j3.mono hle7⟩ ⟨by have:=hWB.na;omega,by have:=hWB.nv;omega,hWB.a,hWB.v⟩) (fun v8 fz8 H8 hle8 hR8=>?_));obtain ⟨rfl,W',hW',⟨lw,hp1,hs1,he1⟩,hp2⟩:=hR8;have hW0:=hW';obtain ⟨C1,k1,q1,C2,k2,q2,rfl,_,_⟩:=hW';refine zV ?_;refine YaW T (vs:=[.agg #[Zc C1 k1 q1,Zc C2 k2 q2],.nilIface]) ⟨⟨_,_,0,_,_,_,rfl,rfl,rfl,rfl,rfl,rfl⟩,rfl,trivial⟩ (fun fz9 hle9 hf9=>⟨rfl,_,W',rfl,hW0.mono hle9,fun _=>⟨?_,fun x=>?_,lw,hs1,he1⟩⟩)
 ·have hd:=YfT p.values [];have hcl:=Yjd lw lw.length;have hpl:lw.length=p.init.length:=hp1.length_eq;have b1:p.init.length<=nb:=hWB.na;have b2:p.values.length<=nb:=hWB.nv;exact
   {na:=by rw [he1];show (cpt lw lw.length).length<=_;omega
    nv:=by
     rw [hp2.length_eq];have h2:(dedV p.values).length<=0+p.values.length:=hd.2;show (dedV p.values).length<=_;omega
    a:=fun y hy=>by
     rw [he1,YfU,hp1.mem_iff] at hy;exact hWB.a y hy
    v:=fun y hy=>by
     rw [hp2.mem_iff] at hy;rcases hd.1 y hy with h | h
     ·cases h
     exact hWB.v y h}
 rw [he1,YfU,hp1.mem_iff]
def instA (M:Mn) (a:Action):List StepM:=(tupM M a.params).map fun t=>(a.name,t)
def Yhp (M:Mn) (l:List Action):List StepM:=l.flatMap (instA M)
theorem Yny {l:List Action} {a:Action} (h:l[k]?=some a):Yhp M (l.take (k+1))=Yhp M (l.take k)++instA M a:=by
 unfold Yhp;rw [List.take_add_one,h,List.flatMap_append];simp
theorem sinst_f (hM:MaxF fz) (hD:DomainR fz d v1 v2 v3 v4 v5 v6) (hP:ProblemR fz p u1 u2 u3 u4 u5 u6 u7) (hS:ChkS d p) (h6:(objsM d p).length<=6) (h8:d.actions.length<=8) (h3:∀ a∈d.actions,a.params.length<=3):
 GFn prog 21 [ZD d v1 v2 v3 v4 v5 v6,ZP p u1 u2 u3 u4 u5 u6 u7] fz []
  (fun r fz' H'=>∃ v,r=.tuple #[v,errV (YT d p).2]/\((YT d p).2≠0->v=Zn/\H'=[])/\((YT d p).2=0->∃ n,n<=1728/\Grow Ycp 69 fz' v n H' (Yhp (mnM d p) d.actions))):=by
 have hD0:=hD;have hP0:=hP;obtain ⟨⟨A1,n1,b1',rfl,i1⟩,⟨A2,n2,b2',rfl,i2⟩,⟨A3,n3,b3,rfl,i3⟩,⟨A4,n4,b4,rfl,i4⟩,⟨A5,n5,b5,rfl,i5⟩,⟨A6,n6,b6,rfl,i6⟩⟩:=hD.sls;obtain ⟨⟨B1,m1,d1,rfl,j1⟩,⟨B2,m2,d2,rfl,j2⟩,⟨B3,m3,d3,rfl,j3⟩⟩:=hP.sls;obtain ⟨⟨B4,m4,d4,rfl,_⟩,⟨B5,m5,d5,rfl,_⟩,⟨B6,m6,d6,rfl,_⟩,⟨B7,m7,d7,rfl,_⟩⟩:=hP.goal.sls;have l5:=i5.len;refine zF Tryz.func21 Tryz.ntmps21 (fun w0=>?_);refine pX (fun g2=>?_);refine pY (fun g3=>?_);refine zWO ?_;refine vK (q:=Ygv hM hD0 hP0 hS h6) (h:=fun v7 fz7 H7 hle7 hR7=>?_);obtain ⟨rfl,vm,rfl,hMn⟩:=hR7;by_cases hc:(YT d p).2=0;rotate_left 1
 ·rw [Yq hc];refine zV ?_;exact ret2 rfl rfl rfl (List.nil_sublist _) ⟨_,rfl,fun _=>⟨rfl,rfl⟩,fun h=>absurd h hc⟩
 have hmn:=hMn hc;rw [hc,show errV 0=.nilIface from rfl];refine zV ?_;refine Yi (fun q σ fz' H'=>∃ (k:Nat) (vo:Value) (mo:Nat),k<=n5/\q=n5 - k/\σ=[(30,Zk k),(29,Zk n5),(28,Zc A5 n5 b5),(8,vo),(6,vm)]/\Le fz7 fz'/\mo<=k*216/\Grow Ycp 69 fz' vo mo H' (Yhp (mnM d p) (d.actions.take k)))
  ⟨0,_,0,Z0 _,rfl,rfl,Zd,by omega,Grow.nil _ _ _⟩ Zw (List.nil_sublist _) ?_
 rintro q σ fz1 Ho ⟨k,vo,mo,hk,rfl,rfl,hle1,hmo,hGo⟩;obtain ⟨Ao,co,rfl,_,_⟩:=hGo.form;have hle01:=hle7.trans hle1;refine vC ?_ ?_<;>intro e1;rotate_left 1
 ·have hkn:n5=k:=by omega
  subst hkn;rw [show d.actions.take n5=d.actions from Zl Zi] at hGo;exact vS (h:=by exact ⟨_,rfl,fun h=>absurd rfl h,fun _=>⟨mo,by omega,hGo⟩⟩)
 obtain ⟨a,ha⟩:=Yc (l:=d.actions) (k:=k) Zi;have ham:=Zm ha;have ha3:=h3 a ham;have hnx:=Yny (M:=mnM d p) ha;refine vI (i5.mono hle01) ha (fun p8 hp8=>?_);refine zL hp8 ?_;intro cs hcs;obtain ⟨X0,x0,y0,X1,x1,y1,X2,x2,y2,X3,x3,y3,X4,x4,y4,X5,x5,y5,rfl,hR⟩:=Ybm hcs;obtain ⟨_,_,_,e0,ip⟩:=id hR.params;cases e0;have lp:=ip.len;have hkk:k<n5:=by omega
 have hk7:k<=7:=by omega
 refine zV ?_;intros;rename_i g10;refine Yi (fun q σ fz' H'=>∃ (j many:Nat),j<=x0/\q=x0 - j/\σ=[(37,Zk j),(36,Zk x0),(35,Zc X0 x0 y0),(11,Zk many),(10,Zp g10),(30,Zk k),(29,Zk n5),(28,Zc A5 n5 b5),(8,Zc Ao mo co),(6,vm)]/\Le fz1 fz'/\H'=(g10,Zu #[Zy a.name,Zc X0 x0 y0,Zk a.cost,Zy a.pre.op,Zy a.pre.name,Zc X1 x1 y1,Zc X2 x2 y2,Zc X3 x3 y3,Zc X4 x4 y4,Zc X5 x5 y5] 102)::Ho/\many<=6 ^ j)
  ⟨0,1,Z0 _,rfl,rfl,Zd,rfl,by decide⟩ Zw Zb ?_
 rintro q σ fz2 H' ⟨j,many,hj,rfl,rfl,hle2,rfl,hmj⟩;have hpow:6 ^ j<=216:=Nat.pow_le_pow_right Zh (show j<=3 by omega);refine vC ?_ ?_<;>intro e2
 ·obtain ⟨x,hx⟩:=Yc (l:=a.params) (k:=j) Zi;refine vI (ip.mono hle2) hx (fun p2 hp2=>?_);refine zL hp2 ?_;intro ds hds;obtain ⟨rfl,hRx⟩:=Yz hds;refine zV ?_;intros;refine Ya (Yh [] (_::_::Ho) Zz (Ynr (t:=x.typ) (hmn.mono (hle1.trans hle2))) (fun v4 fz4 H4 hle4 hR4=>?_));obtain ⟨rfl,Bo,mm,do_,rfl,hSo⟩:=hR4;have hmm:mm<=6:=by rw [<- hSo.len];exact Nat.le_trans (Ylo _ _) h6
  have hml:many*mm<=6 ^ (j+1):=by rw [Nat.pow_succ];exact Nat.mul_le_mul hmj hmm
  have hpow1:6 ^ (j+1)<=216:=Nat.pow_le_pow_right Zh (show j+1<=3 by omega);have hmz:(many:Int)*(mm:Int)=((many*mm:Nat):Int):=(Int.natCast_mul _ _).symm;refine vG ?_;refine YjY Zz Zz (Xb (by rw [hmz];omega)) ?_;refine vG ?_;refine YoQ ?_;rw [show min ((many:Int)*(mm:Int)) 8192=((many*mm:Nat):Int) from by rw [hmz];omega];exact vP (h:=by exact ⟨j+1,many*mm,by omega,rfl,rfl,hle2.trans hle4,rfl,hml⟩)
 have hm216:many<=216:=Nat.le_trans hmj hpow;refine zV ?_;refine Yi (fun q σ fz' H'=>∃ (j many:Nat),j<=x0/\q=x0 - j/\σ=[(53,Zk j),(52,Zk x0),(51,Zc X0 x0 y0),(11,Zk many),(10,Zp g10),(30,Zk k),(29,Zk n5),(28,Zc A5 n5 b5),(8,Zc Ao mo co),(6,vm)]/\Le fz2 fz'/\H'=(g10,Zu #[Zy a.name,Zc X0 x0 y0,Zk a.cost,Zy a.pre.op,Zy a.pre.name,Zc X1 x1 y1,Zc X2 x2 y2,Zc X3 x3 y3,Zc X4 x4 y4,Zc X5 x5 y5] 102)::Ho/\many<=216)
  ⟨0,many,Z0 _,rfl,rfl,Zd,rfl,hm216⟩ Zw Zb ?_
 rintro q σ fz3 H' ⟨j,many,hj,rfl,rfl,hle3,rfl,hmj⟩;refine vC ?_ ?_<;>intro e3
 ·obtain ⟨x,hx⟩:=Yc (l:=a.params) (k:=j) Zi;refine vI (ip.mono (hle2.trans hle3)) hx (fun p2 hp2=>?_);refine zL hp2 ?_;intro ds hds;obtain ⟨rfl,hRx⟩:=Yz hds;refine zV ?_;intros;refine Ya (Yh [] (_::_::Ho) Zz (Ynr (t:=x.typ) (hmn.mono (hle1.trans (hle2.trans hle3)))) (fun v4 fz4 H4 hle4 hR4=>?_));obtain ⟨rfl,Bo,mm,do_,rfl,hSo⟩:=hR4;refine vC ?_ ?_<;>intro e4
  ·exact vP (h:=by exact ⟨j+1,0,by omega,rfl,rfl,hle3.trans hle4,rfl,by omega⟩)
  exact vP (h:=by exact ⟨j+1,many,by omega,rfl,rfl,hle3.trans hle4,rfl,hmj⟩)
 have hle13:=hle2.trans hle3;refine vC ?_ ?_<;>intro e4
 ·exact absurd e4 Zi
 refine zV ?_;refine Ya (Yh [] (_::Ho) Zz (Yl3 (hmn.mono (hle1.trans hle13)) (ip.mono hle13) Zi) (fun v6 fz6 H6 hle6 hR6=>?_));obtain ⟨rfl,T6,t6,s6,rfl,iT⟩:=hR6;have lT:=iT.len;have hTl:=Yio (M:=mnM d p) h6 ha3;rw [List.nil_append];refine zV ?_;refine Yi (fun q σ fz' H'=>∃ (j:Nat) (vo:Value) (mj:Nat) (Hj:HP),j<=t6/\q=t6 - j/\σ=[(75,Zk j),(74,Zk t6),(73,Zc T6 t6 s6),(10,Zp g10),(30,Zk k),(29,Zk n5),(28,Zc A5 n5 b5),(8,vo),(6,vm)]/\fz6=fz'/\H'=(g10,Zu #[Zy a.name,Zc X0 x0 y0,Zk a.cost,Zy a.pre.op,Zy a.pre.name,Zc X1 x1 y1,Zc X2 x2 y2,Zc X3 x3 y3,Zc X4 x4 y4,Zc X5 x5 y5] 102)::Hj/\mj<=mo+j/\
  Grow Ycp 69 fz' vo mj Hj (Yhp (mnM d p) (d.actions.take k)++((tupM (mnM d p) a.params).take j).map fun t=>(a.name,t)))
  ⟨0,_,mo,Ho,Z0 _,rfl,rfl,rfl,rfl,by omega,(hGo.mono (hle13.trans hle6)).of (by rw [List.take_zero];exact (List.append_nil _).symm) rfl⟩ Zw Zb ?_
 rintro q σ fz9 H' ⟨j,vj,mj,Hj,hj,rfl,rfl,rfl,rfl,hmj,hGj⟩;obtain ⟨Aj,cj,rfl,_,_⟩:=hGj.form;refine vC ?_ ?_<;>intro e5
 ·obtain ⟨t,ht⟩:=Yc (l:=tupM (mnM d p) a.params) (k:=j) Zi;refine vI iT ht (fun p9 hp9=>?_)
  ((refine zG ?_);refine XQ hp9 (fun S9 m9 d9 hsl=>?_));refine zV ?_;refine Ya (Yb (cs:=[Zk 0,Zy a.name,Zc S9 m9 d9]) (fun gb=>?_));refine Ya (YD (Hr:=[_,_]) (d:=(a.name,t)) (Zr _) hGj YdW (.head _) ⟨_,rfl,hR.name,_,_,_,rfl,hsl⟩ (fun v' Hs' hO'=>?_));obtain ⟨Av',cv',rfl,_,_⟩:=hO'.form;exact vP (h:=by exact ⟨j+1,_,mj+1,Hs',by omega,rfl,rfl,rfl,rfl,by omega,hO'.of (by rw [List.take_add_one,ht,List.map_append,<- List.append_assoc];rfl) rfl⟩)
 have hjt:t6=j:=by omega
 subst hjt;rw [show (tupM (mnM d p) a.params).take t6=tupM (mnM d p) a.params from Zl Zi] at hGj;exact vP (h:=by exact ⟨k+1,_,mj,by omega,rfl,rfl,hle1.trans (hle13.trans hle6),by omega,by rw [hnx];exact hGj⟩)
theorem Ynz {l:List Action} {s:StepM} (h3:∀ a∈l,a.params.length<=3) (h:s∈Yhp M l):s.2.length<=3:=by
 obtain ⟨a,ha,h⟩:=List.mem_flatMap.1 h;obtain ⟨t,ht,rfl⟩:=List.mem_map.1 h;rw [YjF ht];exact h3 a ha
end Go.Proofs.YtacfpcbladaohaaGreatDoor
namespace Go.Proofs.YtacfpcbladaohaaGreatDoor
variable {E:EnvM} {M:Mn} {K:Kn} {S:List Atom} {i j:Nat} {s:Bs} {vars:List Param} {d:Domain} {p:Problem}
def EqE (ns bs:List Bs) (E:EnvM):Prop:=∀ x,valN ns bs x=valE E x
theorem EqE.cons {ns bs:List Bs} (h:EqE ns bs E) (x a:Bs):EqE (x::ns) (a::bs) (setE E x a):=fun y=>by
 unfold valE setE;rw [valN];by_cases e:x=y
 ·rw [if_pos e,if_pos e.symm];rfl
 rw [if_neg e,if_neg (fun h=>e h.symm)];exact h y
theorem EqE.bnd {ns bs:List Bs} (h:EqE ns bs E) (n:Bs) (l:List Bs):bndA E n l=⟨n,l.map (valN ns bs)⟩:=by
 unfold bndA;rw [List.map_congr_left (fun x _=>(h x).symm)]
theorem Yl1 {p a:Bs} {ns bs:List Bs} {x:Bs}:∀ {l m:List Bs},l.length=m.length->p ∉ l->valN (l++p::ns) (m++a::bs) x=valN (p::(l++ns)) (a::(m++bs)) x
 | [],[],_,_=>rfl
 | [],_::_,h,_=>by cases h
 | _::_,[],h,_=>by cases h
 | y::l,b::m,h,hp=>by
  show valN (y::(l++p::ns)) (b::(m++a::bs)) x=valN (p::y::(l++ns)) (a::b::(m++bs)) x;have hi:=Yl1 (p:=p) (a:=a) (ns:=ns) (bs:=bs) (x:=x) (l:=l) (m:=m) (by simpa using h) (fun h1=>hp (by simp [h1]));rw [valN,valN,valN,hi,valN];by_cases e1:y=x
  ·rw [if_pos e1];by_cases e2:p=x
   ·exact absurd (e2.trans e1.symm) (fun e=>hp (by simp [e]))
   rw [if_neg e2,if_pos e1]
  rw [if_neg e1,if_neg e1]
theorem EqE.ext:∀ {ps:List Param} {as_ ns bs:List Bs} {E:EnvM},as_.length=ps.length->(parN ps).Nodup->EqE ns bs E->EqE (parN ps++ns) (as_++bs) (extE E ps as_)
 | [],[],_,_,_,_,_,h=>h
 | [],_::_,_,_,_,hl,_,_=>by cases hl
 | _::_,[],_,_,_,hl,_,_=>by cases hl
 | p::ps,a::as_,ns,bs,E,hl,hn,h=>fun x=>by
  have hl':as_.length=ps.length:=by simpa using hl
  have hn':p.name ∉ parN ps/\(parN ps).Nodup:=List.nodup_cons.1 hn;have h1:=EqE.ext hl' hn'.2 (h.cons p.name a) x;rw [Yl1 (by rw [Ydc];exact hl'.symm) hn'.1] at h1;exact h1
theorem YfG {o l:List Bs} (h:¬TwP o l):l.Nodup:=by
 rw [List.nodup_iff_pairwise_ne,List.pairwise_iff_getElem];intro i j hi hj hij e;refine h ⟨j,l[j],List.getElem?_eq_getElem hj,List.mem_append_right _ ?_⟩;rw [<- e];exact Zm (i:=i) (by rw [List.getElem?_take_of_lt hij];exact List.getElem?_eq_getElem hi)
structure InvW (K:Kn) (S:List Atom) (W:Wd):Prop where
 sub:∀ a∈W.atoms,a∈S
 st:∀ a∈K.init,K.chg a.name=false->a∈W.atoms
theorem YdJ {K:Kn} {M:Mn} (ho:∀ t,ofN M t=ofK K t) {al:Bool} {hw:List Bs->List Bs->Bool} {he:EnvM->Bool} (hh:∀ ns bs E,EqE ns bs E->hw ns bs=true->he E=true):
 ∀ (ps:List Param) {ns bs:List Bs} {E:EnvM},EqE ns bs E->quantW M al hw ps ns bs=true->quantV K al he ps E=true
 | [],_,_,_,h,g=>by rw [quantW] at g;rw [quantV];exact hh _ _ _ h g
 | p::ps,_,_,_,h,g=>by
  rw [quantW,ho] at g;rw [quantV];cases al with
  | true=>
   rw [if_pos rfl,List.all_eq_true] at g ⊢;exact fun o hi=>YdJ ho hh ps (h.cons _ _) (g o hi)
  | false=>
   rw [if_neg Zh,List.any_eq_true] at g ⊢;obtain ⟨o,hi,g⟩:=g;exact ⟨o,hi,YdJ ho hh ps (h.cons _ _) g⟩
theorem relax {K:Kn} {M:Mn} {S:List Atom} {W:Wd} (ho:∀ t,ofN M t=ofK K t) (hI:InvW K S W):∀ (s:Nat) {f:Formula} {ns bs:List Bs} {E:EnvM},SizeOf.sizeOf f<=s->HSh f->EqE ns bs E->holdsW M W ns bs f=true->holdsM K S E f=true
 | 0,f,_,_,_,hs,_,_,_=>by cases f;simp at hs
 | s+1,f,ns,bs,E,hs,hf,hE,h=>by
  rw [YgM] at h;rw [XB];by_cases c1:f.op=kAtom
  ·rw [if_pos c1] at h ⊢;rw [hE.bnd];exact decide_eq_true (hI.sub _ (Zt h))
  rw [if_neg c1] at h ⊢;by_cases c2:f.op=kSame
  ·rw [if_pos c2] at h ⊢;rw [hE,hE] at h;exact h
  rw [if_neg c2] at h ⊢;by_cases c3:f.op=kNot
  ·rw [if_pos c3] at h ⊢;cases hk:f.kids with
   | nil=>rw [notH]
   | cons g r=>
    rw [hk,headW,YgM] at h;rw [notH];rcases hf.neg c3 g (by rw [hk];simp) with e | e
    ·have e2:¬g.op=kSame:=by rw [e];decide+kernel
     rw [if_pos e] at h;rw [if_neg e2];by_cases hc:K.chg g.name=true
     ·rw [hc];rfl
     have hc:K.chg g.name=false:=by simpa using hc
     have hx:bndA E g.name g.args ∉ K.init:=fun hin=>by
      have h1:=hI.st _ hin hc;rw [hE.bnd] at h1;rw [decide_eq_true h1] at h;cases h
     rw [hc,decide_eq_false hx];rfl
    have e2:¬g.op=kAtom:=by rw [e];decide+kernel
    rw [if_neg e2,if_pos e,hE,hE] at h;rw [if_pos e,XB,if_neg e2,if_pos e];exact h
  rw [if_neg c3] at h ⊢;have hkid:∀ g∈f.kids,∀ {ns bs E},EqE ns bs E->holdsW M W ns bs g=true->holdsM K S E g=true:=fun g hg _ _ _ hE hh=>
   relax ho hI s (by have:=Formula.kids_lt hg;omega) (hf.kid hg) hE hh
  by_cases c4:f.op=kAnd
  ·rw [if_pos c4] at h ⊢;rw [Yjo] at h;rw [Yjp];simp only [Bool.not_eq_true',decide_eq_false_iff_not] at h ⊢;exact fun ⟨g,hg,hn⟩=>h ⟨g,hg,fun hh=>hn (hkid g hg hE hh)⟩
  rw [if_neg c4] at h ⊢;by_cases c5:f.op=kOr
  ·rw [if_pos c5] at h ⊢;rw [Yjl] at h;rw [Yjm];obtain ⟨g,hg,hn⟩:=Zt h;exact decide_eq_true ⟨g,hg,hkid g hg hE hn⟩
  rw [if_neg c5] at h ⊢;by_cases c6:QuF f.op
  ·rw [if_pos c6] at h ⊢;refine YdJ ho (fun ns bs E hE hw=>?_) _ hE h;cases hk:f.kids with
   | nil=>rw [headH]
   | cons g r=>
    rw [hk,headW] at hw;rw [headH];exact hkid g (by rw [hk];simp) hE hw
  rw [if_neg c6]
def Yhz (M:Mn):List Param->List Bs->Prop
 | [],[]=>True
 | p::ps,x::xs=>x∈ofN M p.typ/\Yhz M ps xs
 | _,_=>False
theorem Yhz.len {M:Mn}:∀ {ps:List Param} {l:List Bs},Yhz M ps l->l.length=ps.length
 | [],[],_=>rfl
 | p::ps,x::xs,h=>by simp [Yhz.len h.2]
 | [],_::_,h=>h.elim
 | _::_,[],h=>h.elim
theorem Yok {M:Mn}:∀ {ps:List Param} {l:List Bs},l.length=ps.length->(∀ (i:Nat) (x:Bs) (p:Param),l[i]?=some x->ps[i]?=some p->x∈ofN M p.typ)->Yhz M ps l
 | [],[],_,_=>trivial
 | [],_::_,h,_=>by cases h
 | _::_,[],h,_=>by cases h
 | p::ps,x::l,h,hh=>⟨hh 0 x p rfl rfl,Yok (by simpa using h) (fun i y q hy hq=>hh (i+1) y q (by simpa using hy) (by simpa using hq))⟩
theorem YiN {M:Mn}:∀ {ps:List Param} {out:List (List Bs)} {l:List Bs},l∈ps.foldl (YeV M) out↔∃ l0∈out,∃ t,Yhz M ps t/\l=l0++t
 | [],out,l=>by
  constructor
  ·intro h;exact ⟨l,h,[],trivial,(List.append_nil l).symm⟩
  rintro ⟨l0,h,t,ht,rfl⟩;cases t with
  | nil=>rw [List.append_nil];exact h
  | cons x t=>exact ht.elim
 | p::ps,out,l=>by
  rw [List.foldl_cons,YiN];constructor
  ·rintro ⟨l1,h1,t,ht,rfl⟩;obtain ⟨l0,h0,h1⟩:=List.mem_flatMap.1 h1;obtain ⟨o,ho,rfl⟩:=List.mem_map.1 h1;exact ⟨l0,h0,o::t,⟨ho,ht⟩,by simp⟩
  rintro ⟨l0,h0,t,ht,rfl⟩;cases t with
  | nil=>exact ht.elim
  | cons o t=>exact ⟨l0++ [o],List.mem_flatMap.2 ⟨l0,h0,List.mem_map.2 ⟨o,ht.1,rfl⟩⟩,t,ht.2,by simp⟩
theorem Yoj {ps:List Param} {l:List Bs} (h:l∈tupM M ps):Yhz M ps l:=by
 unfold tupM at h;split at h
 ·cases h
 obtain ⟨l0,h0,t,ht,rfl⟩:=YiN.1 h;simp at h0;subst h0;exact ht
theorem YmP {K:Kn} {M:Mn} (ho:∀ t,ofN M t=ofK K t) (hm:M.os.length<=6):∀ (ps:List Param) (out:List (List Bs)) (n:Nat),out.length<=6 ^ n->n+ps.length<=3->ps.foldl (Yd5 K 4096) out=ps.foldl (YeV M) out
 | [],_,_,_,_=>rfl
 | p::ps,out,n,h,hn=>by
  rw [List.length_cons] at hn;have h1:(YeV M out p).length<=6 ^ (n+1):=by
   have:=Ykf hm out p;rw [Nat.pow_succ];omega
  have h2:6 ^ (n+1)<=6 ^ 3:=Nat.pow_le_pow_right Zh Zi;have e:Yd5 K 4096 out p=YeV M out p:=by
   unfold Yd5;rw [<- ho];exact Zl (by show (YeV M out p).length<=_;omega)
  rw [List.foldl_cons,List.foldl_cons,e];exact YmP ho hm ps _ (n+1) h1 Zi
theorem mem_comb (ho:∀ t,ofN M t=ofK K t) (hm:M.os.length<=6) {ps:List Param} (h3:ps.length<=3) {l:List Bs} (h:Yhz M ps l):l∈Yc6 K ps 4096:=by
 unfold Yc6;rw [YmP ho hm ps [[]] 0 Zh Zi];exact YiN.2 ⟨[],by simp,l,h,rfl⟩
theorem YkA {α:Type} {f:List Atom × Bool->α->List Atom × Bool} (hf:∀ r x,r.2=true->(f r x).2=true):∀ (l:List α) (r:List Atom × Bool),r.2=true->(l.foldl f r).2=true
 | [],_,h=>h
 | x::l,r,h=>YkA hf l _ (hf r x h)
theorem Yi2 {α:Type} {f:List Atom × Bool->α->List Atom × Bool} (hf:∀ r x,r.2=true->(f r x).2=true) {S:List Atom} (hs:∀ x,(f (S,false) x).2=false->f (S,false) x=(S,false)):∀ {l:List α},(l.foldl f (S,false)).2=false->∀ x∈l,(f (S,false) x).2=false
 | [],_,x,hx=>by cases hx
 | y::l,h,x,hx=>by
  rw [List.foldl_cons] at h;have h1:(f (S,false) y).2=false:=by
   cases hc:(f (S,false) y).2 with
   | false=>rfl
   | true=>rw [YkA hf l _ hc] at h;cases h
  rw [hs y h1] at h;rcases List.mem_cons.1 hx with rfl | hx
  ·exact h1
  exact Yi2 hf hs h x hx
theorem Yqx {c:Change} (hS:S.length<=4096) {p:Param} {ps:List Param} (h:(addM K c (p::ps) E S).2=false):∀ o∈ofK K p.typ,(addM K c ps (setE E p.name o) S).2=false:=fun o ho=>by
 have hl:¬4096<((S,false):List Atom × Bool).1.length:=by show ¬4096<S.length;omega
 rw [addM] at h;have h1:=Yi2 (S:=S) (fun r x hr=>by split<;>simp [hr]) (fun x hx=>by
  rw [if_neg hl] at hx ⊢;simp only [Bool.or_false] at hx ⊢;rw [hx,(Yet K c ps (setE E p.name x) S).2.2 hx]) h o ho
 rw [if_neg hl] at h1;simpa only [Bool.or_false] using h1
theorem YmY {K:Kn} {M:Mn} (ho:∀ t,ofN M t=ofK K t) {c:Change} {S:List Atom} (hS:S.length<=4096):∀ {ps:List Param} {E:EnvM},(addM K c ps E S).2=false->∀ {l:List Bs},Yhz M ps l->holdsM K S (extE E ps l) c.when_=true->bndA (extE E ps l) c.name c.args∈S
 | [],E,h,[],_,hh=>by
  rw [addM] at h;split at h
  ·cases h
  rename_i hn;exact Classical.byContradiction fun h1=>hn ⟨h1,hh⟩
 | [],_,_,_::_,ht,_=>ht.elim
 | _::_,_,_,[],ht,_=>ht.elim
 | p::ps,E,h,o::l,ht,hh=>YmY ho hS (Yqx hS h o (by rw [<- ho];exact ht.1)) ht.2 hh
theorem Yqw {l:List Change} (h:(YbE K l E S).2=false):∀ c∈l,(addM K c c.params E S).2=false:=by
 rw [YbE] at h;intro c hc;have h1:=Yi2 (S:=S) (fun r x hr=>by simp [hr]) (fun x hx=>by
  simp only [Bool.or_false] at hx ⊢;rw [hx,(Yet K x x.params E S).2.2 hx]) h c hc
 simpa using h1
theorem Yiy {K:Kn} {s:Schema}:∀ (k:Nat) {st:RowS},st.bs.length=s.arguments.length->st.ds.length=s.arguments.length->(rowN K s k st).n=false->∀ j,j<k->∀ a,s.arguments[j]?=some a->(Yah K s a st.S (st.bs[j]?.getD false) (st.ds[j]?.getD false)).n=false
 | 0,_,_,_,_,j,hj,_,_=>absurd hj Zi
 | k+1,st,hb,hd,h,j,hj,a,ha=>by
  obtain ⟨_,_,_,_,_,g6⟩:=YdZ K s k st hb hd;cases hk:s.arguments[k]? with
  | none=>
   rw [rowN,hk] at h;have:j≠k:=fun e=>by rw [e,hk] at ha;cases ha
   exact Yiy k hb hd h j Zi a ha
  | some a'=>
   rw [YjR hk] at h;obtain ⟨h1,h2⟩:=(Bool.or_eq_false_iff.1 h:_=false/\_=false);rcases Nat.lt_or_ge j k with hjk | hjk
   ·exact Yiy k hb hd h2 j hjk a ha
   have e:j=k:=by omega
   subst e;rw [hk] at ha;injection ha with ha
   subst ha;rw [g6 h2] at h1;exact h1
theorem Yiz {K:Kn} {l:List Schema}:∀ (k:Nat) {w:RndS},FitR l w.B->FitR l w.D->(rndN K l k w).n=false->∀ i,i<k->∀ s,l[i]?=some s->(rowN K s s.arguments.length ⟨w.S,w.B[i]?.getD [],w.D[i]?.getD [],false⟩).n=false
 | 0,_,_,_,_,i,hi,_,_=>absurd hi Zi
 | k+1,w,hB,hD,h,i,hi,s,hs=>by
  obtain ⟨_,_,_,g4,_,g6⟩:=Ygd K l k w hB hD;cases hk:l[k]? with
  | none=>
   rw [rndN,hk] at h;have:i≠k:=fun e=>by rw [e,hk] at hs;cases hs
   exact Yiz k hB hD h i Zi s hs
  | some s'=>
   rw [YjS hk] at h;have h':(rowN K s' s'.arguments.length ⟨(rndN K l k w).S,(rndN K l k w).B[k]?.getD [],(rndN K l k w).D[k]?.getD [],(rndN K l k w).n⟩).n=false:=h;obtain ⟨fB,fD⟩:=Yd0 (K:=K) k hB hD;have hlt:=(Zg hk).1;obtain ⟨b,hb⟩:=Yc (l:=(rndN K l k w).B) (k:=k) (by rw [fB.1];exact hlt);obtain ⟨d,hd⟩:=Yc (l:=(rndN K l k w).D) (k:=k) (by rw [fD.1];exact hlt);have h2:(rndN K l k w).n=false:=by
    cases hn:(rndN K l k w).n with
    | false=>rfl
    | true=>
     obtain ⟨_,_,_,q4,_,_⟩:=YdZ K s' s'.arguments.length ⟨(rndN K l k w).S,(rndN K l k w).B[k]?.getD [],(rndN K l k w).D[k]?.getD [],(rndN K l k w).n⟩ (by rw [hb];exact fB.2 k s' b hk hb) (by rw [hd];exact fD.2 k s' d hk hd);rw [q4 hn] at h';cases h'
   rcases Nat.lt_or_ge i k with hik | hik
   ·exact Yiz k hB hD h2 i hik s hs
   have e:i=k:=by omega
   subst e;rw [hk] at hs;injection hs with hs
   subst hs;have e2:=g6 h2;rw [e2] at h';rw [e2] at h2;rw [h2] at h';exact h'
theorem inst_fix {l:List Schema} {B D:List (List Bool)} (hB:FitR l B) (hD:FitR l D) (h:Xq K l S B D=⟨S,B,D,false⟩) {s:Schema} {a:List Bs} (hs:l[i]?=some s) (ha:s.arguments[j]?=some a):
 ∃ b d x y,B[i]?=some b/\D[i]?=some d/\b[j]?=some x/\d[j]?=some y/\(Yah K s a S x y).n=false:=by
 have hi:=(Zg hs).1;have hj:=(Zg ha).1;obtain ⟨b,hb⟩:=Yc (l:=B) (k:=i) (by rw [hB.1];exact hi);obtain ⟨d,hd⟩:=Yc (l:=D) (k:=i) (by rw [hD.1];exact hi);have lb:=hB.2 i s b hs hb;have ld:=hD.2 i s d hs hd;obtain ⟨x,hx⟩:=Yc (l:=b) (k:=j) Zi;obtain ⟨y,hy⟩:=Yc (l:=d) (k:=j) Zi;have h1:=Yiz (K:=K) l.length (w:=⟨S,B,D,false⟩) hB hD (by
  have:(Xq K l S B D).n=false:=by rw [h]
  exact this) i hi s hs
 rw [hb,hd] at h1;have h2:=Yiy s.arguments.length (st:=⟨S,b,d,false⟩) lb ld h1 j hj a ha;rw [hx,hy] at h2;exact ⟨b,d,x,y,hb,hd,hx,hy,h2⟩
theorem inst_act {s:Schema} {a:List Bs} {x y:Bool} (h:(Yah K s a S x y).n=false) (he:s.early=[]) (hst:s.start=s.all) (hh:holdsM K S (envA s a) s.all=true):y=true/\(YbE K s.late (envA s a) S).2=false:=by
 have e0:YbE K [] (envA s a) S=(S,false):=rfl;simp only [Yah,hst,hh,he,e0,Bool.or_true,Bool.and_true,if_true,Bool.or_eq_false_iff,Bool.not_eq_false'] at h;exact ⟨h.2.2.1,h.1⟩
theorem Yna (zs:List (List UInt8)):(Yhj zs).Perm zs:=List.mergeSort_perm zs _
theorem YjL (zs:List (List UInt8)):(Yhj zs).Pairwise (·<=·):=by
 have h:=List.pairwise_mergeSort (le:=fun x y:List UInt8=>decide (x<=y)) (fun a b c h1 h2=>decide_eq_true (List.le_trans (Zt h1) (Zt h2))) (fun a b=>by
  rcases List.le_total a b with h | h
  ·rw [decide_eq_true h];rfl
  rw [decide_eq_true h];simp) zs
 exact h.imp fun h=>Zt h
theorem YlJ {zs:List (List UInt8)}:cmpU (Yhj zs)<zs.length↔¬zs.Nodup:=by
 unfold cmpU;have hp:=Yna zs;have hs:=YjL zs;rw [<- hp.length_eq,<- hp.nodup_iff];generalize Yhj zs=s at hs;have key:(Lib.compact s).length<s.length↔∃ j,j<s.length/\Lib.keeps s.toArray j=false:=by
  constructor
  ·intro h;refine Classical.byContradiction fun hn=>?_
   have:=Lib.compact_all s (fun j hj=>by
    cases hk:Lib.keeps s.toArray j with
    | true=>rfl
    | false=>exact absurd ⟨j,hj,hk⟩ hn)
   rw [this] at h;omega
  rintro ⟨j,hj,hk⟩;unfold Lib.compact Lib.compactUpTo;rw [List.length_map];have:=List.length_filter_lt_length_iff_exists (l:=List.range s.length) (p:=Lib.keeps s.toArray);rw [List.length_range] at this;exact this.2 ⟨j,List.mem_range.2 hj,by rw [hk];decide⟩
 have hk:∀ j,(hj:j<s.length)->(Lib.keeps s.toArray j=false↔∃ h0:0<j,s[j]=s[j - 1]'Zi):=fun j hj=>by
  have e1:s.toArray[j]! =s[j]:=by rw [getElem!_pos _ j (by simpa using hj)];simp
  by_cases h0:j=0
  ·subst h0;exact iff_of_false (by rw [Lib.keeps,decide_eq_true (.inl rfl)];decide) (fun ⟨h,_⟩=>absurd h Zi)
  have e2:s.toArray[j - 1]! =s[j - 1]'Zi:=by rw [getElem!_pos _ (j - 1) (by simp;omega)];simp
  constructor
  ·intro h;refine ⟨by omega,Classical.byContradiction fun hn=>?_⟩;rw [Lib.keeps_pos (by rw [e1,e2];exact hn)] at h;cases h
  rintro ⟨_,h⟩;exact Lib.keeps_neg Zi (by rw [e1,e2];exact h)
 rw [key,List.nodup_iff_pairwise_ne];constructor
 ·rintro ⟨j,hj,h⟩ hn;obtain ⟨h0,e⟩:=(hk j hj).1 h;exact List.pairwise_iff_getElem.1 hn (j - 1) j Zi hj Zi e.symm
 intro hn;refine Classical.byContradiction fun hall=>hn (List.pairwise_iff_getElem.2 fun i j hi hj hij e=>?_)
 have hsp:=List.pairwise_iff_getElem.1 hs;have h1:s[i]<=s[j - 1]'Zi:=by
  by_cases he:i=j - 1
  ·subst he;exact List.le_refl _
  exact hsp i (j - 1) hi Zi Zi
 have h2:=hsp (j - 1) j Zi hj Zi;exact hall ⟨j,hj,(hk j hj).2 ⟨by omega,List.le_antisymm (by rw [<- e];exact h1) h2⟩⟩
theorem tw_iff {l:List Bs}:TwP [] l↔¬l.Nodup:=by
 refine ⟨fun ⟨k,x,h1,h2⟩ hn=>?_,fun hn=>Classical.byContradiction fun h=>hn (YfG h)⟩;rw [List.nil_append] at h2;obtain ⟨i,hi⟩:=List.getElem?_of_mem h2;have hik:i<k:=by
  have:=(Zg hi).1;rw [List.length_take] at this;omega
 rw [List.getElem?_take_of_lt hik] at hi;obtain ⟨a1,a2⟩:=Zg h1;obtain ⟨b1,b2⟩:=Zg hi;exact List.pairwise_iff_getElem.1 (List.nodup_iff_pairwise_ne.1 hn) i k b1 a1 hik (b2.trans a2.symm)
theorem YlQ {l:List Bs}:(l.map (·.data.toList)).Nodup↔l.Nodup:=by
 constructor
 ·intro h;exact List.nodup_iff_pairwise_ne.2 ((List.pairwise_map.1 (List.nodup_iff_pairwise_ne.1 h)).imp fun hab he=>hab (by rw [he]))
 intro h;refine List.nodup_iff_pairwise_ne.2 (List.pairwise_map.2 ((List.nodup_iff_pairwise_ne.1 h).imp fun hab he=>hab ?_));have h1:=Array.toList_inj.1 he;exact ByteArray.ext h1
theorem dup_iff {ps:List Param}:cmpU (Yhj ((parN ps).map (·.data.toList)))<ps.length↔TwP [] (parN ps):=by
 rw [tw_iff,<- YlQ,<- YlJ,List.length_map,Ydc]
theorem Yp1 (h1:1<=s.size):s.extract 0 1=kQm↔Yac s 0=63:=by
 have e0:s[0]?=some s[0]:=getElem?_pos s 0 Zi;have hb:Yac s 0=(s[0]).toNat:=by unfold Yac;rw [e0];rfl
 have hx:s.extract 0 1=⟨#[s[0]]⟩:=by
  apply ByteArray.ext;rw [ByteArray.data_extract];apply Array.ext
  ·simp;show min 1 s.size=1;omega
  intro i h2 h3;have:i=0:=by simp at h3;omega
  subst this;simp;rfl
 rw [hb,hx];constructor
 ·intro h;have h2:s[0]=63:=by
   have:=congrArg ByteArray.data h;simpa [kQm] using this
  rw [h2];rfl
 intro h;have h2:s[0]=63:=UInt8.toNat_inj.1 h;rw [h2];rfl
theorem YoV:PreP s kQm↔0<s.size/\Yac s 0=63:=by
 unfold PreP;rw [show kQm.size=1 from rfl];exact ⟨fun ⟨h1,h2⟩=>⟨h1,(Yp1 h1).1 h2⟩,fun ⟨h1,h2⟩=>⟨h1,(Yp1 h1).2 h2⟩⟩
theorem var_pre (h:VarP s):PreP s kQm:=YoV.2 ⟨by have:=h.1;omega,by have:=h.2.2.1;omega⟩
theorem name_pre (h:YZ s):¬PreP s kQm:=fun hp=>by
 obtain ⟨h1,h2⟩:=YoV.1 hp;rcases h.1 0 h1 with h3 | ⟨h3,_⟩
 ·rw [h2] at h3;exact absurd h3 (by unfold LetP;decide)
 exact h3 rfl
theorem Yon:∀ (l m:List Param) (t:Bs),tyF (l++m) t=match tyF l t with | some u=>some u | none=>tyF m t
 | [],m,t=>rfl
 | p::r,m,t=>by
  rw [List.cons_append,tyF,tyF];by_cases e:t=p.name
  ·rw [if_pos e,if_pos e]
  rw [if_neg e,if_neg e];exact Yon r m t
theorem Ykk:∀ (l m:List Param) (t:Bs),YbY (l++m) t=match YbY m t with | some u=>some u | none=>YbY l t
 | [],m,t=>by
  rw [List.nil_append];cases YbY m t<;>rfl
 | p::r,m,t=>by
  rw [List.cons_append,YbY,Ykk r m t,YbY];cases YbY m t with
  | some u=>rfl
  | none=>rfl
theorem Yhd.app {os vs ps:List Param} (h:Yhd os vars vs) (hn:(parN ps).Nodup) (hv:∀ p∈ps,VarP p.name):Yhd os (vars++ps) (ps++vs):=fun t=>by
 have h0:=h t;rw [Yon];rw [WK] at h0 ⊢;by_cases hp:PreP t kQm
 ·rw [if_pos hp] at h0 ⊢;rw [Ykk,YgA hn,<- h0];cases tyF ps t<;>rfl
 rw [if_neg hp] at h0 ⊢;rw [Yim (l:=ps) (fun x hx e=>hp (by rw [<- e];exact var_pre (hv x hx)))];exact h0
theorem Yhd.none {os:List Param} (h:∀ o∈os,YZ o.name):Yhd os [] []:=fun t=>by
 rw [WK];show tyF os t=_;by_cases hp:PreP t kQm
 ·rw [if_pos hp,Yim (l:=os) (fun x hx e=>name_pre (h x hx) (by rw [e];exact hp))];rfl
 rw [if_neg hp]
theorem YoZ (hc:(YT d p).2=0):∀ o∈objsM d p,YZ o.name:=fun o ho=>by
 have h:=Yh9 hc;rcases List.mem_append.1 ho with h1 | h1
 ·exact (h.dok.1.2.2.1 o h1).1
 exact (h.pok.2.1.2.2.1 o h1).1
end Go.Proofs.YtacfpcbladaohaaGreatDoor
namespace Go.Proofs.YtacfpcbladaohaaGreatDoor
variable {cs:List Value} {f:Formula} {fz:FZ} {va ve vk vp v u1 u2 u3 u4 u5 u6 u7 v1 v2 v3 v4 v5 v6:Value} {d:Domain} {Hs:HP} {n c:Nat} {A:Option Addr} {p:Problem} {W:Wd}
theorem mform1_q {x:Predicate} {g0:Nat} {t0:TypeId} (h0:fz g0=some (.cells #[Zy f.op,Zy f.name,va,vp,ve,vk] t0 (0,0))) (hcs:predicateL.rep fz x cs):
 QFn prog 66 (.agg cs.toArray:: [Zp g0]) fz (Zo (decide (x.name=f.name))):=by
 obtain ⟨u0,rfl,hR⟩:=Xo hcs;obtain ⟨P0,p0,q0,rfl,_⟩:=id hR.params;refine qF Tryz.func66 Tryz.ntmps66 (fun w0=>?_);refine pX (fun g9=>?_);refine zW ?_;intros;refine zC ?_ ?_<;>intro c1
 ·refine zW ?_;intros;exact wR (h:=by exact Ym c1)
 refine zW ?_;intros;exact wR (h:=by exact Yg c1)
theorem mform2_q {os:List Param} {x:Param} {g0:Nat} {t0:TypeId} (h:MfR fz v d os) (h0:fz g0=some (.cells #[v] t0 (0,0))) (hcs:paramL.rep fz x cs):
 QFn prog 73 (.agg cs.toArray:: [Zp g0]) fz (Zo (decide (¬HasT d.types x.typ))):=by
 obtain ⟨⟨g,a0,a1,a2,a5,a6,a7,a8,a9,a10,a11,a12,a13,a14,a15,a16,a17,vf,A3,x3,y3,A4,x4,y4,Ao,mo,eo,rfl,hg,i3,i4,hF,hO⟩,hw⟩:=h;have hF0:=hF;obtain ⟨gf,gm,rfl,hf1,hf2⟩:=hF;obtain ⟨rfl,hR⟩:=Yz hcs;refine qF Tryz.func73 Tryz.ntmps73 (fun w0=>?_);refine pX (fun g9=>?_);refine zV ?_;intros;refine zb (YnC hF0) (fun f1=>?_) (fun f1=>?_)
 ·refine zV ?_;intros;exact wR (h:=by exact Yg (fun h=>h (Zt f1)))
 refine zV ?_;intros;exact wR (h:=by exact Ym (Zf f1))
theorem str_own {l:List Bs} (h:Grow strL 9 fz v n Hs l):OwnS 9 1 v n ((l.map (·.data.toList)).map encStr) Hs:=by
 obtain ⟨xs,h1,h2,h3,h4⟩:=h;have e:xs.flatMap Prod.snd=(l.map (·.data.toList)).map encStr:=by
  subst h1;clear h3 h4
  induction xs with
  | nil=>rfl
  | cons p r ih=>
   have hp:=(h2 p (by simp)).1;rw [List.flatMap_cons,ih (fun q hq=>h2 q (by simp [hq])),hp];simp [encStr]
 rw [<- e];exact h4
theorem Yo8:∀ (s:Nat) {fz:FZ} {v:Value} {d:Domain} {os vars vs:List Param} {f:Formula} {va vp ve vk:Value} {A:Option Addr} {n c:Nat},SizeOf.sizeOf f<=s->MfR fz v d os->Sl paramL fz A n c vs->Yhd os vars vs->FormulaR fz f va vp ve vk->FOk f->n+fW f<=2000000->
 QFn prog 31 [v,.agg #[Zy f.op,Zy f.name,va,vp,ve,vk],Zc A n c] fz (errV (formM d os vars f))
 | 0,_,_,_,_,_,_,f,_,_,_,_,_,_,_,hse,_,_,_,_,_,_=>by cases f;simp at hse
 | s+1,fz,v,d,os,vars,vs,f,va,vp,ve,vk,A,n,c,hse,h,h1,hv,hR,hok,hW=>by
  have h0:=h;obtain ⟨⟨g,a0,a1,a2,a5,a6,a7,a8,a9,a10,a11,a12,a13,a14,a15,a16,a17,vf,A3,x3,y3,A4,x4,y4,Ao,mo,eo,rfl,hg,i3,i4,hF,hO⟩,hw⟩:=h;obtain ⟨⟨B1,m1,d1,rfl,ia⟩,⟨B2,m2,d2,rfl,ip⟩,⟨B3,m3,d3,rfl,ie⟩,⟨B4,m4,d4,rfl,ik⟩⟩:=hR.sls;have l1:=ia.len;have l2:=ip.len;have l3:=ie.len;have l4:=ik.len;have ln:=h1.len;have s1:=ia.short;have s3:=ie.short;have s4:=ik.short;have l5:=i3.len;have s5:=i3.short;have hwp:f.params.length<=fW f:=by rw [Ya6];omega
  refine qF Tryz.func31 Tryz.ntmps31 (fun w0=>?_);refine pX (fun g3=>?_);refine pY (fun g4=>?_);refine zWO ?_;intros;by_cases hat:f.op=kAtom
  ·have e1:formM d os vars f=atomM d os vars f.name f.args:=by rw [YaR,if_pos hat]
   refine zV ?_;intros;refine zG ?_;refine YG ?_;refine zG ?_;refine XJ (fun fz' hle hf=>YaM (cap:=[Zp g4]) (p:=fun y:Predicate=>y.name=f.name) (i3.mono hle) (fun y _ cs hcs=>mform1_q (f:=f) (hf _ (.head _)) hcs)) ?_;rcases Ybc (p:=fun y:Predicate=>y.name=f.name) d.predicates with hno | ⟨k,x,hk1,hk2,hk3⟩
   ·have e3:atomM d os vars f.name f.args=8:=by rw [atomM,show fstP d.predicates f.name=none from YfO (p:=fun y:Predicate=>y.name=f.name) hno]
    rw [YR hno];refine zV ?_;intros;refine zC ?_ ?_<;>intro c0;rotate_left 1
    ·exact absurd Zh c0
    refine zV ?_;intros;exact zR (h:=by rw [e1,e3];rfl)
   have hkl:k<d.predicates.length:=(Zg hk2).1;have e3:atomM d os vars f.name f.args=YdS d os vars f.args x.params:=by rw [atomM,show fstP d.predicates f.name=some x from Yeg (p:=fun y:Predicate=>y.name=f.name) hk1 hk2 hk3]
   rw [Xg hk1 hk2 hk3,Int.zero_add];refine zV ?_;intros;refine zC ?_ ?_<;>intro c0
   ·exact absurd c0 Zi
   refine zV ?_;intros;refine zI i3 hk2 (fun p9 hp9=>?_);refine zV ?_;intros
   ((refine zG ?_);refine XQ hp9.Predicate_params (fun C9 n9 c9 h9=>?_));refine zV ?_;intros;refine zc (Ypa h0 h1 hv ia h9) ?_;refine zV ?_;intros;exact zR (h:=by rw [e1,e3])
  have e1:formM d os vars f=if ownM d os vars f.op f.args f.params≠0 then ownM d os vars f.op f.args f.params else if exprML d os (varsM vars f.op f.params) f.exprs≠0 then exprML d os (varsM vars f.op f.params) f.exprs else formML d os (varsM vars f.op f.params) f.kids:=by rw [YaR,if_neg hat]
  refine zVX ?_;intros;refine Yy (YV (fun σ fz' H'=>∃ (A':Option Addr) (n' c':Nat) (vs':List Param),σ=[(4,Zp g4),(3,Zp g3),(2,Zc A' n' c')]/\Le fz fz'/\H'=[(g4,Zu #[Zy f.op,Zy f.name,Zc B1 m1 d1,Zc B2 m2 d2,Zc B3 m3 d3,Zc B4 m4 d4] 35),(g3,Zu #[Zp g] 94)]/\Sl paramL fz' A' n' c' vs'/\Yhd os (varsM vars f.op f.params) vs'/\n'<=n+f.params.length/\ownM d os vars f.op f.args f.params=0) ?_ ?_)
  ·by_cases hsa:f.op=kSame
   ·have e2:varsM vars f.op f.params=vars:=if_pos hsa;have e3:ownM d os vars f.op f.args f.params=if ∀ a∈f.args,(WK os vars a).isSome=true then 0 else 8:=if_pos hsa
    refine zV ?_;intros;refine XW m1 (fun k=>[(52,Zk k),(51,Zk m1),(50,Zc B1 m1 d1),(4,Zp g4),(3,Zp g3),(2,Zc A n c)]) [(g4,Zu #[Zy f.op,Zy f.name,Zc B1 m1 d1,Zc B2 m2 d2,Zc B3 m3 d3,Zc B4 m4 d4] 35),(g3,Zu #[Zp g] 94)] (fun k=>(∀ i,i<k->∀ x,f.args[i]?=some x->(WK os vars x).isSome=true)) (fun i hi=>absurd hi Zi) ?_;intro k hk hh;refine zV ?_;intros;refine zC ?_ ?_<;>intro c1
    ·obtain ⟨x,hx⟩:=Yc (l:=f.args) (k:=k) Zi;refine zV ?_;intros;refine zI ia hx (fun p1 hp1=>?_);refine zH hp1 (fun hxs=>?_);refine zV ?_;intros;refine zc (Yo7 h0 h1 hv) ?_;cases hr:WK os vars x with
     | none=>
      have e5:ownM d os vars f.op f.args f.params=8:=by rw [e3,if_neg];intro h9;have:=h9 x (Zm hx);rw [hr] at this;cases this
      rw [show YpV none=.tuple #[Ze,Zo false] from rfl];refine zV ?_;intros;exact zR (h:=by rw [e1,e5,if_pos Zh];rfl)
     | some t=>
      rw [show YpV (some t)=.tuple #[Zy t,Zo true] from rfl];refine zV ?_;intros;exact wM (h:=by exact Yx (p:=fun x=>(WK os vars x).isSome=true) hh hx (by rw [hr];rfl))
    have hA:=YQ hh Zi;refine zV ?_;intros;exact wN (h:=by exact ⟨A,n,c,vs,rfl,Zd,rfl,h1,by rw [e2];exact hv,by omega,by rw [e3,if_pos hA]⟩)
   by_cases hq:Yhf f.op
   ·have e2:varsM vars f.op f.params=vars++f.params:=by rw [varsM,if_neg hsa,if_pos hq]
    have e3:ownM d os vars f.op f.args f.params=if TwP [] (parN f.params) then 4 else if ExP d.types f.params then 0 else 3:=by rw [ownM,if_neg hsa,if_pos hq]
    refine Yy ?_;refine zVX ?_;intros;refine Yy ?_;refine zVX ?_;intros;refine Yy ?_;refine zVX ?_;intros;refine Yy (YV (fun σ fz' H'=>σ=[(67,Zo true),(4,Zp g4),(3,Zp g3),(2,Zc A n c)]/\fz=fz'/\H'=[(g4,Zu #[Zy f.op,Zy f.name,Zc B1 m1 d1,Zc B2 m2 d2,Zc B3 m3 d3,Zc B4 m4 d4] 35),(g3,Zu #[Zp g] 94)]) ?_ ?_)
    ·rcases hq with w1 | w2
     ·refine zV ?_;intros;exact wN (h:=by exact ⟨rfl,rfl,rfl⟩)
     have w1:¬f.op=kForall:=by rw [w2];decide
     refine zV ?_;intros;exact wN (h:=by exact ⟨rfl,rfl,rfl⟩)
    rintro σ fz1 H' ⟨rfl,rfl,rfl⟩;refine zV ?_;intros;refine Ya (Yh [] [_,_] Zz (Yl8 ip Zi) (fun v5 fz5 H5 hle5 hR5=>?_));have hO5:=str_own hR5;obtain ⟨A5,c5,rfl,_,_⟩:=hR5.form;refine zV ?_;intros;refine Ya (Yh H5 [_,_] Zz (sortU_f hO5 Zi) (fun v6 fz6 H6 hle6 hR6=>?_));obtain ⟨rfl,rfl,hO6⟩:=hR6;refine zWN ?_;intros;refine Wp.perm (Zq (l₁:=[_,_]) (l₂:=H6)) ?_;refine YS [_,_] ?_;refine zW ?_;intros;refine Yj (Yj ?_);refine zW ?_;intros;refine pU ?_;refine Yf (Does.perm (H':=H6++ [_,_]) Zq (Does.after (Yh H6 [_,_] Zz (YnM hO6 Zi) (fun v7 fz7 H7 hle7 hR7=>?_))));obtain ⟨rfl,Ac,cc,e7⟩:=hR7;obtain ⟨N,hN⟩:∃ N,N=cmpU (Yhj ((f.params.map (·.name)).map (·.data.toList))):=⟨_,rfl⟩;obtain rfl:v7=Zc Ac N cc:=by rw [hN];exact e7
    refine ⟨_,Zq (l₁:=[_,_]) (l₂:=H7),⟨Zd,Zx⟩,?_⟩;have hdup:N<f.params.length↔TwP [] (parN f.params):=by rw [hN];exact dup_iff
    refine Ch.qk ⟨Zd,Zx⟩ (Xh ?_);refine Ch.qk ⟨Zd,Zx⟩ (q_lssD Zz Zz (fun c1=>?_) (fun c1=>?_))
    ·refine Ch.done ?_;have ht:=hdup.1 Zi;refine zV ?_;intros;exact zR (h:=by rw [e1,e3,if_pos ht,if_pos Zh];rfl)
    refine Ch.done ?_;have ht:=fun h=>c1 (by have:=hdup.2 h;omega)
    refine zV ?_;intros;refine zG ?_;refine YG ?_;refine zG ?_;refine YaQ (b:=decide (∃ y∈f.params,¬HasT d.types y.typ)) (fun fz' hle hf=>Wt (cap:=[Zp g3]) (p:=fun y:Param=>¬HasT d.types y.typ) (ip.mono (hle5.trans hle)) (fun y _ cs hcs=>mform2_q (h0.mono (hle5.trans hle)) (hf _ (.tail _ (.head _))) hcs)) (fun f1=>?_) (fun f1=>?_)
    ·have hx:¬ExP d.types f.params:=fun h=>by
      obtain ⟨y,hy,hn⟩:=Zt f1;exact hn (h y hy)
     refine zV ?_;intros;exact zR (h:=by rw [e1,e3,if_neg ht,if_neg hx,if_pos Zh];rfl)
    have hx:ExP d.types f.params:=fun y hy=>Classical.byContradiction fun hn=>Zf f1 ⟨y,hy,hn⟩
    refine zV ?_;intros;refine Ya (Yh [] (_::_::H7) Zz (Yab (ip.mono hle5) Zi) (fun v8 fz8 H8 hle8 hR8=>?_));obtain ⟨Av,cv,rfl,_,_⟩:=hR8.form;refine zV ?_;intros;refine Ya (XF T (Hr:=_::_::H7) Zz Zz Zz Zz Zz Zz Zz Zz Zq hR8 WI (h1.mono (hle5.trans hle8)) (by show _*32<=_;omega) Zi (fun v9 H9 hO9=>?_));obtain ⟨Aw,cw,rfl,_,_⟩:=hO9.form;refine zV ?_;intros;exact midF (H':=[_,_]) (H2:=H7++H9) (Zr _) (fun fz9 hle9 hf9=>by
     obtain ⟨A8,c8,e8,h8⟩:=hO9.sl hle9 (fun p hp=>hf9 p (by simp [hp])) Zi;injection e8 with e81 e82 e83
     subst e81;subst e83;exact ⟨Aw,_,cw,_,rfl,(hle5.trans hle8).trans hle9,rfl,h8,by rw [e2];exact hv.app (YfG ht) (fun p hp=>((XT.1 hok).1.2.2 p hp).1),by omega,by rw [e3,if_neg ht,if_pos hx]⟩) Zw
   have w1:¬f.op=kForall:=fun h=>hq (.inl h)
   have w2:¬f.op=kExists:=fun h=>hq (.inr h)
   have e2:varsM vars f.op f.params=vars:=by rw [varsM,if_neg hsa,if_neg hq]
   have e4:ownM d os vars f.op f.args f.params=0:=by rw [ownM,if_neg hsa,if_neg hq]
   refine zV ?_;intros;exact wN (h:=by exact ⟨A,n,c,vs,rfl,Zd,rfl,h1,by rw [e2];exact hv,by omega,e4⟩)
  rintro σ fz1 H' ⟨A',n',c',vs',rfl,hle,rfl,h1',hv',hn',ho0⟩;rw [ho0,if_neg Zh] at e1;generalize hvs:varsM vars f.op f.params=vars' at hv' e1;have h0':=h0.mono hle;have ie':=ie.mono hle;have ik':=ik.mono hle;refine zV ?_;intros;refine Yi (fun q σ fz' H'=>∃ k:Nat,k<=m3/\q=m3 - k/\σ=[(96,Zk k),(95,Zk m3),(94,Zc B3 m3 d3),(4,Zp g4),(3,Zp g3),(2,Zc A' n' c')]/\fz1=fz'/\H'=[(g4,Zu #[Zy f.op,Zy f.name,Zc B1 m1 d1,Zc B2 m2 d2,Zc B3 m3 d3,Zc B4 m4 d4] 35),(g3,Zu #[Zp g] 94)]/\(∀ i,i<k->∀ y,f.exprs[i]?=some y->exprM d os vars' y=0)) ⟨0,Z0 _,rfl,rfl,rfl,rfl,fun i hi=>absurd hi Zi⟩ Zw Zb ?_;rintro q σ fz' H' ⟨k,hk,rfl,rfl,rfl,rfl,hh⟩;refine zV ?_;intros;refine zC ?_ ?_<;>intro c1
  ·obtain ⟨x,hx⟩:=Yc (l:=f.exprs) (k:=k) Zi;refine zV ?_;intros;refine zI ie' hx (fun p1 hp1=>?_);refine zL hp1 ?_;intro cs hcs;obtain ⟨wa,wk,rfl,hRx⟩:=Yw hcs;obtain ⟨⟨E1,r1,q1,rfl,_⟩,⟨E2,r2,q2,rfl,_⟩⟩:=hRx.sls;refine zV ?_;intros
   ((refine zG ?_);refine Yu (Yo9 _ (Zs _) h0' h1' hv' hRx) ?_);by_cases hz:exprM d os vars' x=0
   ·rw [hz,show errV 0=.nilIface from rfl];refine zV ?_;intros;exact wM (h:=by exact Yx hh hx hz)
   rw [Yq hz];refine zV ?_;intros;exact zR (h:=by rw [e1,Ybz hx hh hz,if_pos hz,Yq hz])
  have hez:exprML d os vars' f.exprs=0:=W7 (YQ hh Zi);rw [hez,if_neg Zh] at e1;refine zV ?_;intros;refine Yi (fun q σ fz' H'=>∃ k:Nat,k<=m4/\q=m4 - k/\σ=[(111,Zk k),(110,Zk m4),(109,Zc B4 m4 d4),(3,Zp g3),(2,Zc A' n' c')]/\fz1=fz'/\H'=[(g3,Zu #[Zp g] 94)]/\(∀ i,i<k->∀ y,f.kids[i]?=some y->formM d os vars' y=0)) ⟨0,Z0 _,rfl,rfl,rfl,rfl,fun i hi=>absurd hi Zi⟩ Zw Zb ?_;rintro q σ fz' H' ⟨k,hk,rfl,rfl,rfl,rfl,hh⟩;refine zV ?_;intros;refine zC ?_ ?_<;>intro c2
  ·obtain ⟨x,hx⟩:=Yc (l:=f.kids) (k:=k) Zi;have hxm:=Zm hx;have hlt:=Lx.Formula.kids_lt hxm;have hkw:=Ypr hxm;refine zV ?_;intros;refine zI ik' hx (fun p1 hp1=>?_);refine zL hp1 ?_;intro cs hcs;obtain ⟨wa,wp,we,wk,rfl,hRx⟩:=Yn hcs;obtain ⟨⟨E1,r1,q1,rfl,_⟩,⟨E2,r2,q2,rfl,_⟩,⟨E3,r3,q3,rfl,_⟩,⟨E4,r4,q4,rfl,_⟩⟩:=hRx.sls;refine zV ?_;intros
   ((refine zG ?_);refine Yu (Yo8 s Zi h0' h1' hv' hRx ((XT.1 hok).2.2 x hxm) Zi) ?_);by_cases hz:formM d os vars' x=0
   ·rw [hz,show errV 0=.nilIface from rfl];refine zV ?_;intros;exact wM (h:=by exact Yx hh hx hz)
   rw [Yq hz];refine zV ?_;intros;exact zR (h:=by rw [e1,Yei hx hh hz,Yq hz])
  have hA:=YQ hh Zi;refine zV ?_;intros;exact zR (h:=by rw [e1,YcB hA];rfl)
def relE (d:Domain) (p:Problem) (f:Formula):Int:=if FVal f then formM d (objsM d p) [] f else 2
theorem YoK {l:List Atom} (hM:MaxF fz) (hD:DomainR fz d v1 v2 v3 v4 v5 v6) (hP:ProblemR fz p u1 u2 u3 u4 u5 u6 u7) (hS:ChkS d p) (hc:(YT d p).2=0) (hap:Apt d p) (hl:Sl atomL fz A n c l) (hla:∀ a∈l,AtmOk a) (hR:FormulaR fz f va vp ve vk) (hW:fW f<=1400000):
 GFn prog 10 [ZD d v1 v2 v3 v4 v5 v6,ZP p u1 u2 u3 u4 u5 u6 u7,Zc A n c,.agg #[Zy f.op,Zy f.name,va,vp,ve,vk]] fz []
  (fun r fz' H'=>H'=[]/\∃ (S:List Atom) (b:Bool),(∀ a,a∈S↔a∈l)/\r=.tuple #[Zo b,errV (relE d p f)]/\(relE d p f=0->b=holdsM (knM d p) S (fun _=>none) (normV f))):=by
 have hD0:=hD;have hP0:=hP;have hR0:=hR;obtain ⟨⟨A1,n1,b1,rfl,i1⟩,⟨A2,n2,b2,rfl,i2⟩,⟨A3,n3,b3,rfl,i3⟩,⟨A4,n4,b4,rfl,i4⟩,⟨A5,n5,b5,rfl,i5⟩,⟨A6,n6,b6,rfl,i6⟩⟩:=hD.sls;obtain ⟨⟨B1,m1,d1,rfl,j1⟩,⟨B2,m2,d2,rfl,j2⟩,⟨B3,m3,d3,rfl,j3⟩⟩:=hP.sls;obtain ⟨⟨B4,m4,d4,rfl,_⟩,⟨B5,m5,d5,rfl,_⟩,⟨B6,m6,d6,rfl,_⟩,⟨B7,m7,d7,rfl,_⟩⟩:=hP.goal.sls;obtain ⟨⟨C1,q1,e1,rfl,_⟩,⟨C2,q2,e2,rfl,_⟩,⟨C3,q3,e3,rfl,_⟩,⟨C4,q4,e4,rfl,_⟩⟩:=hR.sls;have ll:=hl.len;have sl:=hl.short;refine zF Tryz.func10 Tryz.ntmps10 (fun w0=>?_);refine pX (fun g4=>?_);refine pY (fun g5=>?_);refine pY (fun g7=>?_);refine zWO ?_;intros;refine zV ?_;intros;refine Ya (Yh [] [_,_,_] Zz (Ylu hM hD0 hP0 hS (fun _=>hap.init)) (fun v8 fz8 H8 hle8 hR8=>?_));obtain ⟨rfl,vk8,rfl,hkd⟩:=hR8;have hKD:=hkd hc;rw [hc,show errV 0=.nilIface from rfl];refine zV ?_;intros
 ((refine zG ?_);refine Xu (YfN (hR0.mono hle8) (Ydx _ (Zs _) Zi)) (fun f1=>?_) (fun f1=>?_));rotate_left 1
 ·have hv:=Zf f1;have e0:relE d p f=2:=if_neg hv;refine zV ?_;intros;exact ret2 rfl rfl rfl (List.nil_sublist _) ⟨rfl,l,false,fun _=>Iff.rfl,by rw [e0];rfl,fun h=>absurd h (by rw [e0];decide)⟩
 have hv:=Zt f1;have e0:relE d p f=formM d (objsM d p) [] f:=if_pos hv;refine zV ?_;intros
 ((refine zG ?_);refine Yu (Yps _ (Zs _) hKD.f (Sl.nil (A:=none) (c:=0)) (hR0.mono hle8) hv.1 Zi) ?_);rw [show formM d (knM d p).os [] f=relE d p f from e0.symm];by_cases hz:relE d p f=0;rotate_left 1
 ·rw [Yq hz];refine zV ?_;intros;exact ret2 rfl rfl rfl (List.nil_sublist _) ⟨rfl,l,false,fun _=>Iff.rfl,rfl,fun h=>absurd h hz⟩
 rw [hz,show errV 0=.nilIface from rfl];refine zV ?_;intros;refine Ya (Xf (fun gset=>?_));refine zV ?_;intros;refine Yi (fun q σ fz' H'=>∃ (k:Nat) (m:List (Bs × Value)) (S:List Atom),k<=n/\q=n - k/\σ=[(38,Zk k),(37,Zk n),(36,Zc A n c),(13,.map (some gset)),(10,vk8),(7,Zp g7)]/\fz8=fz'/\H'=[(gset,mapS m),(g7,Zu #[Zy f.op,Zy f.name,Zc C1 q1 e1,Zc C2 q2 e2,Zc C3 q3 e3,Zc C4 q4 e4] 35)]/\SetM fz' m S/\(∀ a,a∈S↔a∈l.take k)) ⟨0,[],[],Z0 _,rfl,rfl,rfl,rfl,SetM.nil,fun a=>by simp⟩ Zw Zb ?_;rintro q σ fz' H' ⟨k,m,S,hk,rfl,rfl,rfl,rfl,hSm,hmem⟩;refine zV ?_;intros;refine zC ?_ ?_<;>intro c1
 ·obtain ⟨x,hx⟩:=Yc (l:=l) (k:=k) Zi;have hxm:=Zm hx;refine zV ?_;intros;refine zI (hl.mono hle8) hx (fun p1 hp1=>?_);refine zL hp1 ?_;intro cs hcs;obtain ⟨vx,rfl,hRx⟩:=Xp hcs;have hRx0:=hRx;obtain ⟨X1,x1,y1,rfl,_⟩:=hRx.args;refine zV ?_;intros;refine Ya (Does.perm (H':=[_]++ [_,_]) (List.Perm.swap _ _ _) (Yh [_] [_,_] Zz (add_f hSm hRx0 (hla x hxm)) (fun v5 fz5 H5 hle5 hR5=>?_)));obtain ⟨rfl,rfl,m5,rfl,hS5⟩:=hR5;refine zV ?_;intros;exact Wr ⟨k+1,m5,_,by omega,rfl,rfl,rfl,rfl,hS5,fun a=>by
   rw [List.take_add_one,hx,Option.toList_some,List.mem_append,List.mem_singleton];split
   ·rename_i hin;rw [hmem a];exact ⟨.inl,fun h=>h.elim id (fun h=>by subst h;exact (hmem _).1 hin)⟩
   rw [List.mem_append,List.mem_singleton,hmem a]⟩ Zi Zw Zb
 rw [Zl (show l.length<=k by omega)] at hmem;refine zV ?_;intros;refine Seq.freezeAll (H1:=[_]) (H2:=[_]) (Zq (l₁:=[_]) (l₂:=[_])) (fun fz9 hle9 hf9=>?_);have hgs:=hf9 _ (.head _);have hle:=hle8.trans hle9;refine zV ?_;intros;refine Ya (Yh [] [_] Zz (YcF (hR0.mono hle) Zi) (fun v10 fz10 H10 hle10 hR10=>?_));obtain ⟨rfl,hV10⟩:=hR10;obtain ⟨D1,s1,t1,D2,s2,t2,D3,s3,t3,D4,s4,t4,rfl,hF10⟩:=hV10.open;refine zV ?_;intros
 ((refine zG ?_);refine Yu (YcY _ (Zs _) (hKD.k.mono (hle9.trans hle10)) hap.os (hle10 _ _ hgs) (hSm.mono (hle9.trans hle10)) hF10 (YaZ Zi) (.inl ⟨rfl,fun _=>rfl⟩) (fun x y h=>by cases h)) ?_);refine zV ?_;intros;exact ret2 rfl rfl rfl (List.nil_sublist _) ⟨rfl,S,_,hmem,rfl,fun _=>rfl⟩
theorem mholds_f {vw:Value} (hM:MaxF fz) (hD:DomainR fz d v1 v2 v3 v4 v5 v6) (hP:ProblemR fz p u1 u2 u3 u4 u5 u6 u7) (hS:ChkS d p) (h6:(objsM d p).length<=6) (hc:(YT d p).2=0) (hW:WdR fz W vw) (hR:FormulaR fz f va vp ve vk) (hF:fW f<=1400000):
 GFn prog 11 [ZD d v1 v2 v3 v4 v5 v6,ZP p u1 u2 u3 u4 u5 u6 u7,vw,.agg #[Zy f.op,Zy f.name,va,vp,ve,vk]] fz []
  (fun r fz' H'=>H'=[]/\∃ b:Bool,r=.tuple #[Zo b,errV (relE d p f)]/\(relE d p f≠0->b=false)/\(relE d p f=0->b=holdsW (mnM d p) W [] [] (normV f))):=by
 have hD0:=hD;have hP0:=hP;have hR0:=hR;have hW0:=hW;obtain ⟨Wa,wn,wc,Wv,wm,wd,rfl,hWA,hWV⟩:=hW;obtain ⟨⟨A1,n1,b1,rfl,i1⟩,⟨A2,n2,b2,rfl,i2⟩,⟨A3,n3,b3,rfl,i3⟩,⟨A4,n4,b4,rfl,i4⟩,⟨A5,n5,b5,rfl,i5⟩,⟨A6,n6,b6,rfl,i6⟩⟩:=hD.sls;obtain ⟨⟨B1,m1,d1,rfl,j1⟩,⟨B2,m2,d2,rfl,j2⟩,⟨B3,m3,d3,rfl,j3⟩⟩:=hP.sls;obtain ⟨⟨B4,m4,d4,rfl,_⟩,⟨B5,m5,d5,rfl,_⟩,⟨B6,m6,d6,rfl,_⟩,⟨B7,m7,d7,rfl,_⟩⟩:=hP.goal.sls;obtain ⟨⟨C1,q1,e1,rfl,_⟩,⟨C2,q2,e2,rfl,_⟩,⟨C3,q3,e3,rfl,_⟩,⟨C4,q4,e4,rfl,_⟩⟩:=hR.sls;refine zF Tryz.func11 Tryz.ntmps11 (fun w0=>?_);refine pX (fun g4=>?_);refine pY (fun g5=>?_);refine pY (fun g6=>?_);refine pY (fun g7=>?_);refine zWO ?_;intros;refine zV ?_;intros;refine Ya (Yh [] [_,_,_,_] Zz (Ygv hM hD0 hP0 hS h6) (fun v8 fz8 H8 hle8 hR8=>?_));obtain ⟨rfl,vm,rfl,hMn⟩:=hR8;have hmn:=hMn hc;rw [hc,show errV 0=.nilIface from rfl];refine zV ?_;intros
 ((refine zG ?_);refine Xu (YfN (hR0.mono hle8) (Ydx _ (Zs _) Zi)) (fun f1=>?_) (fun f1=>?_));rotate_left 1
 ·have hv:=Zf f1;have e0:relE d p f=2:=if_neg hv;refine zV ?_;intros;exact ret2 rfl rfl rfl (List.nil_sublist _) ⟨rfl,false,by rw [e0];rfl,fun _=>rfl,fun h=>absurd h (by rw [e0];decide)⟩
 have hv:=Zt f1;have e0:relE d p f=formM d (objsM d p) [] f:=if_pos hv;refine zV ?_;intros
 ((refine zG ?_);refine Yu (Yo8 _ (Zs _) (MfR.of hmn) (Sl.nil (A:=none) (c:=0)) (Yhd.none (YoZ hc)) (hR0.mono hle8) hv.1 Zi) ?_);rw [<- e0];by_cases hz:relE d p f=0;rotate_left 1
 ·rw [Yq hz];refine zV ?_;intros;exact ret2 rfl rfl rfl (List.nil_sublist _) ⟨rfl,false,rfl,fun _=>rfl,fun h=>absurd h hz⟩
 rw [hz,show errV 0=.nilIface from rfl];have hnw:=Yo2 hv;refine zWN ?_;intros;refine YS [_,_,_,_] ?_;refine zW ?_;intros;refine pU ?_;refine Yf (Yh [] [_,_,_,_] Zz (YcF (hR0.mono hle8) Zi) (fun v10 fz10 H10 hle10 hR10=>?_));obtain ⟨rfl,hV10⟩:=hR10;obtain ⟨D1,s1,t1,D2,s2,t2,D3,s3,t3,D4,s4,t4,rfl,hF10⟩:=hV10.open;refine ⟨⟨hle10,Zx⟩,?_⟩;refine Ch.qk ⟨hle10,Zx⟩ (Yu (YfE _ (Zs _) (hmn.mono hle10) (hW0.mono (hle8.trans hle10)) hF10 (Sl.nil (A:=none) (c:=0)) (Sl.nil (A:=none) (c:=0)) (Zs _) Zi Zi (Ykd hv)) ?_);refine Ch.qk ⟨hle10,Zx⟩ (YE ?_);refine Ch.qk ⟨hle10,Zx⟩ (YE ?_);refine Ch.done ?_;refine zV ?_;intros;exact ret2 rfl rfl rfl (List.nil_sublist _) ⟨rfl,_,rfl,fun h=>absurd rfl h,fun _=>rfl⟩
end Go.Proofs.YtacfpcbladaohaaGreatDoor
namespace Go.Proofs.YtacfpcbladaohaaGreatDoor
variable {d:Domain} {p:Problem} {i j:Nat} {M:Mn} {W:Wd} {S:List Atom} {K:Kn}
theorem Ye2 {α:Type} {E:α->Int}:∀ {l:List (Bs × α)},(YX E l).2=0->∀ p∈l,E p.2=0
 | [],_,p,hp=>by cases hp
 | q::l,h,p,hp=>by
  rw [YX] at h;split at h
  ·rename_i h0;rcases List.mem_cons.1 hp with rfl | hp
   ·exact h0
   exact Ye2 h p hp
  rename_i h0;exact absurd h h0
theorem Yh4 {α:Type} {E:α->Int}:∀ {l:List α},Yav E l=0->∀ p∈l,E p=0
 | [],_,p,hp=>by cases hp
 | q::l,h,p,hp=>by
  rw [Yav] at h;split at h
  ·rename_i h0;rcases List.mem_cons.1 hp with rfl | hp
   ·exact h0
   exact Yh4 h p hp
  rename_i h0;exact absurd h h0
theorem actK_of (hc:(YT d p).2=0) {a:Action} (ha:a∈d.actions):(parN a.params).Nodup/\∀ c∈a.changes,(parN c.params).Nodup/\((c.kind=1\/c.kind=2)->chgK d c.name=true):=by
 have hok:=Yh9 hc;have s1:(YX (fun l=>if TwP [] (parN l) then 4 else 0) (YbK d [])).2=0:=hok.step 1 Zh;have s5:(YX idN (YaS d (objsM d p))).2=0:=hok.step 5 Zh;have t1:=Ye2 s1 (Wl++a.name,a.params) (List.mem_append_right _ (List.mem_append_right _ (List.mem_append_right _ (List.mem_append_left _ (List.mem_map.2 ⟨a,ha,rfl⟩)))));refine ⟨YfG (o:=[]) (fun h=>by
  have t1:(if TwP [] (parN a.params) then (4:Int) else 0)=0:=t1;rw [if_pos h] at t1;cases t1),fun c hcm=>?_⟩
 have t5:XS d (objsM d p) a.params a.changes false=0:=Ye2 s5 ((Wl++a.name)++wEff,XS d (objsM d p) a.params a.changes false) (List.mem_append_left _ (List.mem_flatMap.2 ⟨a,ha,.tail _ (.head _)⟩));have t6:YaO d (objsM d p) a.params c false=0:=Yh4 t5 c hcm;unfold YaO at t6;split at t6
 ·cases t6
 split at t6
 ·cases t6
 rename_i h2;split at t6
 ·cases t6
 split at t6
 ·rename_i h;exact absurd t6 h
 refine ⟨YfG h2,fun hk=>?_⟩;have hn:¬NumC c:=fun h=>by
  rcases hk with e | e
  ·exact h.1 e
  exact h.2 e
 rw [if_pos hn] at t6;unfold atomM at t6;split at t6
 ·cases t6
 rename_i q hq;unfold fstP at hq;have h3:∃ q∈d.predicates,q.name=c.name:=⟨q,List.mem_of_find?_eq_some hq,by simpa using List.find?_some hq⟩;have h4:∃ a∈d.actions,Ym0 c.name a:=⟨a,ha,c,hcm,hk,rfl⟩;unfold chgK chgM;rw [decide_eq_true h3,decide_eq_true (.inl h4)];rfl
theorem YpD {l:List Schema} {D:List (List Bool)} {s:Schema} {b:List Bool} {a:List Bs} (hs:l[i]?=some s) (hb:D[i]?=some b) (ha:s.arguments[j]?=some a) (hx:b[j]?=some true):(s.name,a)∈Ydr l D:=
 List.mem_flatMap.2 ⟨(s,b),Zm (List.getElem?_zip_eq_some.2 ⟨hs,hb⟩),List.mem_map.2 ⟨(a,true),List.mem_filter.2 ⟨Zm (List.getElem?_zip_eq_some.2 ⟨ha,hx⟩),rfl⟩,rfl⟩⟩
theorem YmI {a:Action} {as_:List Bs} {k:Int} {z:Atom} (h:z∈fireM M W a as_ k):∃ c∈a.changes,c.kind=k/\∃ l,Yhz M c.params l/\holdsW M W (nmC a c) (l++as_) (normV c.when_)=true/\z=⟨c.name,c.args.map (valN (nmC a c) (l++as_))⟩:=by
 obtain ⟨c,hcm,h⟩:=List.mem_flatMap.1 h;unfold Yfx at h;split at h
 ·rename_i hk;obtain ⟨l,hl,rfl⟩:=List.mem_map.1 h;obtain ⟨h1,h2⟩:=List.mem_filter.1 hl;exact ⟨c,hcm,hk,l,Yoj h1,h2,rfl⟩
 cases h
theorem inv_step (hc:(YT d p).2=0) (hf:Fit14 d p) (hap:Apt d p) (hsch:schE (knM d p) d=0) {B D:List (List Bool)} (hS:S.length<=4096) (hB:FitR (schL (knM d p) d) B) (hD:FitR (schL (knM d p) d) D) (hfix:Xq (knM d p) (schL (knM d p) d) S B D=⟨S,B,D,false⟩) {W':Wd} {s:StepM} {a:Action} (hI:InvW (knM d p) S W) (ha:AppOk (mnM d p) W s a) (hw:StepW (mnM d p) W s a W'):InvW (knM d p) S W'/\s∈Ydr (schL (knM d p) d) D:=by
 have ho:∀ t,ofN (mnM d p) t=ofK (knM d p) t:=fun t=>rfl
 have hos:(mnM d p).os.length<=6:=by show (d.constants++p.objects).length<=6;rw [List.length_append];exact hf.os
 have htyp:=ha.typ;have hmem:a∈d.actions:=htyp.mem;obtain ⟨k,hk,hname,_⟩:=htyp.fd;have hcmb:=mem_comb ho hos (hf.a a hmem).params (Yok htyp.len htyp.typ);have hsk:(schL (knM d p) d)[k]?=some (Ybn (knM d p) (schA a)):=by
  have hk':d.actions[k]?=some a:=hk;unfold schL schB;rw [List.getElem?_map,List.getElem?_append_left (by rw [List.length_map];exact (Zg hk').1),List.getElem?_map,hk'];rfl
 obtain ⟨j,hj⟩:=List.getElem?_of_mem hcmb;obtain ⟨b,dd,x,y,hb,hd,hx,hy,hn⟩:=inst_fix hB hD hfix hsk hj;have hssh:=hap.sh hsch _ (Zm hsk);obtain ⟨hnd,hch⟩:=actK_of hc hmem;have hE:EqE (nmA a) s.2 (envA (Ybn (knM d p) (schA a)) s.2):=by
  have:=EqE.ext (ns:=[]) (bs:=[]) (E:=fun _=>none) htyp.len hnd (fun x=>rfl);rw [List.append_nil,List.append_nil] at this;exact this
 obtain ⟨hy1,hadd⟩:=inst_act hn rfl rfl (relax ho hI _ (Zs _) hssh.all hE ha.pre);subst hy1;refine ⟨⟨fun z hz=>?_,fun z hz hch0=>(hw.mem z).2 (.inl ⟨hI.st z hz hch0,fun hz2=>?_⟩)⟩,?_⟩
 ·rcases (hw.mem z).1 hz with ⟨h1,_⟩ | h1
  ·exact hI.sub z h1
  obtain ⟨c,hcm,hk1,l,hT,hl,rfl⟩:=YmI h1;have hE2:=EqE.ext (ps:=c.params) hT.len (hch c hcm).1 hE;have hcn:{c with when_:=normV c.when_}∈normC a.changes:=List.mem_map.2 ⟨c,List.mem_filter.2 ⟨hcm,decide_eq_true hk1⟩,rfl⟩;have hfx:=YmY ho hS (Yqw hadd _ hcn) hT (relax ho hI _ (Zs _) (hssh.late _ hcn).when_ hE2 hl);rw [hE2.bnd] at hfx;exact hfx
 ·obtain ⟨c,hcm,hk2,l,_,_,rfl⟩:=YmI hz2;have h1:chgK d c.name=false:=hch0;rw [(hch c hcm).2 (.inr hk2)] at h1;cases h1
 have h1:=YpD hsk hd hj hy;have e:s=(a.name,s.2):=by rw [hname]
 rw [e];exact h1
theorem YeK {K:Kn} {al:Bool} {h1 h2:EnvM->Bool} (hh:∀ E,h1 E=true->h2 E=true):∀ (ps:List Param) {E:EnvM},quantV K al h1 ps E=true->quantV K al h2 ps E=true
 | [],E,g=>by rw [quantV] at g ⊢;exact hh E g
 | p::ps,_,g=>by
  rw [quantV] at g ⊢;cases al with
  | true=>
   rw [if_pos rfl,List.all_eq_true] at g ⊢;exact fun o hi=>YeK hh ps (g o hi)
  | false=>
   rw [if_neg Zh,List.any_eq_true] at g ⊢;obtain ⟨o,hi,g⟩:=g;exact ⟨o,hi,YeK hh ps g⟩
theorem Yh1 {K:Kn} {S T:List Atom} (h:∀ a∈T,a∈S):∀ (s:Nat) {f:Formula} {E:EnvM},SizeOf.sizeOf f<=s->holdsM K T E f=true->holdsM K S E f=true
 | 0,f,_,hs,_=>by cases f;simp at hs
 | s+1,f,E,hs,g=>by
  have hkid:∀ x∈f.kids,∀ {E},holdsM K T E x=true->holdsM K S E x=true:=fun x hx _ hh=>Yh1 h s (by have:=Formula.kids_lt hx;omega) hh
  rw [XB] at g ⊢;by_cases c1:f.op=kAtom
  ·rw [if_pos c1] at g ⊢;exact decide_eq_true (h _ (Zt g))
  rw [if_neg c1] at g ⊢;by_cases c2:f.op=kSame
  ·rw [if_pos c2] at g ⊢;exact g
  rw [if_neg c2] at g ⊢;by_cases c3:f.op=kNot
  ·rw [if_pos c3] at g ⊢;cases hk:f.kids with
   | nil=>rw [notH]
   | cons x r=>
    rw [hk,notH] at g;rw [notH];by_cases e:x.op=kSame
    ·have e2:¬x.op=kAtom:=by rw [e];decide+kernel
     rw [if_pos e,XB,if_neg e2,if_pos e] at g;rw [if_pos e,XB,if_neg e2,if_pos e];exact g
    rw [if_neg e] at g ⊢;exact g
  rw [if_neg c3] at g ⊢;by_cases c4:f.op=kAnd
  ·rw [if_pos c4,Yjp] at g ⊢;simp only [Bool.not_eq_true',decide_eq_false_iff_not] at g ⊢;exact fun ⟨x,hx,hn⟩=>g ⟨x,hx,fun hh=>hn (hkid x hx hh)⟩
  rw [if_neg c4] at g ⊢;by_cases c5:f.op=kOr
  ·rw [if_pos c5,Yjm] at g ⊢;obtain ⟨x,hx,hn⟩:=Zt g;exact decide_eq_true ⟨x,hx,hkid x hx hn⟩
  rw [if_neg c5] at g ⊢;by_cases c6:QuF f.op
  ·rw [if_pos c6] at g ⊢;refine YeK (fun E g=>?_) _ g;cases hk:f.kids with
   | nil=>rw [headH]
   | cons x r=>
    rw [hk,headH] at g;rw [headH];exact hkid x (by rw [hk];simp) g
  rw [if_neg c6]
theorem exp_ok {S0:List Atom} (h:expE K d S0=0):schE K d=0/\(expM K d S0).S.length<=4096/\(∀ a∈S0,a∈(expM K d S0).S)/\FitR (schL K d) (expM K d S0).B/\FitR (schL K d) (expM K d S0).D/\Xq K (schL K d) (expM K d S0).S (expM K d S0).B (expM K d S0).D=⟨(expM K d S0).S,(expM K d S0).B,(expM K d S0).D,false⟩:=by
 unfold expE at h;split at h
 ·rename_i h1;exact absurd h h1
 rename_i h1;split at h
 ·cases h
 rename_i h2;obtain ⟨f1,f2,f3,f4⟩:=YgZ (K:=K) (l:=schL K d) _ (w:=⟨S0,exN0 (schL K d),exN0 (schL K d),false⟩) (Nat.lt_succ_self _) (Yeo _) (Yeo _);exact ⟨Classical.not_not.1 h1,by omega,fun a ha=>f1.mem ha,f2,f3,f4.resolve_left h2⟩
end Go.Proofs.YtacfpcbladaohaaGreatDoor
namespace Go.Lx
open Go.RowKit
def u8L:Lay Nat where
 size:=1
 rep:=fun _ x cs=>cs=[.int .u8 x]/\x<=255
 len:=fun h=>by obtain ⟨rfl,_⟩:=h;rfl
 mono:=fun _ h=>h
section
variable {P:Program} {cx:Cx} {r:Operand->Option Value} {fz:FZ} {H:HP} {V:Value->Prop} {dst:Option Nat} {ty:TypeId} {pos:String} {af:Array Edge} {gd:Option (Nat × Bool)}
theorem YoR {t:TypeId} {x:Operand} {X:Ty} {p:Addr} {d:Nat} (h:At u8L fz p d) (hV:d<=255->V (.int .u8 d)) (T:Tab P:=by exact T) (hT:T.inf t=some X:=by exact rfl) (hd:XU X.desc=false:=by exact rfl) (hx:r x=some (.pointer (some p)):=by exact rfl):DoesQ P cx ⟨dst,.load t x,ty,pos,af,gd⟩ r fz H V:=by
 obtain ⟨v,⟨h1,h8⟩,h2⟩:=h.cell rfl;injection h1 with h1
 subst h1;exact YaF T hT hd hx h2 (hV h8)
end
end Go.Lx
namespace Go.Proofs.YtacfpcbladaohaaGreatDoor
variable {W:Wd} {d:Domain} {fz:FZ} {p:Problem} {u1 u2 u3 u4 u5 u6 u7 v1 v2 v3 v4 v5 v6 va:Value} {M:Mn} {k:Nat}
def ActsC (d:Domain):Prop:=∀ a∈d.actions,ActC a
theorem YkT {vw:Value} {s:StepM} (hM:MaxF fz) (hD:DomainR fz d v1 v2 v3 v4 v5 v6) (hP:ProblemR fz p u1 u2 u3 u4 u5 u6 u7) (hS:ChkS d p) (h6:(objsM d p).length<=6) (hc:(YT d p).2=0) (hA:ActsC d)
 (hW:WdR fz W vw) (hs:Ycp.rep fz s [Zk 0,Zy s.1,va]) (hn:s.2.length<=1000000):
 GFn prog 23 [ZD d v1 v2 v3 v4 v5 v6,ZP p u1 u2 u3 u4 u5 u6 u7,vw,.agg #[Zk 0,Zy s.1,va]] fz [] (fun r fz' H'=>H'=[]/\∃ e,r=errV e/\(e=0↔∃ a,AppOk (mnM d p) W s a)):=by
 have hD0:=hD;have hP0:=hP;have hW0:=hW;have hs0:=hs;obtain ⟨Wa,wn,wc,Wv,wm,wd,rfl,hWA,hWV⟩:=hW;obtain ⟨va',he,hsn,hsa⟩:=hs;simp at he;subst he;obtain ⟨B,m,d',rfl,ia⟩:=hsa;obtain ⟨⟨A1,n1,b1,rfl,i1⟩,⟨A2,n2,b2,rfl,i2⟩,⟨A3,n3,b3,rfl,i3⟩,⟨A4,n4,b4,rfl,i4⟩,⟨A5,n5,b5,rfl,i5⟩,⟨A6,n6,b6,rfl,i6⟩⟩:=hD.sls;obtain ⟨⟨B1,m1,d1,rfl,j1⟩,⟨B2,m2,d2,rfl,j2⟩,⟨B3,m3,d3,rfl,j3⟩⟩:=hP.sls;obtain ⟨⟨B4,m4,d4,rfl,_⟩,⟨B5,m5,d5,rfl,_⟩,⟨B6,m6,d6,rfl,_⟩,⟨B7,m7,d7,rfl,_⟩⟩:=hP.goal.sls;refine zF Tryz.func23 Tryz.ntmps23 (fun w0=>?_);refine pX (fun g2=>?_);refine pY (fun g3=>?_);refine pY (fun g4=>?_);refine pY (fun g5=>?_);refine zWO ?_;refine vK (q:=Ygv hM hD0 hP0 hS h6) (h:=fun v7 fz7 H7 hle7 hR7=>?_);obtain ⟨rfl,vm,rfl,hMn⟩:=hR7;have hmn:=hMn hc;rw [hc,show errV 0=.nilIface from rfl];refine zV ?_;refine Ya (Yh [] [_,_,_,_] Zz (appl_f hmn (hW0.mono hle7) (Ycp.mono hle7 hs0) hA hn) (fun v8 fz8 H8 hle8 hR8=>?_));obtain ⟨cs,l,e,a,rfl,_,hbad,hgood⟩:=hR8;refine Seq.perm (H':=[_,_,_,_]++H8) Zq ?_;by_cases h0:e=0
 ·subst h0;rw [show errV 0=.nilIface from rfl];refine zV ?_;exact ret1 rfl rfl (List.nil_sublist _) ⟨rfl,0,rfl,fun _=>⟨a,(hgood rfl).1⟩,fun _=>rfl⟩
 rw [Yq h0];refine zV ?_;exact ret1 rfl rfl (List.nil_sublist _) ⟨rfl,e,by rw [Yq h0];rfl,fun h=>absurd h h0,fun ⟨b,hb⟩=>absurd hb ((hbad h0).1 b)⟩
def YhC:Lay Wd where
 size:=2
 rep:=fun fz W cs=>∃ A n c B m d,cs=[Zc A n c,Zc B m d]/\Sl atomL fz A n c W.atoms/\Sl valueL fz B m d W.values
 len:=fun h=>by obtain ⟨A,n,c,B,m,d,rfl,_⟩:=h;rfl
 mono:=fun hle h=>by obtain ⟨A,n,c,B,m,d,e,h1,h2⟩:=h;exact ⟨A,n,c,B,m,d,e,h1.mono hle,h2.mono hle⟩
theorem Yf0:OneC YhC:=by
 intro fz d cs h u hu;obtain ⟨A,n,c,B,m,d',rfl,_⟩:=h;simp at hu;rcases hu with rfl | rfl<;>rfl
inductive RunOk (M:Mn) (init:List Atom) (l:List StepM):List Wd->List StepM->Prop
 | nil {W:Wd} (h:∀ x,x∈W.atoms↔x∈init):RunOk M init l [W] []
 | snoc {Ws:List Wd} {Ss:List StepM} {W W':Wd} {s:StepM} {a:Action} (h:RunOk M init l (Ws++ [W]) Ss) (hs:s∈l) (ha:AppOk M W s a) (hw:StepW M W s a W'):RunOk M init l (Ws++ [W]++ [W']) (Ss++ [s])
def canM (M:Mn) (W:Wd) (l:List StepM):List StepM:=l.filter fun s=>decide (∃ a,AppOk M W s a)
theorem canM_yes {l:List StepM} {s:StepM} (hs:l[k]?=some s) (h:∃ a,AppOk M W s a):canM M W (l.take (k+1))=canM M W (l.take k)++ [s]:=by
 unfold canM;rw [List.take_add_one,hs,List.filter_append];simp [h]
theorem canM_no {l:List StepM} {s:StepM} (hs:l[k]?=some s) (h:¬∃ a,AppOk M W s a):canM M W (l.take (k+1))=canM M W (l.take k):=by
 unfold canM;rw [List.take_add_one,hs,List.filter_append];have:decide (∃ a,AppOk M W s a)=false:=decide_eq_false h;simp only [Option.toList_some,List.filter_cons,this,List.filter_nil,List.append_nil];simp
theorem run_f {nb:Nat} {Pk:Option Addr} {np cp:Nat} {picks:List Nat} (hM:MaxF fz) (hD:DomainR fz d v1 v2 v3 v4 v5 v6) (hP:ProblemR fz p u1 u2 u3 u4 u5 u6 u7) (hS:ChkS d p) (h6:(objsM d p).length<=6) (h8:d.actions.length<=8) (h3:∀ a∈d.actions,a.params.length<=3) (hA:(YT d p).2=0->∀ a∈d.actions,ActF a)
 (hWB:WB nb ⟨p.init,p.values⟩) (hnb:nb<=1800000) (hK:Sl u8L fz Pk np cp picks):
 GFn prog 9 [ZD d v1 v2 v3 v4 v5 v6,ZP p u1 u2 u3 u4 u5 u6 u7,Zc Pk np cp] fz []
  (fun r fz' H'=>H'=[]/\∃ vw vp,r=.tuple #[vw,vp,Zo true]/\((YT d p).2=0->∃ A n c B m e Ws Ss,vw=Zc A n c/\vp=Zc B m e/\Sl YhC fz' A n c Ws/\Sl Ycp fz' B m e Ss/\RunOk (mnM d p) p.init (Yhp (mnM d p) d.actions) Ws Ss)):=by
 have hD0:=hD;have hP0:=hP;obtain ⟨⟨A1,n1,b1',rfl,i1⟩,⟨A2,n2,b2',rfl,i2⟩,⟨A3,n3,b3,rfl,i3⟩,⟨A4,n4,b4,rfl,i4⟩,⟨A5,n5,b5,rfl,i5⟩,⟨A6,n6,b6,rfl,i6⟩⟩:=hD.sls;obtain ⟨⟨B1,m1,d1,rfl,j1⟩,⟨B2,m2,d2,rfl,j2⟩,⟨B3,m3,d3,rfl,j3⟩⟩:=hP.sls;obtain ⟨⟨B4,m4,d4,rfl,_⟩,⟨B5,m5,d5,rfl,_⟩,⟨B6,m6,d6,rfl,_⟩,⟨B7,m7,d7,rfl,_⟩⟩:=hP.goal.sls;have lK:=hK.len;refine zF Tryz.func9 Tryz.ntmps9 (fun w0=>?_);refine pX (fun g3=>?_);refine pY (fun g4=>?_);refine zWO ?_;refine Wp.freezeAll (H1:=[]) (H2:=[_,_]) (Zr _) (fun fz0 hle0 hf0=>?_);have hg4:=hf0 _ (.head _);have hg3:=hf0 _ (.tail _ (.head _));refine zV ?_;refine Ya (Yh [] [] Zz (YpE (hM.mono hle0) (hD0.mono hle0) (hP0.mono hle0) hS h6 hWB Zi) (fun v7 fz7 H7 hle7 hR7=>?_));obtain ⟨rfl,vw,W,rfl,hW,hWi⟩:=hR7;obtain ⟨Wa,wn,wc,Wv,wm,wd,rfl,hWa,hWv⟩:=hW;have hle07:=hle0.trans hle7;have hg4:=hle7 _ _ hg4;have hg3:=hle7 _ _ hg3;rw [List.append_nil];generalize hcv:errV (YT d p).2=ev at*;refine zV ?_;intros;rename_i g9;refine Ya (Yh [] [_] Zz (sinst_f (hM.mono hle07) (hD0.mono hle07) (hP0.mono hle07) hS h6 h8 h3) (fun v8 fz8 H8 hle8 hR8=>?_));obtain ⟨vl,rfl,hbad,hgood⟩:=hR8;rw [hcv];by_cases hc:(YT d p).2=0;rotate_left 1
 ·obtain ⟨rfl,rfl⟩:=hbad hc;rw [Yq hc] at hcv;subst hcv;rw [List.nil_append];refine zWN ?_;refine W9 [] [_] ?_;refine wG ?_;refine YhO ?_;rw [show ((false==false):Bool)=true from rfl];refine zW ?_;refine pT ?_;refine Yr ?_;refine Yhh Zj ?_;refine Yr ?_;refine Yhh Zj ?_
  repeat' first
   | refine Po.done ?_
   | (refine Yr ?_)
   | (refine XL ?_ ?_)
   | refine PoS.qk ⟨Zd,Zx⟩ (WG ?_)
   | refine PoS.hard (DoesQ.does (YE ?_))
   | refine PoS.hard (DoesQ.does (WG ?_))
  all_goals
   refine zW ?_;exact retN T (vs:=[Zn,Zn,Zo true]) ⟨rfl,rfl,rfl,trivial⟩ (List.nil_sublist _) ⟨rfl,_,_,rfl,fun h=>absurd h hc⟩
 obtain ⟨nl,hnl,hGl⟩:=hgood hc;obtain ⟨hWB1,hWi,_⟩:=hWi hc;have hac:=hA hc;rw [hc,show errV 0=.nilIface from rfl] at hcv;subst hcv;obtain ⟨Al,cl,rfl,_,_⟩:=hGl.form;refine Seq.freezeAll (H1:=[_]) (H2:=H8) Zq (fun fz10 hle10 hf10=>?_);obtain ⟨Bl,dl,el,iL⟩:=hGl.sl hle10 hf10 Zi;injection el with w1 w2 w3
 subst w1;subst w3;have hla:∀ s∈Yhp (mnM d p) d.actions,s.2.length<=3:=fun s hs=>Ynz h3 hs
 have hle710:=hle8.trans hle10;have hle010:=hle07.trans hle710;have hg4:=hle710 _ _ hg4;have hg3:=hle710 _ _ hg3;have lL:=iL.len;generalize hl:Yhp (mnM d p) d.actions=l at*;refine zV ?_;refine Ya (Yb (cs:=[Zc Wa wn wc,Zc Wv wm wd]) (fun gb=>?_));have hgb:Grow YhC 56 fz10 (Zv gb 1 1) 1 [(gb,Zu #[Zc Wa wn wc,Zc Wv wm wd] 56)] [W]:=
  Grow.block (ys:=[(W,[Value.slice Wa wn wc,Zc Wv wm wd])]) rfl rfl (by intro q hq;simp at hq;subst hq;exact ⟨_,_,_,_,_,_,rfl,hWa.mono hle710,hWv.mono hle710⟩) rfl
 refine zV ?_
 first | refine Wp.perm (List.Perm.swap _ _ _) ?_ | refine Seq.perm (List.Perm.swap _ _ _) ?_
 refine Yi (fun q σ fz' H'=>∃ (i:Nat) (vw vp:Value) (Ws:List Wd) (W:Wd) (Ss:List StepM) (Hw Hp:HP) (Wa Wv:Option Addr) (wn wc wm wd:Nat),i<=6/\q=6 - i/\σ=[(15,Zk i),(14,vp),(13,vw),(11,Zc Al nl cl),(9,Zp g9),(4,Zp g4),(3,Zp g3),(2,Zc Pk np cp)]/\Le fz10 fz'/\
  H'=(g9,Zu #[Zc Wa wn wc,Zc Wv wm wd] 56)::(Hw++Hp)/\Sl atomL fz' Wa wn wc W.atoms/\Sl valueL fz' Wv wm wd W.values/\WB (nb+i*3000) W/\RunOk (mnM d p) p.init l (Ws++ [W]) Ss/\Grow YhC 56 fz' vw (i+1) Hw (Ws++ [W])/\Grow Ycp 69 fz' vp i Hp Ss)
  ⟨0,_,_,[],W,[],_,[],_,_,_,_,_,_,by omega,rfl,rfl,Zd,rfl,hWa.mono hle710,hWv.mono hle710,hWB1,.nil hWi,hgb,Grow.nil _ _ _⟩ Zw (List.Sublist.refl _) ?_
 rintro q σ fz1 H' ⟨i,vw,vp,Ws,W,Ss,Hw,Hp,Wa,Wv,wn,wc,wm,wd,hi,rfl,rfl,hle1,rfl,hWa,hWv,hWB1,hRun,hGw,hGp⟩;obtain ⟨Aw,cw,rfl,_,_⟩:=hGw.form;obtain ⟨Ap,cp',rfl,_,_⟩:=hGp.form;have hle01:=hle010.trans hle1;have hg4:=hle1 _ _ hg4;have hg3:=hle1 _ _ hg3;have hret:∀ {fz9:FZ},Le fz1 fz9->(∀ q∈Hw++Hp,fz9 q.1=some q.2)->([]:HP)=[]/\∃ vw vp,Value.tuple #[Zc Aw (i+1) cw,Zc Ap i cp',Zo true]=.tuple #[vw,vp,Zo true]/\((YT d p).2=0->∃ A n c B m e Ws Ss,vw=Zc A n c/\vp=Zc B m e/\Sl YhC fz9 A n c Ws/\Sl Ycp fz9 B m e Ss/\RunOk (mnM d p) p.init l Ws Ss):=fun hle9 hf9=>by
  obtain ⟨E1,q1,x1,hs1⟩:=hGw.sl hle9 (fun q hq=>hf9 q (by simp [hq])) Zi;obtain ⟨E2,q2,x2,hs2⟩:=hGp.sl hle9 (fun q hq=>hf9 q (by simp [hq])) Zi;exact ⟨rfl,_,_,rfl,fun _=>⟨_,_,_,_,_,_,_,_,x1,x2,hs1,hs2,hRun⟩⟩
 refine vC ?_ ?_<;>intro e1;rotate_left 1
 ·refine zV ?_;exact YaW T (vs:=[Zc Aw (i+1) cw,Zc Ap i cp',Zo true]) ⟨rfl,rfl,rfl,trivial⟩ (fun fz9 hle9 hf9=>hret hle9 (fun q hq=>hf9 q (.tail _ hq)))
 refine vC ?_ ?_<;>intro e2;rotate_left 1
 ·refine zV ?_;exact YaW T (vs:=[Zc Aw (i+1) cw,Zc Ap i cp',Zo true]) ⟨rfl,rfl,rfl,trivial⟩ (fun fz9 hle9 hf9=>hret hle9 (fun q hq=>hf9 q (.tail _ hq)))
 refine zV ?_;have hW0:∀ {fz':FZ},Le fz1 fz'->WdR fz' W (.agg #[Zc Wa wn wc,Zc Wv wm wd]):=fun h=>⟨_,_,_,_,_,_,rfl,hWa.mono h,hWv.mono h⟩
 refine Yi (fun q σ fz' H'=>∃ (k:Nat) (vc:Value) (mc:Nat) (Hc:HP),k<=nl/\q=nl - k/\σ=[(17,Zk k),(16,vc),(15,Zk i),(14,Zc Ap i cp'),(13,Zc Aw (i+1) cw),(11,Zc Al nl cl),(9,Zp g9),(4,Zp g4),(3,Zp g3),(2,Zc Pk np cp)]/\Le fz1 fz'/\
  H'=(g9,Zu #[Zc Wa wn wc,Zc Wv wm wd] 56)::((Hw++Hp)++Hc)/\mc<=k/\Grow Ycp 69 fz' vc mc Hc (canM (mnM d p) W (l.take k)))
  ⟨0,_,0,[],by omega,rfl,rfl,Zd,by rw [List.append_nil],by omega,Grow.nil _ _ _⟩ Zw Zb ?_
 rintro q σ fz2 H' ⟨k,vc,mc,Hc,hk,rfl,rfl,hle2,rfl,hmc,hGc⟩;obtain ⟨Ac,cc,rfl,_,_⟩:=hGc.form;have hle12:=hle1.trans hle2;have hle02:=hle010.trans hle12;refine vC ?_ ?_<;>intro e3
 ·obtain ⟨s,hs⟩:=Yc (l:=l) (k:=k) Zi;have hsm:=Zm hs;have hs3:=hla s hsm;have hg4':=hle2 _ _ hg4;have hg3':=hle2 _ _ hg3;refine zWN ?_;refine YS [_] ?_;refine wI (iL.mono hle12) hs (fun p1 hp1=>?_);refine zL hp1 ?_;intro cs hcs;have hrow:=hcs;obtain ⟨va,rfl,hsn,S,m,d',rfl,isl⟩:=hcs;refine pU ?_;refine Yf (Yh [] (_::((Hw++Hp)++Hc)) Zz (YkT (hM.mono hle02) (hD0.mono hle02) (hP0.mono hle02) hS h6 hc (fun a ha=>(hac a ha).c) (hW0 hle2) hrow Zi) (fun v11 fz11 H11 hle11 hR11=>⟨⟨hle11,Zx⟩,?_⟩));obtain ⟨rfl,e,rfl,hiff⟩:=hR11;by_cases he:e=0
  ·subst he;have hap:=hiff.1 rfl;rw [show errV 0=.nilIface from rfl];refine Ch.qk ⟨hle11,Zx⟩ (YcS T Zz Zz Zz Zz ?_);refine Ch.done ?_;refine vI (iL.mono (hle12.trans hle11)) hs (fun p2 hp2=>?_);refine zL hp2 ?_;intro cs hcs;obtain ⟨va,rfl,hsn,S,m,d',rfl,isl⟩:=hcs;refine zV ?_;refine Ya (Yb (cs:=[Zk 0,Zy s.1,Zc S m d']) (fun gb=>?_));refine Ya (YD (Hr:=_::_::(Hw++Hp)) (d:=s) (Zr _) (hGc.mono hle11) YdW (.head _) ⟨_,rfl,hsn,S,m,d',rfl,isl⟩ (fun v' Hs' hO'=>?_));obtain ⟨Av',cv',rfl,_,_⟩:=hO'.form;exact vP (h:=by exact ⟨k+1,_,mc+1,Hs',by omega,rfl,rfl,hle2.trans hle11,rfl,by omega,hO'.of (canM_yes hs hap).symm rfl⟩)
  have hap:¬∃ a,AppOk (mnM d p) W s a:=fun h=>he (hiff.2 h)
  rw [Yq he];refine Ch.qk ⟨hle11,Zx⟩ (Yb5 T Zz Zz Zz Zz ?_);refine Ch.done ?_;exact vP (h:=by exact ⟨k+1,_,mc,Hc,by omega,rfl,rfl,hle2.trans hle11,rfl,by omega,by rw [canM_no hs hap];exact hGc.mono hle11⟩)
 have hkl:k=nl:=by omega
 subst hkl;rw [show l.take k=l from Zl Zi] at hGc;have lC:=hGc.len;refine vC ?_ ?_<;>intro e4
 ·refine zV ?_;exact YaW T (vs:=[Zc Aw (i+1) cw,Zc Ap i cp',Zo true]) ⟨rfl,rfl,rfl,trivial⟩ (fun fz9 hle9 hf9=>hret (hle2.trans hle9) (fun q hq=>hf9 q (.tail _ (List.mem_append.2 (.inl hq)))))
 first
 | refine Wp.freezeAll (H1:=_::(Hw++Hp)) (H2:=Hc) (Zr _) (fun fz3 hle3 hf3=>?_)
 | refine Seq.freezeAll (H1:=_::(Hw++Hp)) (H2:=Hc) (Zr _) (fun fz3 hle3 hf3=>?_)
 obtain ⟨Bc,dc,ec,iC⟩:=hGc.sl hle3 hf3 Zi;injection ec with w1 w2 w3
 subst w1;subst w3;have hle13:=hle2.trans hle3;have hle03:=hle01.trans hle13;obtain ⟨x,hx⟩:=Yc (l:=picks) (k:=i) Zi;have hmod:x % mc<mc:=Nat.mod_lt _ Zi;obtain ⟨s,hs⟩:=Yc (l:=canM (mnM d p) W l) (k:=x % mc) Zi;have hsc:=Zm hs;have hsl:=(List.mem_filter.1 hsc).1;have hsap:∃ a,AppOk (mnM d p) W s a:=Zt (List.mem_filter.1 hsc).2;have hs3:=hla s hsl;have hg4':=hle13 _ _ hg4;have hg3':=hle13 _ _ hg3;refine vI (hK.mono hle03) hx (fun p5 hp5=>?_);refine zG ?_;refine YoR hp5 (fun h8=>?_);refine zG ?_;refine Yao ?_ (hw:=Xb Zi);refine vG ?_;refine q_remN (b:=mc) ?_;refine zI iC hs (fun p6 hp6=>?_);refine zL hp6 ?_;intro cs hcs;have hrow:=hcs;obtain ⟨va,rfl,hsn,S,m,d',rfl,isl⟩:=hcs;refine zV ?_;intros;refine Ya (Yh [] (_::_::(Hw++Hp)) Zz (apply_f (hM.mono hle03) (hD0.mono hle03) (hP0.mono hle03) hS h6 hc hac (hW0 hle13) hrow Zi hWB1 Zi) (fun v9 fz9 H9 hle9 hR9=>?_));obtain ⟨rfl,vx,e,W',rfl,hW',hiff,hstep⟩:=hR9;have he:=hiff.2 hsap;subst he;obtain ⟨hWB2,a,hap,hsw⟩:=hstep rfl;obtain ⟨Xa,xn,xc,Xv,xm,xd,rfl,hXa,hXv⟩:=hW';have hrw:YhC.rep fz9 W' [Zc Xa xn xc,Zc Xv xm xd]:=⟨_,_,_,_,_,_,rfl,hXa,hXv⟩;have hrs:=Ycp.mono hle9 hrow;have hle19:=hle13.trans hle9;have hRun2:=RunOk.snoc hRun hsl hap hsw;rw [show nb+i*3000+3000=nb+(i+1)*3000 by omega] at hWB2;rw [show errV 0=.nilIface from rfl,List.nil_append];refine zWN ?_;refine W9 [] [_,_] ?_;refine zW ?_;refine Yo (Yo ?_);refine zW ?_;refine pT ?_
 repeat' first
  | refine Po.done ?_
  | (refine Yr ?_)
  | (refine XL ?_ ?_)
  | refine Yd (Yb (cs:=[.slice Xa xn xc,.slice Xv xm xd]) (fun gb3=>⟨⟨Zd,Zx⟩,?_⟩))
  | (refine Yd (YD (Hr:=_::_::_::Hp) (d:=W') (((List.perm_append_comm.cons _).cons _).cons _) (hGw.mono hle19) Yf0 (.head _) hrw (fun vo' Ho' hGo'=>⟨⟨Zd,Zx⟩,?_⟩));obtain ⟨Ao',co',rfl,_,_⟩:=hGo'.form)
  | refine Yd (Yb (cs:=[.int .i64 0,.string s.1,.slice S m d']) (fun gb7=>⟨⟨Zd,Zx⟩,?_⟩))
  | (refine Yd (YD (Hr:=_::_::_::_::Ho') (d:=s) ((((List.perm_append_comm.cons _).cons _).cons _).cons _) (hGp.mono hle19) YdW (.head _) hrs (fun vc' Hc' hGc'=>⟨⟨Zd,Zx⟩,?_⟩));obtain ⟨Ac',cc',rfl,_,_⟩:=hGc'.form)
  | (refine Yd (YD (Hr:=_::_::_::_::Hp) (d:=W') ((((List.perm_append_comm.cons _).cons _).cons _).cons _) (hGw.mono hle19) Yf0 (.tail _ (.head _)) hrw (fun vo' Ho' hGo'=>⟨⟨Zd,Zx⟩,?_⟩));obtain ⟨Ao',co',rfl,_,_⟩:=hGo'.form)
  | (refine Yd (YD (Hr:=_::_::_::_::Hp) (d:=W') ((((List.perm_append_comm.cons _).cons _).cons _).cons _) (hGw.mono hle19) Yf0 (.head _) hrw (fun vo' Ho' hGo'=>⟨⟨Zd,Zx⟩,?_⟩));obtain ⟨Ao',co',rfl,_,_⟩:=hGo'.form)
  | (refine Yd (YD (Hr:=_::_::_::_::Ho') (d:=s) ((((List.perm_append_comm.cons _).cons _).cons _).cons _) (hGp.mono hle19) YdW (.tail _ (.head _)) hrs (fun vc' Hc' hGc'=>⟨⟨Zd,Zx⟩,?_⟩));obtain ⟨Ac',cc',rfl,_,_⟩:=hGc'.form)
  | refine PoS.hard (DoesQ.does (YE ?_))
 all_goals
  exact vP (h:=by exact ⟨i+1,_,_,Ws++ [W],W',Ss++ [s],Ho',Hc',_,_,_,_,_,_,by omega,rfl,rfl,hle1.trans hle19,rfl,hXa,hXv,hWB2,hRun2,hGo',hGc'⟩)
end Go.Proofs.YtacfpcbladaohaaGreatDoor
