/- The texts YD, YE, PCnt, YW, YF, YQ, YH, YJ, GOpenA, laid together. Conditions: none. -/
import Derived.Test.YtiligkgjcmokbaaGreatDoorKSW
import Derived.Deep.Slices
import Derived.SizedLaws
import Derived.Carry
set_option linter.all false
set_option maxHeartbeats 16000000
noncomputable section
set_option maxRecDepth 20000
open Go.Lx Go.RowKit
attribute [local instance 10] Classical.propDecidable
open Go.Proofs.Tryz (prog)
namespace Go.Proofs.YtiligkgjcmokbaaGreatDoor
variable {α:Type} {a:Atom} {p:Problem} {k n:Nat} {fz:FZ} {vk:Value} {l:List α}
def YiZ:List Bs->Problem->List Sexpr->Except Int Problem
 | _,p,[]=>.ok p
 | kw,p,s::r=>match XP s with
  | none=>.error 2
  | some (w,l)=>if 0<=kwI kw w then (match YlM p w l with
   | .error c=>.error c
   | .ok p'=>YiZ (kw.drop ((kwI kw w).toNat+1)) p' r) else .error 2
def kwP3:List Bs:=[Wu,YdI,Yc8]
def pPar (x:Sexpr):Except Int Problem:=match XP x with
 | none=>.error 2
 | some (w,r)=>if w=Xg then (match r with
  | []=>.error 2
  | y::r1=>match nmdM XU y with
   | .error c=>.error c
   | .ok nm=>match r1 with
    | []=>.error 2
    | z::r2=>match nmdM Xk z with
     | .error c=>.error c
     | .ok dm=>YiZ kwP3 ⟨nm,dm,[],[],[],XV⟩ r2) else .error 2
def Yee (x:Sexpr):Except Int Problem:=if XVal x then (match pPar x with
 | .error c=>.error c
 | .ok p=>if FVal p.goal/\YbJ p/\XVal (prbX p) then .ok p else .error 5) else .error 2
structure PrbT (k:Nat) (p:Problem):Prop where
 o:p.objects.length<=1000000
 i:p.init.length<=k*4096
 ii:∀ a∈p.init,a.args.length<=1000000
 v:p.values.length<=k*4096
 vv:∀ a∈p.values,a.fluent.args.length<=1000000
 g:FSm p.goal
theorem pat_sm {w:Bs} {l:List Sexpr} (hl:l.length<=1000000) (h:patM w l=.ok a):a.args.length<=1000000:=by
 unfold patM at h;split at h
 ·split at h
  ·cases h
  rename_i b hb;injection h with h;subst h
  show b.length<=_;rw [YnH hb];exact hl
 cases h
theorem YqM {q:α->Prop} {m:List α} (h1:∀ x∈l,q x) (h2:∀ x∈m,q x):∀ x∈l++m,q x:=fun x hx=>by
 rcases List.mem_append.1 hx with hx | hx
 ·exact h1 x hx
 exact h2 x hx
def PrbU (p:Problem):Prop:=p.objects.length<=1000000/\(∀ a∈p.init,a.args.length<=1000000)/\(∀ a∈p.values,a.fluent.args.length<=1000000)/\FSm p.goal
theorem elm_sm {p':Problem} {x:Sexpr} (hs:XSm x) (h:elmM p x=.ok p') (hp:PrbU p):PrbU p':=by
 obtain ⟨h1,h2,h3,h4⟩:=hp;unfold elmM at h;split at h
 ·cases h
 rename_i w r hh;have hr:=WU hs hh;unfold elmB at h;split at h
 ·split at h
  ·rename_i y z;split at h
   ·split at h
    ·cases h
    rename_i nm l hhy;have:=WU (Ww hs hh (y:=y) (by simp)) hhy;split at h
    ·cases h
    rename_i a ha;injection h with h;subst h
    exact ⟨h1,h2,YqM h3 (by intro u hu;simp at hu;subst hu;exact pat_sm this ha),h4⟩
   cases h
  cases h
 split at h
 ·cases h
 rename_i a ha;injection h with h;subst h
 exact ⟨h1,YqM h2 (by intro u hu;simp at hu;subst hu;exact pat_sm hr ha),h3,h4⟩
theorem Yql:∀ {r:List Sexpr} {p p':Problem},(∀ y∈r,XSm y)->YkY elmM p r=.ok p'->PrbU p->PrbU p'/\p'.init.length<=p.init.length+r.length/\p'.values.length<=p.values.length+r.length
 | [],p,p',_,h,hp=>by rw [YkY] at h;injection h with h;subst h;exact ⟨hp,Zs _,Zs _⟩
 | x::r,p,p',hs,h,hp=>by
  rw [YkY] at h;split at h
  ·cases h
  rename_i q hq;have h1:=Yqm hq;have h2:=elm_sm (hs x (by simp)) hq hp;obtain ⟨h3,h4,h5⟩:=Yql (fun y hy=>hs y (List.mem_cons_of_mem _ hy)) h h2;rw [List.length_cons];exact ⟨h3,by omega,by omega⟩
theorem PrbT.step {p':Problem} {w:Bs} {r:List Sexpr} (h:PrbT k p) (hr:∀ y∈r,XSm y) (hl:r.length<=4096) (e:YlM p w r=.ok p'):PrbT (k+1) p':=by
 have h1:k*4096+4096=(k+1)*4096:=(Nat.succ_mul _ _).symm;obtain ⟨o,i,ii,v,vv,g⟩:=h;unfold YlM at e;split at e
 ·split at e
  ·cases e
  rename_i l hl2;have:=Yfx hl2;injection e with e;subst e
  exact ⟨by show l.length<=_;omega,by show p.init.length<=_;omega,ii,by show p.values.length<=_;omega,vv,g⟩
 split at e
 ·obtain ⟨⟨o2,ii2,vv2,g2⟩,h4,h5⟩:=Yql hr e ⟨o,ii,vv,g⟩;exact ⟨o2,by omega,ii2,by omega,vv2,g2⟩
 split at e
 ·split at e
  ·cases e
  rename_i f hf;injection e with e;subst e
  exact ⟨o,by show p.init.length<=_;omega,ii,by show p.values.length<=_;omega,vv,YcA hf⟩
 cases e
theorem PrbT.sm (h:PrbT k p) (hk:k<=5000):PrbSm p:=by
 obtain ⟨o,i,ii,v,vv,g⟩:=h;have:k*4096<=5000*4096:=Nat.mul_le_mul_right _ hk;exact ⟨by omega,by omega,fun x hx=>Nat.le_trans (ii x hx) Zh,by omega,fun x hx=>Nat.le_trans (vv x hx) Zh,g⟩
theorem Yi2 {fz3:FZ} {vo vi vv a1 a2 a3 a4:Value} {Hi Hv:HP} (hn1:Short p.name) (hn2:Short p.domain) (ho:IsSl paramL fz vo p.objects) (hgi:Grow atomL 77 fz vi p.init.length Hi p.init) (hgv:Grow valueL 80 fz vv p.values.length Hv p.values) (hgo:FormulaR fz p.goal a1 a2 a3 a4)
 (hle:Le fz fz3) (hf:∀ q∈Hi++Hv,fz3 q.1=some q.2) (b1:p.init.length<=200000000) (b2:p.values.length<=200000000):ProblemR fz3 p vo vi vv a1 a2 a3 a4:=
 ⟨hn1,hn2,ho.mono hle,Yd8 hgi hle (fun q hq=>hf q (List.mem_append_left _ hq)) Zi,Yd8 hgv hle (fun q hq=>hf q (List.mem_append_right _ hq)) Zi,hgo.mono hle⟩
theorem PrbS.new {g:Nat} {nm dm:Bs} (h:Short nm) (h2:Short dm):PrbS fz g ⟨nm,dm,[],[],[],XV⟩ [(g,Zu #[Zy nm,Zy dm,Zn,Zn,Zn,Zy kAnd,Ze,Zn,Zn,Zn,Zn] 37)]:=
 ⟨_,_,_,_,_,_,_,[],[],Zr _,h,h2,IsSl.nil,Grow.nil _ _ _,Grow.nil _ _ _,YdV⟩
theorem YfA {nm dm:Bs} (h:Short nm) (h2:Short dm):Ybf.rep fz ⟨nm,dm,[],[],[],XV⟩ [Zy nm,Zy dm,Zn,Zn,Zn,Zy kAnd,Ze,Zn,Zn,Zn,Zn]:=Wx (x:=⟨nm,dm,[],[],[],XV⟩) ⟨h,h2,IsSl.nil,IsSl.nil,IsSl.nil,YdV⟩
theorem pparse_f {x:Sexpr} (hv:XVal x) (hR:YT fz x vk):
 GFn prog 121 [.agg #[Zk x.kind,Zk x.value,Zk x.line,Zk x.column,Zy x.text,vk]] fz [] (fun r fz' H'=>H'=[]/\ResL Ybf fz' (pPar x) r/\∀ p,pPar x=.ok p->PrbSm p):=by
 have hRx:=hR;have hcx:=hv.2.2;have hsx:=hv.sm;obtain ⟨A,n,c,rfl,ik⟩:=hR.kids;have hP:pPar x=match XP x with
 | none=>.error 2
 | some (w,r)=>if w=Xg then (match r with
  | []=>.error 2
  | y::r1=>match nmdM XU y with
   | .error c=>.error c
   | .ok nm=>match r1 with
    | []=>.error 2
    | z::r2=>match nmdM Xk z with
     | .error c=>.error c
     | .ok dm=>YiZ kwP3 ⟨nm,dm,[],[],[],XV⟩ r2) else .error 2:=rfl
 have bad:∀ {c:Int} {fz':FZ} {v:Value},pPar x=.error c->ResL Ybf fz' (pPar x) v->([]:HP)=[]/\ResL Ybf fz' (pPar x) v/\∀ p,pPar x=.ok p->PrbSm p:=fun e h=>⟨rfl,h,fun p hp=>by rw [e] at hp;cases hp⟩
 refine zF Tryz.func121 Tryz.ntmps121 (fun w0=>?_);refine zW ?_;intros;rename_i g1 g2 g4;refine wK (q:=YgV hRx) (h:=fun r1 fz1 H1 hle1 hR1=>?_);obtain ⟨rfl,rfl,hR1⟩:=hR1;rw [List.nil_append];unfold YeB at hR1;cases hh:XP x with
 | none=>
  rw [hh] at hP hR1;subst hR1;refine zW ?_;exact YS T (vs:=[.agg #[Ze,Ze,Zn,Zn,Zn,Zy kAnd,Ze,Zn,Zn,Zn,Zn],.iface 89 (Zk 2)]) ⟨⟨_,_,1,_,_,_,rfl,rfl,rfl,rfl,rfl,rfl⟩,rfl,trivial⟩ (fun fz3 hle3 hf3=>bad hP (YA hP Zh (YfA Wc Wc)))
 | some wr=>
  obtain ⟨w,r⟩:=wr;rw [hh] at hP hR1;obtain ⟨A',n',c',rfl,ir,hw⟩:=hR1;simp only at hP;obtain ⟨y0,hk,rfl,hk3,hk1⟩:=XW hh;have hrl:=ir.len;have hcx2:=Xj x;rw [hk,xcountL] at hcx2;have hrc:=Wt (l:=r);have hn4:n'<=4096:=by omega
  have hrs:∀ y∈r,XSm y:=fun y hy=>Ww hsx hh hy
  refine wC ?_ ?_<;>intro c2
  ·rw [if_neg (show ¬y0.text=Xg from c2)] at hP;refine zW ?_;exact YS T (vs:=[.agg #[Ze,Ze,Zn,Zn,Zn,Zy kAnd,Ze,Zn,Zn,Zn,Zn],.iface 89 (Zk 2)]) ⟨⟨_,_,1,_,_,_,rfl,rfl,rfl,rfl,rfl,rfl⟩,rfl,trivial⟩ (fun fz3 hle3 hf3=>bad hP (YA hP Zh (YfA Wc Wc)))
  rw [if_pos (show y0.text=Xg from c2)] at hP;refine wC ?_ ?_<;>intro c3
  ·have hr0:r=[]:=List.eq_nil_of_length_eq_zero Zi;rw [hr0] at hP;refine zW ?_;exact YS T (vs:=[.agg #[Ze,Ze,Zn,Zn,Zn,Zy kAnd,Ze,Zn,Zn,Zn,Zn],.iface 89 (Zk 2)]) ⟨⟨_,_,1,_,_,_,rfl,rfl,rfl,rfl,rfl,rfl⟩,rfl,trivial⟩ (fun fz3 hle3 hf3=>bad hP (YA hP Zh (YfA Wc Wc)))
  obtain ⟨y,r1,rfl⟩:∃ y r1,r=y::r1:=by
   cases r with
   | nil=>simp at hrl;omega
   | cons y r1=>exact ⟨y,r1,rfl⟩
  simp only at hP;have hy:(y::r1)[0]?=some y:=rfl;rw [List.length_cons] at hrl;refine wI ir hy (fun p2 hp2=>?_);refine zL hp2 ?_;intro cs hcs;obtain ⟨vy,rfl,hRy⟩:=Yf hcs;have hnq:=YpD (want:=XU) hRy;cases hn:nmdM XU y with
  | error c'=>
   rw [hn] at hP hnq;have hc:=Ym8 hn;refine zc hnq ?_;unfold strV;refine zW ?_;exact YS T (vs:=[.agg #[Ze,Ze,Zn,Zn,Zn,Zy kAnd,Ze,Zn,Zn,Zn,Zn],.iface 89 (Zk c')]) ⟨⟨_,_,1,_,_,_,rfl,rfl,rfl,rfl,rfl,rfl⟩,rfl,trivial⟩ (fun fz3 hle3 hf3=>bad hP (YA hP hc (YfA Wc Wc)))
  | ok nm=>
   rw [hn] at hP hnq;have hnm:=YpB hn;simp only at hP;refine zc hnq ?_;unfold strV;refine wC ?_ ?_<;>intro c4
   ·have hr0:r1=[]:=List.eq_nil_of_length_eq_zero Zi;rw [hr0] at hP;refine zW ?_;exact YS T (vs:=[.agg #[Zy nm,Ze,Zn,Zn,Zn,Zy kAnd,Ze,Zn,Zn,Zn,Zn],.iface 89 (Zk 2)]) ⟨⟨_,_,1,_,_,_,rfl,rfl,rfl,rfl,rfl,rfl⟩,rfl,trivial⟩ (fun fz3 hle3 hf3=>bad hP (YA hP Zh (YfA hnm Wc)))
   obtain ⟨z,r2,rfl⟩:∃ z r2,r1=z::r2:=by
    cases r1 with
    | nil=>simp at hrl;omega
    | cons y r1=>exact ⟨y,r1,rfl⟩
   simp only at hP;have hz:(y::z::r2)[1]?=some z:=rfl;rw [List.length_cons] at hrl;refine wI ir hz (fun p3 hp3=>?_);refine zL hp3 ?_;intro cs3 hcs3;obtain ⟨vz,rfl,hRz⟩:=Yf hcs3;have hnq2:=YpD (want:=Xk) hRz;cases hn2:nmdM Xk z with
   | error c'=>
    rw [hn2] at hP hnq2;have hc:=Ym8 hn2;refine zc hnq2 ?_;unfold strV;refine zW ?_;exact YS T (vs:=[.agg #[Zy nm,Ze,Zn,Zn,Zn,Zy kAnd,Ze,Zn,Zn,Zn,Zn],.iface 89 (Zk c')]) ⟨⟨_,_,1,_,_,_,rfl,rfl,rfl,rfl,rfl,rfl⟩,rfl,trivial⟩ (fun fz3 hle3 hf3=>bad hP (YA hP hc (YfA hnm Wc)))
   | ok dm=>
    rw [hn2] at hP hnq2;have hdm:=YpB hn2;simp only at hP;refine zc hnq2 ?_;unfold strV;refine zW ?_;refine Ya (Yb (cs:=[Zy Wu,Zy YdI,Zy Yc8]) (fun gb=>?_))
    first | refine Wp.freeze Zz (fun fz2 hle2 hg2=>?_) | refine Seq.freeze Zz (fun fz2 hle2 hg2=>?_)
    have hkw:Sl strL fz2 (some ⟨gb,0,none⟩) 3 3 kwP3:=Wb (ys:=[(Wu,[Zy Wu]),(YdI,[Zy YdI]),(Yc8,[Zy Yc8])]) hg2 rfl rfl (by intro p hp;simp only [List.mem_cons,List.not_mem_nil,_root_.or_false] at hp;rcases hp with rfl | rfl | rfl<;>exact ⟨rfl,by show _<=_;decide⟩) rfl Zh;refine wG ?_;refine Xy (j:=2) (ir.mono hle2) (fun A2 hA2=>?_);rw [List.drop_succ_cons,List.drop_succ_cons,List.drop_zero] at hA2;refine zW ?_;refine Wp.perm (List.Perm.swap _ _ _) ?_;refine Yi (fun q σ fz' H'=>∃ (k:Nat) (p:Problem) (HD:HP) (K:Option Addr) (kn kc:Nat) (kw:List Bs),k<=n' - 2/\q=n' - 2 - k/\σ=[(71,Zk k),(70,Zk (n' - 2:Nat)),(69,Zc A2 (n' - 2) (c' - 2)),(9,Zc K kn kc),(4,Zp g4),(2,Zp g2)]/\Le fz2 fz'/\H'=(g2,Zu #[Ze,Ze,Zn,Zn,Zn,Ze,Ze,Zn,Zn,Zn,Zn] 37)::HD/\PrbS fz' g4 p HD/\Sl strL fz' K kn kc kw/\PrbT k p/\pPar x=YiZ kw p (r2.drop k)) ⟨0,_,_,_,_,_,kwP3,Z0 _,rfl,rfl,Zd,rfl,PrbS.new hnm hdm,hkw,⟨by show 0<=_;omega,by show 0<=_;omega,by simp,by show 0<=_;omega,by simp,YdU⟩,hP⟩ Zw Zb ?_;rintro q σ fz' H' ⟨k,p,HD,K,kn,kc,kw,hkn,rfl,rfl,hle,rfl,⟨vo,vi,vv,a1,a2,a3,a4,Hi,Hv,hperm,hn1,hn2,ho,hgi,hgv,hgo⟩,hK,hT,hF⟩;have ho':=ho;have hgo':=hgo;have hbi:p.init.length<=20000000:=by have:=hT.i;have:k*4096<=4096*4096:=Nat.mul_le_mul_right _ Zi;omega
    have hbv:p.values.length<=20000000:=by have:=hT.v;have:k*4096<=4096*4096:=Nat.mul_le_mul_right _ Zi;omega
    have hD':PrbS fz' g4 p ((g4,Zu #[Zy p.name,Zy p.domain,vo,vi,vv,Zy p.goal.op,Zy p.goal.name,a1,a2,a3,a4] 37)::(Hi++Hv)):=⟨_,_,_,_,_,_,_,Hi,Hv,Zr _,hn1,hn2,ho,hgi,hgv,hgo⟩;obtain ⟨O1,o1,z1,rfl,_⟩:=ho;obtain ⟨Xi,xi,rfl,_,_⟩:=hgi.form;obtain ⟨Xv,xv,rfl,_,_⟩:=hgv.form;obtain ⟨⟨B1,m1,d1,rfl,_⟩,⟨B2,m2,d2,rfl,_⟩,⟨B3,m3,d3,rfl,_⟩,⟨B4,m4,d4,rfl,_⟩⟩:=hgo.sls;refine Wp.perm (List.Perm.cons _ hperm.symm) ?_;have hKl:=hK.len;have hKs:=hK.short;refine wC ?_ ?_<;>intro c5
    ·obtain ⟨s,hs⟩:=Ye (l:=r2) (k:=k) Zi;have hsm:=Zm hs;have hss:XSm s:=hrs s (by simp [hsm]);have hcs2:=Wg hsm;simp only [xcountL] at hcx2;rw [Ycn hs,YiZ] at hF;refine wI (hA2.mono hle) hs (fun p5 hp5=>?_);refine zL hp5 ?_;intro cs5 hcs5;obtain ⟨vs,rfl,hRs⟩:=Yf hcs5;have hRs':=hRs;obtain ⟨As,ns,cs,rfl,is⟩:=hRs.kids;refine zW ?_;intros;rename_i g11;refine wK (q:=YgV hRs') (h:=fun r6 fz6 H6 hle6 hR6=>?_);obtain ⟨rfl,rfl,hR6⟩:=hR6;rw [List.nil_append];unfold YeB at hR6;cases hhs:XP s with
     | none=>
      rw [hhs] at hF hR6;subst hR6;refine wG ?_;refine YF (Ygy (x:=⟨#[]⟩) hK) ?_;refine zW ?_;exact YS T (vs:=[.agg #[Zy p.name,Zy p.domain,Zc O1 o1 z1,Zc Xi p.init.length xi,Zc Xv p.values.length xv,Zy p.goal.op,Zy p.goal.name,Zc B1 m1 d1,Zc B2 m2 d2,Zc B3 m3 d3,Zc B4 m4 d4],.iface 89 (Zk 2)]) ⟨⟨_,_,1,_,_,_,rfl,rfl,rfl,rfl,rfl,rfl⟩,rfl,trivial⟩ (fun fz3 hle3 hf3=>bad (hF) (YA (hF) Zh (Wx (Yi2 hn1 hn2 ho' hgi hgv hgo' hle3 (fun q hq=>hf3 q (by simp only [List.mem_cons];simp only [List.mem_append] at hq ⊢;simp [hq])) Zi Zi))))
     | some wl=>
      obtain ⟨w,l⟩:=wl;rw [hhs] at hF hR6;obtain ⟨A6,n6,c6,rfl,il,hw6⟩:=hR6;simp only at hF;obtain ⟨y6,hk6,rfl,hk7,hk8⟩:=XW hhs;have htl:l.length<=4096:=by
       have h1:=Xj s;have h2:=Wt (l:=s.kids);rw [hk6,List.length_cons] at h2;rw [hk6] at h1;omega
      have hll:=il.len;have hkI:=kwI_lt (kw:=kw) (s:=y6.text);refine wc (Ygy (x:=y6.text) hK) ?_;refine wC ?_ ?_<;>intro c6
      ·rw [if_neg (fun h=>absurd (show kwI kw y6.text<0 from c6) Zi)] at hF;refine zW ?_;exact YS T (vs:=[.agg #[Zy p.name,Zy p.domain,Zc O1 o1 z1,Zc Xi p.init.length xi,Zc Xv p.values.length xv,Zy p.goal.op,Zy p.goal.name,Zc B1 m1 d1,Zc B2 m2 d2,Zc B3 m3 d3,Zc B4 m4 d4],.iface 89 (Zk 2)]) ⟨⟨_,_,1,_,_,_,rfl,rfl,rfl,rfl,rfl,rfl⟩,rfl,trivial⟩ (fun fz3 hle3 hf3=>bad (hF) (YA (hF) Zh (Wx (Yi2 hn1 hn2 ho' hgi hgv hgo' hle3 (fun q hq=>hf3 q (by simp only [List.mem_cons];simp only [List.mem_append] at hq ⊢;simp [hq])) Zi Zi))))
      have c6':0<=kwI kw y6.text:=by have:¬kwI kw y6.text<0:=c6;omega
      rw [if_pos c6'] at hF;obtain ⟨kk,hkk⟩:=Int.eq_ofNat_of_zero_le c6';rw [hkk,Int.toNat_natCast] at hF;rw [hkk] at hkI;have hkk2:W6 (fun y=>y6.text=y) kw 0=(kk:Int):=hkk;rw [hkk2];refine wG ?_;refine Xy (j:=kk+1) hK (fun K2 hK2=>?_);refine zW ?_;refine Ya (Does.perm (Zq (l₁:=(g4,_)::(Hi++Hv)) (l₂:=[(g11,_),(g2,_)])) (Ym ((g4,_)::(Hi++Hv)) [(g11,_),(g2,_)] Zz (Yn0 (fun y hy=>Ww hss hhs hy) hD' il Zi Zi Zi) (fun v7 fz7 H7 hle7 hR7=>?_)));obtain ⟨_,hR7⟩:=hR7;refine Seq.perm (H':=[(g11,_),(g2,_)]++H7) Zq ?_;cases hx:YlM p y6.text l with
      | error c'=>
       rw [hx] at hR7 hF;obtain ⟨rfl,hc,p3,⟨vo3,vi3,vv3,a13,a23,a33,a43,Hi3,Hv3,hperm3,hn13,hn23,ho3,hgi3,hgv3,hgo3⟩,hb3,hb4⟩:=hR7;have ho'3:=ho3;have hgo'3:=hgo3;obtain ⟨O13,o13,z13,rfl,_⟩:=ho3;obtain ⟨Xi3,xi3,rfl,_,_⟩:=hgi3.form;obtain ⟨Xv3,xv3,rfl,_,_⟩:=hgv3.form;obtain ⟨⟨B13,m13,d13,rfl,_⟩,⟨B23,m23,d23,rfl,_⟩,⟨B33,m33,d33,rfl,_⟩,⟨B43,m43,d43,rfl,_⟩⟩:=hgo3.sls;refine Seq.perm (List.Perm.cons _ (List.Perm.cons _ hperm3.symm)) ?_;rw [Yg hc];refine zW ?_;exact YS T (vs:=[.agg #[Zy p3.name,Zy p3.domain,Zc O13 o13 z13,Zc Xi3 p3.init.length xi3,Zc Xv3 p3.values.length xv3,Zy p3.goal.op,Zy p3.goal.name,Zc B13 m13 d13,Zc B23 m23 d23,Zc B33 m33 d33,Zc B43 m43 d43],.iface 89 (Zk c')]) ⟨⟨_,_,1,_,_,_,rfl,rfl,rfl,rfl,rfl,rfl⟩,rfl,trivial⟩ (fun fz3 hle3 hf3=>bad (hF) (YA (hF) hc (Wx (Yi2 hn13 hn23 ho'3 hgi3 hgv3 hgo'3 hle3 (fun q hq=>hf3 q (by simp only [List.mem_cons];simp only [List.mem_append] at hq ⊢;simp [hq])) hb3 hb4))))
      | ok d2=>
       rw [hx] at hR7 hF;obtain ⟨rfl,hD7⟩:=hR7;have hT2:=hT.step (fun y hy=>Ww hss hhs hy) htl hx;refine zW ?_;exact Wj (H':=(g2,_)::H7) ⟨k+1,d2,H7,_,_,_,_,by omega,rfl,rfl,hle.trans hle7,rfl,hD7,hK2.mono hle7,hT2,hF⟩ Zi Zw Zb
    rw [List.drop_eq_nil_of_le Zi,YiZ] at hF;refine zW ?_;exact YS T (vs:=[.agg #[Zy p.name,Zy p.domain,Zc O1 o1 z1,Zc Xi p.init.length xi,Zc Xv p.values.length xv,Zy p.goal.op,Zy p.goal.name,Zc B1 m1 d1,Zc B2 m2 d2,Zc B3 m3 d3,Zc B4 m4 d4],.nilIface]) ⟨⟨_,_,0,_,_,_,rfl,rfl,rfl,rfl,rfl,rfl⟩,rfl,trivial⟩ (fun fz3 hle3 hf3=>⟨rfl,XQ hF (Wx (Yi2 hn1 hn2 ho' hgi hgv hgo' hle3 (fun q hq=>hf3 q (by simp only [List.mem_cons];simp only [List.mem_append] at hq ⊢;simp [hq])) Zi Zi)),fun p' hp'=>by rw [hF] at hp';injection hp' with hp';subst hp';exact hT.sm Zi⟩)
def zeroP:Problem:=⟨⟨#[]⟩,⟨#[]⟩,[],[],[],.mk ⟨#[]⟩ ⟨#[]⟩ [] [] [] []⟩
theorem YeC:Ybf.rep fz zeroP [Ze,Ze,Zn,Zn,Zn,Ze,Ze,Zn,Zn,Zn,Zn]:=Wx (x:=zeroP) ⟨Wc,Wc,IsSl.nil,IsSl.nil,IsSl.nil,⟨Wc,Wc,IsSl.nil,IsSl.nil,IsSl.nil,IsSl.nil⟩⟩
theorem pParse_f {x:Sexpr} (hR:YT fz x vk):
 GFn prog 50 [.agg #[Zk x.kind,Zk x.value,Zk x.line,Zk x.column,Zy x.text,vk]] fz [] (fun r fz' H'=>H'=[]/\ResL Ybf fz' (Yee x) r):=by
 have hRx:=hR;obtain ⟨A,n,c,rfl,ik⟩:=hR.kids;have hM:Yee x=if XVal x then (match pPar x with
 | .error c=>.error c
 | .ok p=>if FVal p.goal/\YbJ p/\XVal (prbX p) then .ok p else .error 5) else .error 2:=rfl
 refine zF Tryz.func50 Tryz.ntmps50 (fun w0=>?_);refine zW ?_;intros;refine zb (Yat hRx) (fun f1=>?_) (fun f1=>?_)
 ·have hv:=Zt f1;rw [if_pos hv] at hM;refine wK (q:=pparse_f hv hRx) (h:=fun r4 fz4 H4 hle4 hR4=>?_);obtain ⟨rfl,⟨p,cs4,hr4,hR4⟩,hsm⟩:=hR4;obtain ⟨vo,vi,vv,a1,a2,a3,a4,rfl,hPR⟩:=YcX hr4;have hPR':=hPR;obtain ⟨⟨O1,o1,z1,rfl,_⟩,⟨O2,o2,z2,rfl,_⟩,⟨O3,o3,z3,rfl,_⟩⟩:=hPR.sls;obtain ⟨⟨O4,o4,z4,rfl,_⟩,⟨O5,o5,z5,rfl,_⟩,⟨O6,o6,z6,rfl,_⟩,⟨O7,o7,z7,rfl,_⟩⟩:=hPR.goal.sls;cases hx:pPar x with
  | error c'=>
   rw [hx] at hM hR4;obtain ⟨rfl,hc⟩:=hR4;rw [Yg hc];refine zW ?_;intros;exact YS T (vs:=[.agg #[Ze,Ze,Zn,Zn,Zn,Ze,Ze,Zn,Zn,Zn,Zn],.iface 89 (Zk c')]) ⟨⟨_,_,1,_,_,_,rfl,rfl,rfl,rfl,rfl,rfl⟩,rfl,trivial⟩ (fun fz3 hle3 hf3=>⟨rfl,YA hM hc YeC⟩)
  | ok p2=>
   rw [hx] at hM hR4;obtain ⟨rfl,rfl⟩:=hR4;simp only at hM;have hsm:=hsm p2 hx;refine zW ?_;intros;refine wK (q:=Yi5 hPR' hsm) (h:=fun r6 fz6 H6 hle6 hR6=>?_);obtain ⟨rfl,u6,y6,rfl,⟨cs6,rfl,hr6⟩,hy6⟩:=hR6;obtain ⟨vk6,rfl,hX6⟩:=Yf hr6;obtain ⟨A6,n6,c6,rfl,_⟩:=hX6.kids;by_cases hOk:FVal p2.goal/\YbJ p2/\XVal (prbX p2)
   ·rw [if_pos hOk] at hM ⊢;rw [show errV 0=.nilIface from rfl];refine zW ?_;intros;exact YS T (vs:=[ZP p2 (Zc O1 o1 z1) (Zc O2 o2 z2) (Zc O3 o3 z3) (Zc O4 o4 z4) (Zc O5 o5 z5) (Zc O6 o6 z6) (Zc O7 o7 z7),.nilIface]) ⟨⟨_,_,2,_,_,_,rfl,rfl,rfl,rfl,rfl,rfl⟩,rfl,trivial⟩ (fun fz3 hle3 hf3=>⟨rfl,XQ hM (Wx (hPR'.mono (hle6.trans hle3)))⟩)
   rw [if_neg hOk] at hM ⊢;rw [Yg Zh];refine zW ?_;intros;exact YS T (vs:=[.agg #[Ze,Ze,Zn,Zn,Zn,Ze,Ze,Zn,Zn,Zn,Zn],.iface 89 (Zk 5)]) ⟨⟨_,_,2,_,_,_,rfl,rfl,rfl,rfl,rfl,rfl⟩,rfl,trivial⟩ (fun fz3 hle3 hf3=>⟨rfl,YA hM Zh YeC⟩)
 rw [if_neg (Zf f1)] at hM;refine zW ?_;exact YS T (vs:=[.agg #[Ze,Ze,Zn,Zn,Zn,Ze,Ze,Zn,Zn,Zn,Zn],.iface 89 (Zk 2)]) ⟨⟨_,_,0,_,_,_,rfl,rfl,rfl,rfl,rfl,rfl⟩,rfl,trivial⟩ (fun fz3 hle3 hf3=>⟨rfl,YA hM Zh YeC⟩)
def PlcB (p q:Int):Prop:=0<=p/\0<=q/\p<=100000/\q<=100000
theorem Ypn {t:Bs} (ht:t.size<=65536) (a:Nat):PlcB (posA t a).1 (posA t a).2:=by
 have:=YgT t a;unfold PlcB;omega
theorem next_pl {t:Bs} {a a' n':Nat} {st st':List Lev} (ht:t.size<=65536) (h:Yd9 t a n st=.ok (a',n',st')) (hs:∀ e∈st,PlcB e.l e.c):∀ e∈st',PlcB e.l e.c:=by
 unfold Yd9 at h;split at h
 ·cases h
 split at h
 ·split at h
  ·cases h
  injection h with h
  injection h with h2 h3
  injection h3 with h3 h4
  subst h4;intro e he;rcases List.mem_cons.1 he with rfl | he
  ·exact Ypn ht a
  exact hs e he
 split at h
 ·split at h
  ·rename_i e1 e2 r;injection h with h
   injection h with h2 h3
   injection h3 with h3 h4
   subst h4;intro e he;rcases List.mem_cons.1 he with rfl | he
   ·exact hs e2 (by simp)
   exact hs e (by simp [he])
  cases h
 unfold tokM at h;split at h
 ·cases h
 split at h
 ·cases h
 unfold addM at h;split at h
 ·cases h
 rename_i e1 r;injection h with h
 injection h with h2 h3
 injection h3 with h3 h4
 subst h4;intro e he;rcases List.mem_cons.1 he with rfl | he
 ·exact hs e1 (by simp)
 exact hs e (by simp [he])
theorem YmV {t:Bs} (ht:t.size<=65536):∀ (f a n:Nat) (st:List Lev) {l c e:Int},(∀ e∈st,PlcB e.l e.c)->Ydv t f a n st=.error (l,c,e)->PlcB l c
 | 0,a,n,st,l,c,e,_,h=>by rw [Ydv] at h;injection h with h;injection h with h1 h2;injection h2 with h2 h3;subst h1 h2;unfold PlcB;omega
 | f+1,a,n,st,l,c,e,hs,h=>by
  rw [YbM] at h;split at h
  ·unfold endM at h;split at h
   ·injection h with h;injection h with h1 h2;injection h2 with h2 h3;subst h1 h2;unfold PlcB;omega
   ·cases h
   injection h with h;injection h with h1 h2;injection h2 with h2 h3;subst h1 h2;exact hs _ (by simp)
  split at h
  ·injection h with h;injection h with h1 h2;injection h2 with h2 h3;subst h1 h2;exact Ypn ht _
  rename_i a' n' st' hn;exact YmV ht f a' n' st' (next_pl ht hn hs) h
theorem readM_pl {t:Bs} {l c e:Int} (h:Ygb t=.error (l,c,e)):PlcB l c:=by
 unfold Ygb at h;split at h
 ·injection h with h;injection h with h1 h2;injection h2 with h2 h3;subst h1 h2;unfold PlcB;omega
 exact YmV Zi _ _ _ _ (by intro e he;simp at he;subst he;unfold PlcB;decide) h
def prdM (t:Bs):Except Int Sexpr:=match Ygb t with
 | .error (_,_,e)=>.error e
 | .ok l=>match l with
  | [x]=>.ok x
  | _=>.error 2
def PrdX (fz:FZ) (m:Except Int Sexpr) (v:Value):Prop:=∃ x cs pl,YE.rep fz x cs/\match m with
 | .error c=>v=.tuple #[.agg cs.toArray,.string pl,errV c]/\c≠0
 | .ok y=>y=x/\v=.tuple #[.agg cs.toArray,.string ⟨#[]⟩,.nilIface]
theorem YmZ {m:Except Int Sexpr} {c:Int} {pl:Bs} (h:m=.error c) (hc:c≠0):PrdX fz m (.tuple #[.agg #[Zk 0,Zk 0,Zk 0,Zk 0,Ze,Zn],Zy pl,.iface 89 (Zk c)]):=by
 rw [h];exact ⟨zroX,zroC,pl,Ymz,by rw [Yg hc];rfl,hc⟩
theorem Ypk {k t:Bs} (hT:TabF fz) (hk:k.size<=100):
 GFn prog 48 [Zy k,Zy t] fz [] (fun r fz' H'=>H'=[]/\PrdX fz' (prdM t) r):=by
 have hM:prdM t=match Ygb t with
 | .error (_,_,e)=>.error e
 | .ok l=>match l with
  | [x]=>.ok x
  | _=>.error 2:=rfl
 refine zF Tryz.func48 Tryz.ntmps48 (fun w0=>?_);refine zW ?_;intros;refine wK (q:=read_f (t:=t)) (h:=fun r4 fz4 H4 hle4 hR4=>?_);obtain ⟨rfl,hR4⟩:=hR4;cases hx:Ygb t with
 | error lce=>
  obtain ⟨l,c,e⟩:=lce;have hp:=readM_pl hx;unfold PlcB at hp;rw [hx] at hM hR4;obtain ⟨rfl,he,hi1,hi2⟩:=hR4;rw [Yg he];have z1:=itoa_len (n:=l) (by unfold Yca;omega);have z2:=itoa_len (n:=c) (by unfold Yca;omega);refine wG ?_;refine Wa Zz Zz (by show k.size+1<=_;omega) ?_;refine wG ?_;refine YF (YpV (n:=l) (hT.mono hle4) (by unfold Yca;omega)) ?_;refine zG ?_;refine Wa Zz Zz (by rw [ByteArray.size_append,WW];show k.size+1+_<=_;omega) ?_;refine zG ?_;refine Wa Zz Zz (by rw [ByteArray.size_append,ByteArray.size_append,WW];show k.size+1+_+1<=_;omega) ?_;refine wG ?_;refine YF (YpV (n:=c) (hT.mono hle4) (by unfold Yca;omega)) ?_;refine zG ?_;refine Wa Zz Zz (by rw [ByteArray.size_append,ByteArray.size_append,ByteArray.size_append,WW,WW];show k.size+1+_+1+_<=_;omega) ?_;refine zW ?_;refine YS T (vs:=[.agg #[Zk 0,Zk 0,Zk 0,Zk 0,Ze,Zn],_,.iface 89 (Zk e)]) ⟨⟨_,_,0,_,_,_,rfl,rfl,rfl,rfl,rfl,rfl⟩,rfl,rfl,trivial⟩ (fun fz3 hle3 hf3=>⟨rfl,YmZ hM he⟩)
 | ok l=>
  rw [hx] at hM hR4;obtain ⟨A,n,c,rfl,il⟩:=hR4;simp only at hM;have hl:=il.len;refine wC ?_ ?_<;>intro c1
  ·have hM2:prdM t=.error 2:=by
    rw [hM];split
    ·simp at hl;omega
    rfl
   refine zW ?_;refine YS T (vs:=[.agg #[Zk 0,Zk 0,Zk 0,Zk 0,Ze,Zn],Zy k,.iface 89 (Zk 2)]) ⟨⟨_,_,0,_,_,_,rfl,rfl,rfl,rfl,rfl,rfl⟩,rfl,rfl,trivial⟩ (fun fz3 hle3 hf3=>⟨rfl,YmZ hM2 Zh⟩)
  obtain ⟨y,rfl⟩:∃ y,l=[y]:=by
   have h3:l.length=1:=by omega
   match l,h3 with
   | [y],_=>exact ⟨y,rfl⟩
  simp only at hM;have hy: [y][0]?=some y:=rfl;refine wI il hy (fun p hp=>?_);refine zL hp ?_;intro cs hcs;obtain ⟨vy,rfl,hRy⟩:=Yf hcs;obtain ⟨Ay,ny,cy,rfl,iy⟩:=hRy.kids;refine zW ?_;refine YS T (vs:=[.agg #[Zk y.kind,Zk y.value,Zk y.line,Zk y.column,Zy y.text,Zc Ay ny cy],Ze,.nilIface]) ⟨⟨_,_,0,_,_,_,rfl,rfl,rfl,rfl,rfl,rfl⟩,rfl,rfl,trivial⟩ (fun fz3 hle3 hf3=>⟨rfl,y,_,⟨#[]⟩,YE.mono hle3 hcs,?_⟩);rw [hM];exact ⟨rfl,rfl⟩
end Go.Proofs.YtiligkgjcmokbaaGreatDoor
namespace Go.Proofs.YtiligkgjcmokbaaGreatDoor
variable {α:Type} {f:Formula} {n:Nat} {d:Domain} {p:Problem}
theorem YbI (s:Bs):xcount (Yp s)=1:=by simp [Yp,xcount,xcountL]
theorem cnt_num (n:Int):xcount (numE n)=1:=by simp [numE,xcount,xcountL]
theorem Yaj (l:List Sexpr):xcount (YM l)=1+xcountL l:=by simp [YM,xcount]
theorem Ylf (f:α->Bs) (l:List α):xcountL (l.map fun x=>Yp (f x))=l.length:=by
 induction l with
 | nil=>rfl
 | cons a r ih=>simp only [List.map_cons,xcountL,YbI,ih,List.length_cons];omega
theorem Yba (f:Bs) (l:List Bs):xcount (YaR f l)=2+l.length:=by
 have:=Ylf id l;simp only [id] at this;rw [YaR,Yaj,xcountL,YbI];rw [show l.map Yp=l.map fun x=>Yp x from rfl,this];omega
theorem YjE (l:List Param):xcountL (Yap l)=3*l.length:=by
 have:=Ylf id (l.flatMap YaS);simp only [id,YdY] at this;exact this
theorem YgI {α:Type} {w:α->Nat} {f:α->Sexpr} {m:Nat}:∀ {l:List α},(∀ c∈l,w c<=m*xcount (f c))->(l.map w).sum<=m*xcountL (l.map f)
 | [],_=>Z0 _
 | a::r,h=>by
  have h1:=h a (by simp);have h2:=YgI (w:=w) (f:=f) (m:=m) (l:=r) (fun c hc=>h c (List.mem_cons_of_mem _ hc));simp only [List.map_cons,List.sum_cons,xcountL,Nat.mul_add];omega
theorem ew_le:∀ (s:Nat) {e:Lx.Expr},SizeOf.sizeOf e<=s->EOk e->eW e<=xcount (Ws e)
 | 0,e,h,_=>by cases e;simp at h
 | s+1,e,h,h1=>by
  have h3:=YaN.1 h1;rw [Ynu,Yqr];split
  ·rename_i h0;obtain ⟨_,ha,hk,_⟩:=(Yhr h0).1 h3.1;rw [ha,hk,cnt_num];exact Zs _
  split
  ·rename_i h0;rw [((Yhs h0).1 h3.1).2.1,Yba];simp<;>omega
  rename_i k1 k2;have h5:=(Yht k1 k2).1 h3.1;have:=YgI (w:=eW) (f:=Ws) (m:=1) (l:=e.kids) (fun c hc=>by rw [Nat.one_mul];exact ew_le s (by have:=Lx.Expr.kids_lt hc;omega) (h3.2 c hc));rw [h5.2.2.2.1,Yaj,xcountL,YbI];simp<;>omega
theorem Ynr {k:Nat × Bool × Nat} (hk:Yes f=some k) (h:¬(f.op=kForall\/f.op=YaA)):k.2.1=false:=by
 rw [Yes,if_neg h] at hk;split at hk
 ·cases hk;rfl
 split at hk
 ·cases hk;rfl
 split at hk
 ·cases hk;rfl
 split at hk
 ·cases hk;rfl
 split at hk
 ·cases hk;rfl
 cases hk
theorem fk_zero {k:Nat × Bool × Nat} (hk:Yes f=some k) (k1:¬(f.op=kAtom\/f.op=kSame)) (k3:¬CmpOp f.op):k.1=0:=by
 rw [Yes,if_neg k1,if_neg k3] at hk;split at hk
 ·cases hk;rfl
 split at hk
 ·cases hk;rfl
 split at hk
 ·cases hk;rfl
 split at hk
 ·cases hk;rfl
 cases hk
theorem fw_le:∀ (s:Nat) {f:Formula},SizeOf.sizeOf f<=s->FOk f->fW f<=xcount (Xm f)
 | 0,f,h,_=>by cases f;simp at h
 | s+1,f,h,h1=>by
  have h3:=WV.1 h1;obtain ⟨_,⟨k,hk,hr⟩,_⟩:=h3.1;rw [Yjm,Yl9];by_cases k1:f.op=kAtom\/f.op=kSame
  ·have hp:=hr.2.2.2 (Ynr hk (by rintro (h0 | h0)<;>rcases k1 with h5 | h5<;>exact absurd (h5.symm.trans h0) Zh));rw [Yes,if_pos k1] at hk;cases hk;rw [List.eq_nil_of_length_eq_zero hr.2.1,List.eq_nil_of_length_eq_zero hr.2.2.1,hp];split
   ·rw [Yba];simp<;>omega
   rename_i h5;rw [if_pos (k1.resolve_left h5),Yba];simp<;>omega
  have k2:=not_or.1 k1;have ha:=(hr.1 k2.1 k2.2).2;rw [if_neg k2.1,if_neg k2.2,ha];by_cases k3:CmpOp f.op
  ·rw [if_pos k3];rw [Yes,if_neg k1,if_pos k3] at hk;cases hk;have:=YgI (w:=eW) (f:=Ws) (m:=1) (l:=f.exprs) (fun c hc=>by rw [Nat.one_mul];exact ew_le _ (Zs _) (h3.2.1 c hc));rw [List.eq_nil_of_length_eq_zero hr.2.2.1,hr.2.2.2 rfl,Yaj,xcountL,YbI];simp<;>omega
  rw [if_neg k3];have he:f.exprs=[]:=List.eq_nil_of_length_eq_zero (by rw [hr.2.1,fk_zero hk k1 k3]);have hs:=YgI (w:=fW) (f:=Xm) (m:=1) (l:=f.kids) (fun c hc=>by rw [Nat.one_mul];exact fw_le s (by have:=Formula.kids_lt hc;omega) (h3.2.2 c hc));have hp:f.params.length<=xcountL (if f.op=kForall\/f.op=YaA then [YM ((f.params.flatMap YaS).map Yp)] else []):=by
   split
   ·have:=YjE f.params;rw [Yap] at this;rw [xcountL,Yaj,this];omega
   rename_i h5;rw [hr.2.2.2 (Ynr hk h5)];simp
  rw [he,Yaj,WF,WF];simp only [List.length_nil,List.map_nil,List.sum_nil];omega
theorem eval_w {e:Lx.Expr} (h:EVal e):eW e<=xcount (Ws e):=ew_le _ (Zs _) h.1
theorem Yp4 (h:FVal f):fW f<=xcount (Xm f):=fw_le _ (Zs _) h.1
theorem YnL (x:Sexpr):1<=xcount x:=by rw [Xj];omega
theorem change_w {c:Change} (h:ChOk c):Xx c<=3*xcount (chX c):=by
 obtain ⟨_,hk,hw,_⟩:=h;have h1:c.args.length+eW c.value+1<=xcount (chX1 c):=by
  unfold chX1;rcases hk with ⟨h2,h3⟩ | ⟨h2,h3⟩
  ·have hn:¬Num5 c.kind:=by unfold Num5;omega
   have he:eW c.value=1:=by rw [h3];rfl
   rw [he];split
   ·simp only [Yaj,xcountL,YbI,Yba];omega
   first
   | (rw [if_neg hn,Yba];omega)
   | (rw [Yba];omega)
  have hn:¬c.kind=2:=by unfold Num5 at h2;omega
  have:=eval_w h3;rw [if_neg hn,if_pos h2];simp only [Yaj,xcountL,YbI,Yba];omega
 have h2:c.args.length+eW c.value+fW c.when_<=xcount (chX2 c):=by
  unfold chX2;by_cases h0:c.when_=XV
  ·have he:fW c.when_=1:=by rw [h0];rfl
   rw [if_pos h0];omega
  have:=Yp4 (hw.resolve_left h0);rw [if_neg h0];simp only [Yaj,xcountL,YbI];omega
 have h4:=YnL (chX2 c);unfold chX Xx;split
 ·rename_i h0;rw [h0];simp<;>omega
 have:=YjE c.params;rw [Yap] at this;simp only [Yaj,xcountL,YbI,this];omega
theorem eff_w {l:List Change} (h:Ycd l):(l.map Xx).sum<=3*xcount (effX l):=by
 have:=YgI (w:=Xx) (f:=chX) (m:=3) (fun c hc=>change_w (h c hc));unfold effX;split
 ·rename_i h0;rw [h0];simp
 rw [Yaj,xcountL];omega
theorem Ypv {p:Prop} {kw:Bs} {x:Sexpr} {m:Nat} (h:¬p->m<=n*xcount x) (h2:p->m<=1) (hn:1<=n):m<=1+n*xcountL (opt p kw x):=by
 unfold opt;split
 ·rename_i h0;have:=h2 h0;omega
 rename_i h0;have:=h h0;simp only [xcountL,YbI,Nat.mul_add];omega
theorem Yps {l:List Param} {kw:Bs}:l.length<=1+3*xcountL (opt (l=[]) kw (YbZ l)):=Ypv (fun _=>by
 have:=YjE l;rw [Yap] at this;rw [YbZ,Yaj,this];omega) (fun h=>by rw [h];simp) Zh
theorem Yjl {kw:Bs} (h:FVal f):fW f<=1+3*xcountL (opt (f=XV) kw (Xm f)):=Ypv (fun _=>by have:=Yp4 h;omega) (fun h=>by rw [h];exact Zs _) Zh
theorem Ymd {l:List Change} {kw:Bs} (h:Ycd l):(l.map Xx).sum<=1+3*xcountL (opt (l=[]) kw (effX l)):=Ypv (fun _=>eff_w h) (fun h=>by rw [h];simp) Zh
theorem act_w {a:Action} (h:Yoq a):actW a<=10*xcount (actX a):=by
 have h1:=Yps (l:=a.params) (kw:=YB);have h2:=Yjl (kw:=Xl) h.2.2.2.1;have h3:=Ymd (kw:=Yc9) h.2.2.2.2;unfold actX actW;simp only [Yaj,WF];omega
theorem dur_w {a:Durative} (h:Yog a):durW a<=10*xcount (durX a):=by
 have h1:=Yps (l:=a.params) (kw:=YB);have h2:=Yjl (kw:=Ybq) h.2.2.1;have h3:=Yjl (kw:=Yea) h.2.2.2.1;have h4:=Yjl (kw:=kEnd) h.2.2.2.2.1;have h5:=Ymd (kw:=Yai) h.2.2.2.2.2.1;have h6:=Ymd (kw:=YeW) h.2.2.2.2.2.2;unfold durX durW;simp only [Yaj,WF];omega
theorem Yo7:∀ {r:List Sexpr} {k:Nat} {s:List Bs} {d d':Domain},(∀ y∈r,XSm y/\xcount y<=4096)->DomT k d->secL s d r=.ok d'->∃ k',k'<=k+r.length/\DomT k' d'
 | [],k,s,d,d',_,hd,h=>by rw [secL] at h;injection h with h;subst h;exact ⟨k,Zs _,hd⟩
 | x::r,k,s,d,d',hs,hd,h=>by
  rw [secL] at h;split at h
  ·cases h
  rename_i w t hh;split at h
  ·cases h
  split at h
  ·cases h
  rename_i d2 hd2;obtain ⟨y,hk,_⟩:=XW hh;have h1:=Xj x;have h2:=Wt (l:=x.kids);have h3:=(hs x (by simp)).2;rw [hk,List.length_cons] at h2;rw [hk] at h1;obtain ⟨k',h4,h5⟩:=Yo7 (fun y hy=>hs y (List.mem_cons_of_mem _ hy)) (hd.step (hs x (by simp)).1 (fun y hy=>Ww (hs x (by simp)).1 hh hy) Zi hd2) h;exact ⟨k',by rw [List.length_cons];omega,h5⟩
theorem Yh8 {x:Sexpr} (hv:XVal x) {w:Bs} {r:List Sexpr} (hh:XP x=some (w,r)):(∀ y∈r,XSm y/\xcount y<=4096)/\r.length<=4095:=by
 obtain ⟨y,hk,_⟩:=XW hh;have h1:=Xj x;have h2:=Wt (l:=x.kids);have h3:=hv.2.2;rw [hk,List.length_cons] at h2;rw [hk] at h1;refine ⟨fun z hz=>⟨Ww hv.sm hh hz,?_⟩,by omega⟩;have:=Wg (l:=y::r) (List.mem_cons_of_mem _ hz);omega
theorem Yqx {x:Sexpr} (h:Ydk x=.ok d):DomSm d/\Ycq d/\XVal (domX d):=by
 unfold Ydk at h;split at h
 ·rename_i hv;split at h
  ·cases h
  rename_i d2 hd;split at h
  ·rename_i hok;injection h with h;subst h
   refine ⟨?_,hok⟩;unfold dPar at hd;split at hd
   ·cases hd
   rename_i w r hh;obtain ⟨hs,hl⟩:=Yh8 hv hh;split at hd
   ·split at hd
    ·cases hd
    rename_i y r';split at hd
    ·cases hd
    obtain ⟨k',h4,h5⟩:=Yo7 (k:=0) (fun y hy=>hs y (List.mem_cons_of_mem _ hy)) ⟨by show 0<=_;omega,by show 0<=_;omega,by show 0<=_;omega,by simp,by show 0<=_;omega,by simp,by show 0<=_;omega,by simp,by show 0<=_;omega,by simp⟩ hd;rw [List.length_cons] at hl;exact h5.sm Zi
   cases hd
  cases h
 cases h
theorem YmX:∀ {r:List Sexpr} {k:Nat} {s:List Bs} {d d':Problem},(∀ y∈r,XSm y/\xcount y<=4096)->PrbT k d->YiZ s d r=.ok d'->∃ k',k'<=k+r.length/\PrbT k' d'
 | [],k,s,d,d',_,hd,h=>by rw [YiZ] at h;injection h with h;subst h;exact ⟨k,Zs _,hd⟩
 | x::r,k,s,d,d',hs,hd,h=>by
  rw [YiZ] at h;split at h
  ·cases h
  rename_i w t hh;split at h
  ·split at h
   ·cases h
   rename_i d2 hd2;obtain ⟨y,hk,_⟩:=XW hh;have h1:=Xj x;have h2:=Wt (l:=x.kids);have h3:=(hs x (by simp)).2;rw [hk,List.length_cons] at h2;rw [hk] at h1;obtain ⟨k',h4,h5⟩:=YmX (fun y hy=>hs y (List.mem_cons_of_mem _ hy)) (hd.step (fun y hy=>Ww (hs x (by simp)).1 hh hy) Zi hd2) h;exact ⟨k',by rw [List.length_cons];omega,h5⟩
  cases h
theorem Ypu {x:Sexpr} (h:Yee x=.ok p):PrbSm p/\FVal p.goal/\YbJ p/\XVal (prbX p):=by
 unfold Yee at h;split at h
 ·rename_i hv;split at h
  ·cases h
  rename_i d2 hd;split at h
  ·rename_i hok;injection h with h;subst h
   refine ⟨?_,hok⟩;unfold pPar at hd;split at hd
   ·cases hd
   rename_i w r hh;obtain ⟨hs,hl⟩:=Yh8 hv hh;split at hd
   ·split at hd
    ·cases hd
    split at hd
    ·cases hd
    split at hd
    ·cases hd
    split at hd
    ·cases hd
    obtain ⟨k',h4,h5⟩:=YmX (k:=0) (fun y hy=>hs y (List.mem_cons_of_mem _ (List.mem_cons_of_mem _ hy))) ⟨by show 0<=_;omega,by show 0<=_;omega,by simp,by show 0<=_;omega,by simp,YdU⟩ hd;simp only [List.length_cons] at hl;exact h5.sm Zi
   cases hd
  cases h
 cases h
theorem chkS_of {x y:Sexpr} (h1:Ydk x=.ok d) (h2:Yee y=.ok p):ChkS d p:=by
 obtain ⟨a1,a2,a3⟩:=Yqx h1;obtain ⟨b1,b2,b3,b4⟩:=Ypu h2;have hc:=a3.2.2;have hX:xcount (domX d)=1+xcountL ([Yp Xg,YM [Yp Wo,Yp d.name]]++grp Ybz (Yap d.types)++grp XZ (Yap d.constants)++grp XN (d.predicates.map YlP)++grp XY (d.functions.map funX)++d.actions.map actX++d.duratives.map durX):=by rw [domX,Yaj]
 simp only [WF] at hX;refine ⟨a1,b1,fun a ha=>?_,fun a ha=>?_,?_⟩
 ·have h3:=act_w (a2.2.2.2.2.2.1 a ha);have h4:=Wg (l:=d.actions.map actX) (List.mem_map.2 ⟨a,ha,rfl⟩);omega
 ·have h3:=dur_w (a2.2.2.2.2.2.2 a ha);have h4:=Wg (l:=d.duratives.map durX) (List.mem_map.2 ⟨a,ha,rfl⟩);omega
 have h3:=Yp4 b2;have:=b2.2.2.2;omega
end Go.Proofs.YtiligkgjcmokbaaGreatDoor
namespace Go.Proofs.YtiligkgjcmokbaaGreatDoor
variable {fz:FZ}
def loadM (a b:Bs):Except Int (Domain × Problem):=match prdM a with
 | .error c=>.error c
 | .ok x=>match Ydk x with
  | .error c=>.error c
  | .ok d=>match prdM b with
   | .error c=>.error c
   | .ok y=>match Yee y with
    | .error c=>.error c
    | .ok p=>if (Yak d p).2=0 then .ok (d,p) else .error (Yak d p).2
def LoadR (fz:FZ) (m:Except Int (Domain × Problem)) (v:Value):Prop:=∃ d p cd cp pl,YfO.rep fz d cd/\Ybf.rep fz p cp/\match m with
 | .error c=>v=.tuple #[.agg cd.toArray,.agg cp.toArray,.string pl,errV c]/\c≠0/\d=zeroD/\p=zeroP
 | .ok (d',p')=>d'=d/\p'=p/\v=.tuple #[.agg cd.toArray,.agg cp.toArray,.string ⟨#[]⟩,.nilIface]
theorem YdG {m:Except Int (Domain × Problem)} {c:Int} {pl:Bs} (h:m=.error c) (hc:c≠0):LoadR fz m (.tuple #[.agg #[Ze,Zn,Zn,Zn,Zn,Zn,Zn],.agg #[Ze,Ze,Zn,Zn,Zn,Ze,Ze,Zn,Zn,Zn,Zn],Zy pl,.iface 89 (Zk c)]):=by
 rw [h];exact ⟨zeroD,zeroP,_,_,pl,YaD,YeC,by rw [Yg hc],hc,rfl,rfl⟩
theorem load_f {a b:Bs} (hT:TabF fz) (hX:MaxF fz):
 GFn prog 15 [Zy a,Zy b] fz [] (fun r fz' H'=>H'=[]/\LoadR fz' (loadM a b) r):=by
 have hM:loadM a b=match prdM a with
 | .error c=>.error c
 | .ok x=>match Ydk x with
  | .error c=>.error c
  | .ok d=>match prdM b with
   | .error c=>.error c
   | .ok y=>match Yee y with
    | .error c=>.error c
    | .ok p=>if (Yak d p).2=0 then .ok (d,p) else .error (Yak d p).2:=rfl
 refine zF Tryz.func15 Tryz.ntmps15 (fun w0=>?_);refine zW ?_;intros;refine wK (q:=Ypk (k:=Wo) (t:=a) hT Zh) (h:=fun r1 fz1 H1 hle1 hR1=>?_);obtain ⟨rfl,x,cs1,pl1,hr1,hR1⟩:=hR1;rw [List.nil_append];obtain ⟨vk1,rfl,hX1⟩:=Yf hr1;have hX1':=hX1;obtain ⟨A1,n1,c1,rfl,_⟩:=hX1.kids;cases e1:prdM a with
 | error c=>
  rw [e1] at hM hR1;obtain ⟨rfl,hc⟩:=hR1;rw [Yg hc];refine zW ?_;intros;exact YS T (vs:=[.agg #[Ze,Zn,Zn,Zn,Zn,Zn,Zn],.agg #[Ze,Ze,Zn,Zn,Zn,Ze,Ze,Zn,Zn,Zn,Zn],Zy pl1,.iface 89 (Zk c)]) ⟨⟨_,_,2,_,_,_,rfl,rfl,rfl,rfl,rfl,rfl⟩,⟨_,_,1,_,_,_,rfl,rfl,rfl,rfl,rfl,rfl⟩,rfl,rfl,trivial⟩ (fun fz3 hle3 hf3=>⟨rfl,YdG hM hc⟩)
 | ok x'=>
  rw [e1] at hM hR1;obtain ⟨rfl,rfl⟩:=hR1;simp only at hM;refine zW ?_;intros;refine wK (q:=dParse_f hX1') (h:=fun r2 fz2 H2 hle2 hR2=>?_);obtain ⟨rfl,d,cs2,hr2,hR2⟩:=hR2;rw [List.nil_append];obtain ⟨v1,v2,v3,v4,v5,v6,rfl,hD⟩:=Yf7 hr2;have hD':=hD;obtain ⟨⟨T1,t1,z1,rfl,_⟩,⟨T2,t2,z2,rfl,_⟩,⟨T3,t3,z3,rfl,_⟩,⟨T4,t4,z4,rfl,_⟩,⟨T5,t5,z5,rfl,_⟩,⟨T6,t6,z6,rfl,_⟩⟩:=hD.sls;cases e2:Ydk x' with
  | error c=>
   rw [e2] at hM hR2;obtain ⟨rfl,hc⟩:=hR2;rw [Yg hc];refine zW ?_;intros;exact YS T (vs:=[.agg #[Ze,Zn,Zn,Zn,Zn,Zn,Zn],.agg #[Ze,Ze,Zn,Zn,Zn,Ze,Ze,Zn,Zn,Zn,Zn],Zy _,.iface 89 (Zk c)]) ⟨⟨_,_,3,_,_,_,rfl,rfl,rfl,rfl,rfl,rfl⟩,⟨_,_,2,_,_,_,rfl,rfl,rfl,rfl,rfl,rfl⟩,rfl,rfl,trivial⟩ (fun fz3 hle3 hf3=>⟨rfl,YdG hM hc⟩)
  | ok d'=>
   rw [e2] at hM hR2;obtain ⟨rfl,rfl⟩:=hR2;simp only at hM;refine zW ?_;intros;refine wK (q:=Ypk (k:=XU) (t:=b) ((hT.mono hle1).mono hle2) Zh) (h:=fun r3 fz3 H3 hle3 hR3=>?_);obtain ⟨rfl,y,cs3,pl3,hr3,hR3⟩:=hR3;rw [List.nil_append];obtain ⟨vk3,rfl,hX3⟩:=Yf hr3;have hX3':=hX3;obtain ⟨A3,n3,c3,rfl,_⟩:=hX3.kids;cases e3:prdM b with
   | error c=>
    rw [e3] at hM hR3;obtain ⟨rfl,hc⟩:=hR3;rw [Yg hc];refine zW ?_;exact YS T (vs:=[.agg #[Ze,Zn,Zn,Zn,Zn,Zn,Zn],.agg #[Ze,Ze,Zn,Zn,Zn,Ze,Ze,Zn,Zn,Zn,Zn],Zy pl3,.iface 89 (Zk c)]) ⟨⟨_,_,3,_,_,_,rfl,rfl,rfl,rfl,rfl,rfl⟩,⟨_,_,2,_,_,_,rfl,rfl,rfl,rfl,rfl,rfl⟩,rfl,rfl,trivial⟩ (fun fz3 hle3 hf3=>⟨rfl,YdG hM hc⟩)
   | ok y'=>
    rw [e3] at hM hR3;obtain ⟨rfl,rfl⟩:=hR3;simp only at hM;refine wK (q:=pParse_f hX3') (h:=fun r4 fz4 H4 hle4 hR4=>?_);obtain ⟨rfl,p,cs4,hr4,hR4⟩:=hR4;rw [List.nil_append];obtain ⟨w1,w2,w3,w4,w5,w6,w7,rfl,hP⟩:=YcX hr4;have hP':=hP;obtain ⟨⟨O1,o1,k1,rfl,_⟩,⟨O2,o2,k2,rfl,_⟩,⟨O3,o3,k3,rfl,_⟩⟩:=hP.sls;obtain ⟨⟨O4,o4,k4,rfl,_⟩,⟨O5,o5,k5,rfl,_⟩,⟨O6,o6,k6,rfl,_⟩,⟨O7,o7,k7,rfl,_⟩⟩:=hP.goal.sls;cases e4:Yee y' with
    | error c=>
     rw [e4] at hM hR4;obtain ⟨rfl,hc⟩:=hR4;rw [Yg hc];refine zW ?_;intros;refine Yz (Yaz (pre:=[_,_,_,_]) rfl ?_);refine zW ?_;exact YS T (vs:=[.agg #[Ze,Zn,Zn,Zn,Zn,Zn,Zn],.agg #[Ze,Ze,Zn,Zn,Zn,Ze,Ze,Zn,Zn,Zn,Zn],Zy _,.iface 89 (Zk c)]) ⟨⟨_,_,4,_,_,_,rfl,rfl,rfl,rfl,rfl,rfl⟩,⟨_,_,3,_,_,_,rfl,rfl,rfl,rfl,rfl,rfl⟩,rfl,rfl,trivial⟩ (fun fz3 hle3 hf3=>⟨rfl,YdG hM hc⟩)
    | ok p'=>
     rw [e4] at hM hR4;obtain ⟨rfl,rfl⟩:=hR4;simp only at hM;have hle:=hle1.trans (hle2.trans (hle3.trans hle4));have hDD:=hD'.mono (hle3.trans hle4);have hck:=Ymo (hX.mono hle) hDD hP' (chkS_of e2 e4);generalize Yak d' p'=sc at*;obtain ⟨s,cc⟩:=sc;unfold resV at hck;refine zW ?_;intros;refine zc hck ?_;by_cases h0:cc=0
     ·rw [if_pos h0] at hM;subst h0;rw [show errV 0=.nilIface from rfl];refine zWN ?_;rename_i g12;refine WP [] [_,_] ?_;refine zW ?_;refine pT ?_;refine Yh ?_;refine Yas (Yaz (pre:=[_,_,_,_]) rfl ⟨⟨Zd,Zx⟩,?_⟩);refine Yh ?_;refine PoS.hard0 (WS ?_);refine pA ?_;refine pD ?_;refine zW ?_;refine YS T (vs:=[.agg #[Zy d'.name,Zc T1 t1 z1,Zc T2 t2 z2,Zc T3 t3 z3,Zc T4 t4 z4,Zc T5 t5 z5,Zc T6 t6 z6],.agg #[Zy p'.name,Zy p'.domain,Zc O1 o1 k1,Zc O2 o2 k2,Zc O3 o3 k3,Zy p'.goal.op,Zy p'.goal.name,Zc O4 o4 k4,Zc O5 o5 k5,Zc O6 o6 k6,Zc O7 o7 k7],Ze,.nilIface]) ⟨⟨_,_,4,_,_,_,rfl,rfl,rfl,rfl,rfl,rfl⟩,⟨_,_,3,_,_,_,rfl,rfl,rfl,rfl,rfl,rfl⟩,rfl,rfl,trivial⟩ (fun fz5 hle5 hf5=>⟨rfl,?_⟩);rw [hM];exact ⟨d',p',_,_,⟨#[]⟩,YdP (hDD.mono hle5),Wx (hP'.mono hle5),rfl,rfl,rfl⟩
     rw [if_neg h0] at hM;rw [Yg h0];refine zW ?_;refine Yz (Yaz (pre:=[_,_,_,_]) rfl ?_);refine zW ?_;exact YS T (vs:=[.agg #[Ze,Zn,Zn,Zn,Zn,Zn,Zn],.agg #[Ze,Ze,Zn,Zn,Zn,Ze,Ze,Zn,Zn,Zn,Zn],Zy s,.iface 89 (Zk cc)]) ⟨⟨_,_,4,_,_,_,rfl,rfl,rfl,rfl,rfl,rfl⟩,⟨_,_,3,_,_,_,rfl,rfl,rfl,rfl,rfl,rfl⟩,rfl,rfl,trivial⟩ (fun fz3 hle3 hf3=>⟨rfl,YdG hM h0⟩)
end Go.Proofs.YtiligkgjcmokbaaGreatDoor
namespace Go.Proofs.YtiligkgjcmokbaaGreatDoor
variable {α:Type} {s:Bs} {k n:Nat} {fz:FZ}
theorem tok_word {p:Int × Int} (h:Yor s):tokX s p=.ok (.mk 1 0 p.1 p.2 s []):=by
 have h1:=Yjc.2 ⟨h.1,h.2.1,h.2.2.1⟩;rw [tokX,if_neg h.2.2.2,if_pos h1.1,h1.2]
theorem Ydu {t:Bs} {f a n k:Nat} {st:List Lev} (hk:Wv false t a=k) (hb:t[k]?=some 40) (hs:st.length<=32:=by decide) (hn:n<4096:=by decide):Ydv t (f+1) a n st=Ydv t f (k+1) (n+1) (⟨3,(posA t k).1,(posA t k).2,[]⟩::st):=by
 have hl:k<t.size:=by
  rcases Nat.lt_or_ge k t.size with h | h
  ·exact h
  rw [getElem?_neg t k Zi] at hb;cases hb
 rw [YbM,hk,if_neg Zi];unfold Yd9;rw [hb];simp only [if_true];rw [if_neg Zi]
theorem Ycy {t:Bs} {f a:Nat} {e e2:Lev} {st:List Lev} (hk:Wv false t a=k) (hb:t[k]?=some 41):Ydv t (f+1) a n (e::e2::st)=Ydv t f (k+1) n (e2.add e.x::st):=by
 have hl:k<t.size:=by
  rcases Nat.lt_or_ge k t.size with h | h
  ·exact h
  rw [getElem?_neg t k Zi] at hb;cases hb
 rw [YbM,hk,if_neg Zi];unfold Yd9;rw [hb];simp only [if_neg (show ¬(41:UInt8)=40 by decide),if_true]
theorem YmU {t:Bs} {f a:Nat} {st:List Lev} (h:t.size<=Wv false t a):Ydv t (f+1) a n st=endM st:=by
 rw [YbM,if_pos h]
where noplL:List Sexpr->List Sexpr
 | []=>[]
 | x::r=>nopl x::noplL r
def bD:Bs:=⟨#[100]⟩
def bP:Bs:=⟨#[112]⟩
def sD:Domain:=⟨bD,[],[],[],[],[],[]⟩
def sP:Problem:=⟨bP,bD,[],[],[],XV⟩
def kTxD:Bs:=⟨#[40,100,101,102,105,110,101,32,40,100,111,109,97,105,110,32,100,41,41]⟩
def kTxP:Bs:=⟨#[40,100,101,102,105,110,101,32,40,112,114,111,98,108,101,109,32,112,41,32,40,58,100,111,109,97,105,110,32,100,41,41]⟩
theorem nilP {p:α->Prop}:∀ x∈([]:List α),p x:=fun _ h=>by cases h
theorem nm_ok (h1:0<s.size) (h2:s.size<=32) (h3:∀ b∈s.data.toList,LetP b.toNat) (h4:s.data.toList ∉ YbU.map (·.data.toList)):Xc s:=by
 refine ⟨fun i hi=>.inl ?_,fun h=>by rw [h] at h1;exact absurd h1 Zh,h2,fun h=>h4 (List.mem_map.2 ⟨s,h,rfl⟩)⟩;obtain ⟨b,hb,hb2⟩:=WC (s:=s) (k:=i) hi;rw [hb2];refine h3 b ?_;have:=Yjg hi;rw [getElem?_pos s i hi] at hb;injection hb with hb
 rw [hb] at this;exact Zm this
def WrdP (s:Bs):Prop:=0<s.size/\s.size<=32/\(∀ b∈s.data.toList,(97<=(b.toNat:Int)/\(b.toNat:Int)<=122)\/(48<=(b.toNat:Int)/\(b.toNat:Int)<=57)\/b∈SymL)/\¬PreP s YaB/\¬DigP (Yb8 s 0)
instance {s:Bs}:Decidable (WrdP s):=inferInstanceAs (Decidable (_/\_))
theorem YiC (h:WrdP s):Yor s:=by
 obtain ⟨h1,h2,h3,h4,h5⟩:=h;refine ⟨fun h=>by rw [h] at h1;exact absurd h1 Zh,h2,h3,fun hn=>?_⟩;have h6:=hn.1 0 (by rw [Ya6,if_neg h4];exact h1);rw [Ya6,if_neg h4] at h6;exact h5 h6
theorem nD:Xc bD:=nm_ok Zh Zh (by unfold LetP;decide) Zh
theorem nP:Xc bP:=nm_ok Zh Zh (by unfold LetP;decide) Zh
theorem xl {k:Int} {l c:Int} {ks:List Sexpr} (hk:k=3) (h:∀ k∈ks,XOk k):XOk (.mk k 0 l c ⟨#[]⟩ ks):=Xe.2 ⟨.inr (.inr ⟨hk,rfl,rfl⟩),h⟩
theorem xw {l c:Int} (h:Yor s):XOk (.mk 1 0 l c s []):=Xe.2 ⟨.inl ⟨rfl,h,rfl,rfl⟩,by intro k hk;cases hk⟩
theorem xc {k:Sexpr} {r:List Sexpr} (h:XOk k) (h2:∀ j∈r,XOk j):∀ j∈k::r,XOk j:=List.forall_mem_cons.2 ⟨h,h2⟩
theorem xk {l c:Int} {r:List Sexpr} (h:WrdP s) (h2:∀ j∈r,XOk j):∀ j∈Sexpr.mk 1 0 l c s []::r,XOk j:=xc (xw (YiC h)) h2
theorem Yoa:Xm XV=YM []:=by
 rw [Yjm];have h1:¬kAnd=kAtom:=by decide
 have h2:¬kAnd=kSame:=by decide
 have h3:¬CmpOp kAnd:=by unfold CmpOp;decide
 have h4:¬(kAnd=kForall\/kAnd=YaA):=by decide
 simp [XV,Formula.op,Formula.kids,h1,h2,h3,h4]
theorem fok_true:FOk XV:=by
 have h1:¬kAnd=kAtom:=by decide
 have h2:¬kAnd=kSame:=by decide
 have h3:¬CmpOp kAnd:=by unfold CmpOp;decide
 have o:XV.op=kAnd:=rfl;refine WV.2 ⟨⟨⟨fun h=>absurd h h1,fun h=>absurd h h2,fun h=>absurd h (by rw [o];decide)⟩,⟨(0,false,0),?_,fun _ _=>⟨rfl,rfl⟩,rfl,rfl,fun _=>rfl⟩,nilP⟩,nilP,nilP⟩;rw [Yes,o,if_neg Zh,if_neg h3,if_pos (.inl rfl)];rfl
theorem Yp5:FVal XV:=⟨fok_true,by rw [Yoa];exact ⟨xl rfl nilP,by decide,by decide⟩⟩
theorem sD_ok:Ycq sD:=⟨nD,nilP,nilP,nilP,nilP,nilP,nilP⟩
theorem sP_ok:YbJ sP:=⟨nP,nD,nilP,nilP,nilP⟩
theorem domX_s:domX sD=YM [Yp Xg,YM [Yp Wo,Yp bD]]:=by
 simp [domX,sD,grp,Yap]
theorem Yo8:XVal (domX sD):=by
 rw [domX_s];exact ⟨xl rfl (xk (by decide+kernel) (xc (xl rfl (xk (by decide+kernel) (xk (by decide+kernel) nilP))) nilP)),by decide,by decide⟩
theorem prbX_s:prbX sP=YM [Yp Xg,YM [Yp XU,Yp bP],YM [Yp Xk,Yp bD]]:=by
 simp [prbX,sP,grp,Yap,Yn8,XV,Formula.op,Formula.kids]
theorem sP_val:XVal (prbX sP):=by
 rw [prbX_s];exact ⟨xl rfl (xk (by decide+kernel) (xc (xl rfl (xk (by decide+kernel) (xk (by decide+kernel) nilP))) (xc (xl rfl (xk (by decide+kernel) (xk (by decide+kernel) nilP))) nilP))),by decide,by decide⟩
theorem s_tw:¬TwP [] (parN []):=fun ⟨k,x,h,_⟩=>by simp [parN] at h
theorem s_ex:ExP [] []:=nilP
theorem s_names:Yar sD []=none:=by simp [Yar,Yb1,Ybx,YeT,sD,repM]
theorem s_true:formM sD [] [] XV=0:=by
 have h4:¬(Ylo kAnd):=by unfold Ylo;decide
 rw [Yjn,if_neg Zh,if_neg (by show ¬ownM sD [] [] kAnd [] []≠0;rw [ownM,if_neg Zh,if_neg h4];decide)];rw [if_neg (by show ¬exprML sD [] _ []≠0;rw [exprML];decide)];show formML sD [] _ []=0;rw [formML]
theorem s_long:¬LongP XV:=by rw [Ygu];simp [XV,Formula.params,Formula.kids]
theorem s_chk:(Yak sD sP).2=0:=by
 have ho:Yaq sD sP=[]:=rfl;have hl:¬YcL sD sP []:=by
  simp [YcL,sD,sP,s_long]
 have hn:newM sD.types=0:=by
  show newM []=0;rw [newM,if_neg s_tw];simp
 have h0:(Wi sD [] sP 0).2=0:=by simp [Wi,s_names]
 have h1:(Wi sD [] sP 1).2=0:=by simp [Wi,Yby,sD,Xn]
 have h2:(Wi sD [] sP 2).2=0:=by simp [Wi,Yby,sD,Xn,s_ex]
 have h3:(Wi sD [] sP 3).2=0:=rfl;have h4:(Wi sD [] sP 4).2=0:=by simp [Wi,numsL,sD,Xn]
 have h5:(Wi sD [] sP 5).2=0:=by
  show (Xn idN (YaL sD [])).2=0;have:YaL sD []=[]:=by simp [YaL,sD]
  rw [this];rfl
 have h6:(Wi sD [] sP 6).2=0:=by simp [Wi,WQ,sD,sP,YbA,YeF]
 have h7:(Wi sD [] sP 7).2=0:=by
  have e:(if sD.duratives=[] then formM sD [] [] sP.goal else Ybr sD [] [] sP.goal)=0:=by rw [if_pos (show sD.duratives=[] from rfl)];exact s_true
  simp only [Wi,Yh0,e,ne_eq,not_true_eq_false,if_false]
 rw [Yak,ho,if_neg (fun h=>h ⟨sD_ok,Yo8⟩),if_neg (fun h=>h ⟨Yp5,sP_ok,sP_val⟩),if_neg hl,if_neg (fun h=>h hn)];simp only [Yef,h0,h1,h2,h3,h4,h5,h6,h7,if_true,Nat.zero_add,Nat.reduceAdd]
theorem Ybm {t:Bs} {f a e:Nat} {b:UInt8} {e0:Lev} {st:List Lev} (hk:Wv false t a=k) (hb:t[k]?=some b) (h1:b≠40) (h2:b≠41) (he:tokE t k=e) (hs:t.extract k e=s) (hw:Yor s) (hn:n<4096):
 Ydv t (f+1) a n (e0::st)=Ydv t f e (n+1) (e0.add (.mk 1 0 (posA t k).1 (posA t k).2 s [])::st):=by
 have hl:k<t.size:=by
  rcases Nat.lt_or_ge k t.size with h | h
  ·exact h
  rw [getElem?_neg t k Zi] at hb;cases hb
 rw [YbM,hk,if_neg Zi];unfold Yd9;rw [hb];simp only [if_neg h1,if_neg h2];rw [tokM,he,hs,tok_word hw];simp only;rw [if_neg Zi];rfl
instance {b:UInt8}:Decidable (StopP b):=inferInstanceAs (Decidable (_\/_))
def tokC:List UInt8->Nat
 | []=>0
 | b::r=>if StopP b then 0 else 1+tokC r
theorem tok_c:∀ (l:List UInt8),tokL l=tokC l
 | []=>rfl
 | b::r=>by
  rw [tokL,tokC,tok_c r];by_cases h:StopP b
  ·rw [if_pos h,if_pos h]
  rw [if_neg h,if_neg h]
theorem YfY {t:Bs} {e:Nat} (h:k+tokC (t.data.toList.drop k)=e):tokE t k=e:=by
 rw [tokE,tok_c];exact h
theorem Ydm {t:Bs} {b:UInt8} (h:t.data.toList[k]?=some b):t[k]?=some b:=by
 have hl:k<t.size:=by
  rcases Nat.lt_or_ge k t.size with h1 | h1
  ·exact h1
  rw [List.getElem?_eq_none (by rw [YbG];exact h1)] at h;cases h
 rw [Yjg hl] at h;rw [getElem?_pos t k hl];exact h
def wE (l c:Int) (s:Bs):Sexpr:=.mk 1 0 l c s []
def lE (l c:Int) (ks:List Sexpr):Sexpr:=.mk 3 0 l c ⟨#[]⟩ ks
def xTD:Sexpr:=lE 1 1 [wE 1 2 Xg,lE 1 9 [wE 1 10 Wo,wE 1 17 bD]]
theorem prd_D:prdM kTxD=.ok xTD:=by
 have h:Ygb kTxD=.ok [xTD]:=by
  rw [Ygb,if_neg Zh];show Ydv kTxD (19+1) 0 0 _=_;rw [Ydu (k:=0) (by decide+kernel) (Ydm rfl)];rw [Ybm (f:=18) (k:=1) (e:=7) (s:=Xg) (by decide+kernel) (Ydm rfl) Zh Zh (YfY (by decide+kernel)) (by decide+kernel) (YiC (by decide+kernel)) Zh];rw [Ydu (f:=17) (k:=8) (by decide+kernel) (Ydm rfl)];rw [Ybm (f:=16) (k:=9) (e:=15) (s:=Wo) (by decide+kernel) (Ydm rfl) Zh Zh (YfY (by decide+kernel)) (by decide+kernel) (YiC (by decide+kernel)) Zh];rw [Ybm (f:=15) (k:=16) (e:=17) (s:=bD) (by decide+kernel) (Ydm rfl) Zh Zh (YfY (by decide+kernel)) (by decide+kernel) (YiC (by decide+kernel)) Zh];rw [Ycy (f:=14) (k:=17) (by decide+kernel) (Ydm rfl)];rw [Ycy (f:=13) (k:=18) (by decide+kernel) (Ydm rfl)];rw [YmU (f:=12) (by decide+kernel)];rfl
 rw [prdM,h]
def xTP:Sexpr:=lE 1 1 [wE 1 2 Xg,lE 1 9 [wE 1 10 XU,wE 1 18 bP],lE 1 21 [wE 1 22 Xk,wE 1 30 bD]]
theorem prd_P:prdM kTxP=.ok xTP:=by
 have h:Ygb kTxP=.ok [xTP]:=by
  rw [Ygb,if_neg Zh];show Ydv kTxP (32+1) 0 0 _=_;rw [Ydu (k:=0) (by decide+kernel) (Ydm rfl)];rw [Ybm (f:=31) (k:=1) (e:=7) (s:=Xg) (by decide+kernel) (Ydm rfl) Zh Zh (YfY (by decide+kernel)) (by decide+kernel) (YiC (by decide+kernel)) Zh];rw [Ydu (f:=30) (k:=8) (by decide+kernel) (Ydm rfl)];rw [Ybm (f:=29) (k:=9) (e:=16) (s:=XU) (by decide+kernel) (Ydm rfl) Zh Zh (YfY (by decide+kernel)) (by decide+kernel) (YiC (by decide+kernel)) Zh];rw [Ybm (f:=28) (k:=17) (e:=18) (s:=bP) (by decide+kernel) (Ydm rfl) Zh Zh (YfY (by decide+kernel)) (by decide+kernel) (YiC (by decide+kernel)) Zh];rw [Ycy (f:=27) (k:=18) (by decide+kernel) (Ydm rfl)];rw [Ydu (f:=26) (k:=20) (by decide+kernel) (Ydm rfl)];rw [Ybm (f:=25) (k:=21) (e:=28) (s:=Xk) (by decide+kernel) (Ydm rfl) Zh Zh (YfY (by decide+kernel)) (by decide+kernel) (YiC (by decide+kernel)) Zh];rw [Ybm (f:=24) (k:=29) (e:=30) (s:=bD) (by decide+kernel) (Ydm rfl) Zh Zh (YfY (by decide+kernel)) (by decide+kernel) (YiC (by decide+kernel)) Zh];rw [Ycy (f:=23) (k:=30) (by decide+kernel) (Ydm rfl)];rw [Ycy (f:=22) (k:=31) (by decide+kernel) (Ydm rfl)];rw [YmU (f:=21) (by decide+kernel)];rfl
 rw [prdM,h]
theorem xTD_val:XVal xTD:=⟨xl rfl (xk (by decide+kernel) (xc (xl rfl (xk (by decide+kernel) (xk (by decide+kernel) nilP))) nilP)),by decide,by decide⟩
theorem xTP_val:XVal xTP:=⟨xl rfl (xk (by decide+kernel) (xc (xl rfl (xk (by decide+kernel) (xk (by decide+kernel) nilP))) (xc (xl rfl (xk (by decide+kernel) (xk (by decide+kernel) nilP))) nilP))),by decide,by decide⟩
theorem YkR {l c l2 c2:Int} {w:Bs} {r:List Sexpr}:XP (lE l c (wE l2 c2 w::r))=some (w,r):=by
 unfold XP lE wE;simp [Sexpr.kids,Sexpr.kind,Sexpr.text]
theorem dParse_D:Ydk xTD=.ok sD:=by
 have hp:dPar xTD=.ok sD:=by
  have ht:titM (lE 1 9 [wE 1 10 Wo,wE 1 17 bD])=.ok bD:=by
   rw [titM,YkR];simp only;rw [if_pos ⟨trivial,rfl⟩,if_pos (show Xc (wE 1 17 bD).text from nD)];rfl
  rw [dPar,xTD,YkR];simp only [if_true];rw [ht];rfl
 rw [Ydk,if_pos xTD_val,hp];simp only;rw [if_pos ⟨sD_ok,Yo8⟩]
theorem pParse_P:Yee xTP=.ok sP:=by
 have hp:pPar xTP=.ok sP:=by
  have h1:nmdM XU (lE 1 9 [wE 1 10 XU,wE 1 18 bP])=.ok bP:=by
   rw [nmdM,YkR];simp only;rw [if_pos ⟨trivial,rfl⟩,if_pos (show Xc (wE 1 18 bP).text from nP)];rfl
  have h2:nmdM Xk (lE 1 21 [wE 1 22 Xk,wE 1 30 bD])=.ok bD:=by
   rw [nmdM,YkR];simp only;rw [if_pos ⟨trivial,rfl⟩,if_pos (show Xc (wE 1 30 bD).text from nD)];rfl
  rw [pPar,xTP,YkR];simp only [if_true];rw [h1];simp only;rw [h2];rfl
 rw [Yee,if_pos xTP_val,hp];simp only;rw [if_pos ⟨Yp5,sP_ok,sP_val⟩]
theorem load_DP:loadM kTxD kTxP=.ok (sD,sP):=by
 rw [loadM,prd_D];simp only;rw [dParse_D];simp only;rw [prd_P];simp only;rw [pParse_P];simp only;rw [if_pos s_chk]
theorem sD_R:DomainR fz sD Zn Zn Zn Zn Zn Zn:=
 ⟨by unfold Short sD bD;decide,IsSl.nil,IsSl.nil,IsSl.nil,IsSl.nil,IsSl.nil,IsSl.nil⟩
theorem sD_sm:DomSm sD:=⟨by decide,by decide,by decide,nilP,by decide,nilP,by decide,nilP,by decide,nilP⟩
theorem lay_s:lay 80 (domX sD) 0++ [10]=[40,100,101,102,105,110,101,32,40,100,111,109,97,105,110,32,100,41,41,10]:=by
 rw [domX_s,Ygv (.inr (.inr Zh))];rfl
end Go.Proofs.YtiligkgjcmokbaaGreatDoor
namespace Go.Proofs.YtiligkgjcmokbaaGreatDoor
variable {fz:FZ}
theorem YqU (hT:TabF fz) (hX:MaxF fz):QFn prog 5 [] fz (Zo true):=by
 have hpd:=pdom_q (fz:=fz) sD_R sD_sm hT;have hP:Ycq sD/\XVal (domX sD):=⟨sD_ok,Yo8⟩;rw [Ykq,if_pos hP,if_pos hP,lay_s,show errV 0=.nilIface from rfl] at hpd;refine qF Tryz.func5 Tryz.ntmps5 (fun w0=>?_);refine wc hpd ?_;refine wK (q:=load_f (a:=kTxD) (b:=kTxP) hT hX) (h:=fun r1 fz1 H1 hle1 hR1=>?_);obtain ⟨rfl,hR1⟩:=hR1;rw [load_DP] at hR1;obtain ⟨d,p,cd1,cp1,pl1,hd1,hp1,rfl,rfl,rfl⟩:=hR1;rw [List.nil_append];obtain ⟨v1,v2,v3,v4,v5,v6,rfl,hD1⟩:=Yf7 hd1;obtain ⟨w1,w2,w3,w4,w5,w6,w7,rfl,hP1⟩:=YcX hp1;have hD1':=hD1;have hP1':=hP1;obtain ⟨⟨aD0,ad0,az0,rfl,_⟩,⟨aD1,ad1,az1,rfl,_⟩,⟨aD2,ad2,az2,rfl,_⟩,⟨aD3,ad3,az3,rfl,_⟩,⟨aD4,ad4,az4,rfl,_⟩,⟨aD5,ad5,az5,rfl,_⟩⟩:=hD1.sls;obtain ⟨⟨aP0,ap0,ay0,rfl,_⟩,⟨aP1,ap1,ay1,rfl,_⟩,⟨aP2,ap2,ay2,rfl,_⟩⟩:=hP1.sls;obtain ⟨⟨aP3,ap3,ay3,rfl,_⟩,⟨aP4,ap4,ay4,rfl,_⟩,⟨aP5,ap5,ay5,rfl,_⟩,⟨aP6,ap6,ay6,rfl,_⟩⟩:=hP1.goal.sls;refine zW ?_;intros;refine zC ?_ ?_<;>intro e1;rotate_left 1
 ·exact absurd rfl e1
 refine wC ?_ ?_<;>intro e2;rotate_left 1
 ·exact absurd rfl e2
 refine wC ?_ ?_<;>intro e3;rotate_left 1
 ·exact absurd rfl e3
 refine wC ?_ ?_<;>intro e4;rotate_left 1
 ·exact absurd rfl e4
 exact wR (h:=rfl)
end Go.Proofs.YtiligkgjcmokbaaGreatDoor
namespace Go.Lx
open Go.RowKit Go.ChangeShapes Go.WideShapes Go.Deep
theorem YpN {α:Type} {p:Nat->α->Prop}:∀ {n:Nat},(∀ i,i<n->∃ d,p i d)->∃ ds:List α,ds.length=n/\∀ i d,ds[i]?=some d->p i d
 | 0,_=>⟨[],rfl,by simp⟩
 | n+1,h=>by
  obtain ⟨ds,h1,h2⟩:=YpN (n:=n) (fun i hi=>h i Zi);obtain ⟨d,hd⟩:=h n Zi;refine ⟨ds++ [d],by simp [h1],fun i e he=>?_⟩;by_cases hi:i<ds.length
  ·rw [List.getElem?_append_left hi] at he;exact h2 i e he
  have hl:=(Zg he).1;simp at hl;have:i=n:=by omega
  subst this;rw [List.getElem?_append_right Zi,h1] at he;simp at he;subst he;exact hd
section
variable {H:Type} {enc:TypeId × Value->H} {P:Program} {w:World} {base:Nat} {spare:Nat->Bool} {held:Bool}
variable {α:Type} {fz:FZ} {L:Lay α}
theorem Wk {xs:List α} {v:Value} (h:(slL L).rep fz xs [v]):IsSl L fz v xs:=by
 obtain ⟨A,n,c,e,hs⟩:=h;injection e with e
 exact ⟨A,n,c,e,hs⟩
variable {s:Bs}
theorem YbS {v:Value} (h:strL.rep fz s [v]):v=.string s/\Short s:=by
 obtain ⟨e,hs⟩:=h;injection e with e
 exact ⟨e,hs⟩
theorem Yg8 {n:Int} {v:Value} (h:intL.rep fz n [v]):v=Zk n/\I64 n:=by
 obtain ⟨e,hs⟩:=h;injection e with e
 exact ⟨e,hs⟩
end
end Go.Lx
