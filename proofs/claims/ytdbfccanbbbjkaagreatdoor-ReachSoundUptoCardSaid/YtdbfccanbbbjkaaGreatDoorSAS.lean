/- The texts QX, QZ, QLn, QAt, QIn, UP, UK, laid together. Conditions: none. -/
import Derived.Test.YtdbfccanbbbjkaaGreatDoorSAR
set_option linter.all false
set_option maxHeartbeats 32000000
noncomputable section
set_option maxRecDepth 20000
namespace Go.Lx
section
attribute [local instance] Classical.propDecidable
def cntH (x:Nat × Obj) (l:HP):Nat:=List.count x l
theorem Ye3 (x:Nat × Obj):cntH x []=0:=by unfold cntH;exact List.count_nil
theorem WK (x:Nat × Obj) (l l':HP):cntH x (l++l')=cntH x l+cntH x l':=by unfold cntH;exact List.count_append
def cntA (x a:Nat × Obj):Nat:=cntH x [a]
theorem YcC (x a:Nat × Obj) (l:HP):cntH x (a::l)=cntA x a+cntH x l:=by
 unfold cntA;rw [<- WK];rfl
theorem Ya6 {l l':HP} (h:∀ x,cntH x l=cntH x l'):l.Perm l':=List.perm_iff_count.2 h
end
theorem Yai {A B X:HP}:(A++(B++X)).Perm ((A++X)++B):=Ya6 fun x=>by simp only [WK];omega
theorem permFz {a b:Nat × Obj} {B D R Q:HP}:(a::b::(B++(D++(R++Q)))).Perm ((b::(R++Q))++(a::(B++D))):=Ya6 fun x=>by simp only [YcC,WK];omega
theorem Yah {A B D X:HP}:(A++(B++(D++X))).Perm ((A++(B++X))++D):=Ya6 fun x=>by simp only [WK];omega
theorem fin0 {rb jb rd jd s g m:Nat × Obj} {B D RB RD:HP}:(jb::jd::s::g::m::(B++(D++((RB++ [rb])++(RD++ [rd]))))).Perm (jd::rd::jb::rb::s::g::m::(B++(D++(RB++RD)))):=Ya6 fun x=>by simp only [YcC,WK,Ye3];omega
theorem fin1 {rb jb rd jd s g m:Nat × Obj} {B D RB RD:HP}:(jb::jd::s::g::m::(B++(D++((RB++ [rb])++(RD++ [rd]))))).Perm (jd::jb::rd::rb::s::g::m::(B++(D++(RB++RD)))):=Ya6 fun x=>by simp only [YcC,WK,Ye3];omega
theorem fin2 {rb jb rd jd s g m:Nat × Obj} {B D RB RD:HP}:(jb::jd::s::g::m::(B++(D++((RB++ [rb])++(RD++ [rd]))))).Perm (jb::jd::rd::rb::s::g::m::(B++(D++(RB++RD)))):=Ya6 fun x=>by simp only [YcC,WK,Ye3];omega
theorem fin3 {rb jb rd jd s g m:Nat × Obj} {B D RB RD:HP}:(jb::jd::s::g::m::(B++(D++((RB++ [rb])++(RD++ [rd]))))).Perm (jd::jb::rb::rd::s::g::m::(B++(D++(RB++RD)))):=Ya6 fun x=>by simp only [YcC,WK,Ye3];omega
theorem fin4 {rb jb rd jd s g m:Nat × Obj} {B D RB RD:HP}:(jb::jd::s::g::m::(B++(D++((RB++ [rb])++(RD++ [rd]))))).Perm (jb::jd::rb::rd::s::g::m::(B++(D++(RB++RD)))):=Ya6 fun x=>by simp only [YcC,WK,Ye3];omega
theorem fin5 {rb jb rd jd s g m:Nat × Obj} {B D RB RD:HP}:(jb::jd::s::g::m::(B++(D++((RB++ [rb])++(RD++ [rd]))))).Perm (jb::rb::jd::rd::s::g::m::(B++(D++(RB++RD)))):=Ya6 fun x=>by simp only [YcC,WK,Ye3];omega
end Go.Lx
namespace Go.Proofs.YtdbfccanbbbjkaaGreatDoor
open Go.Lx Go.RowKit
attribute [local instance 10] Classical.propDecidable
open Go.Proofs.Tryz (prog)
variable {α:Type} {H:HP} {g n i j k:Nat} {K:Kn} {d:Domain} {S:List Atom} {fz:FZ} {m:List (Bs × Value)} {v u1 u2 u3 u4 u5 u6 u7 v1 v2 v3 v4 v5 v6 va:Value} {a:Atom} {p:Problem} {cs:List Value} {M:Mn} {t:TypeId} {l:List α} {L:Lay α}
theorem Yhy:∀ n:Nat,repZ [Value.bool false] n=(List.replicate n false).map Value.bool
 | 0=>rfl
 | n+1=>by rw [repZ,Yhy n,List.replicate_succ];rfl
theorem Ycs:(rowO g (List.replicate n false)::H).Perm ((g,.cells (repZ [Value.bool false] n).toArray 4 (0,0))::H):=by
 unfold rowO;rw [<- Yhy]
def exN0 (l:List Schema):List (List Bool):=l.map fun s=>List.replicate s.arguments.length false
theorem Yef (l:List Schema):FitR l (exN0 l):=by
 refine ⟨by unfold exN0;rw [List.length_map],fun i s b hs hb=>?_⟩;unfold exN0 at hb;rw [List.getElem?_map,hs] at hb;injection hb with hb
 subst hb;rw [List.length_replicate]
theorem Ym8 {gs:List Nat} {B:List (List Bool)} {b:List Bool} (h:gs.length=B.length):rowsO (gs++ [g]) (B++ [b])=rowsO gs B++ [rowO g b]:=by
 unfold rowsO;rw [List.zipWith_append h];rfl
def expM (K:Kn) (d:Domain) (S0:List Atom):RndS:=exM K (schL K d) S0 (exN0 (schL K d)) (exN0 (schL K d))
def expE (K:Kn) (d:Domain) (S0:List Atom):Int:=if schE K d≠0 then schE K d else if 4096<(expM K d S0).S.length then 5 else 0
structure ReachedR (fz:FZ) (v:Value) (K:Kn) (d:Domain) (S0:List Atom):Prop where
 ex:∃ (gr gs:Nat) (vk:Value) (As Ad:Option Addr) (n cS cd:Nat) (vb:Value) (m:List (Bs × Value)) (gD:List Nat),v=Zp gr/\
  fz gr=some (Zu #[vk,Zc As n cS,.map (some gs),vb,Zc Ad n cd] 73)/\fz gs=some (mapS m)/\SetM fz m (expM K d S0).S/\Sl schemaL fz As n cS (schL K d)/\
  Sl rowL fz Ad n cd (gD.zip ((schL K d).map fun s=>s.arguments.length))/\gD.length=n/\∀ p∈rowsO gD (expM K d S0).D,fz p.1=some p.2
def Yjg (S0 L:List Atom):Prop:=S0.Nodup/\∀ a,a∈S0↔a∈L
theorem YeA {α:Type} {f:α->Nat}:∀ {l:List α} {x:α},x∈l->f x<=(l.map f).sum
 | [],x,h=>by cases h
 | y::l,x,h=>by
  rcases List.mem_cons.1 h with rfl | h
  ·simp
  have:=YeA (f:=f) h;simp only [List.map_cons,List.sum_cons];omega
theorem Yoq (hE:schE K d=0) {s:Schema} (hs:s∈schL K d):s.arguments.length<=4096:=by
 have h1:=YeA (f:=fun s:Schema=>s.arguments.length) hs;have h2:¬4096<Ybz (schL K d):=fun h=>by rw [schE,if_pos h] at hE;cases hE
 unfold Ybz at h2;omega
theorem SetM.nodup (h:SetM fz m S):S.Nodup:=by
 unfold List.Nodup;rw [List.pairwise_iff_getElem];intro i j hi hj hij he;obtain ⟨_,va,h1,_⟩:=h.2.2 i S[i] (List.getElem?_eq_getElem hi);obtain ⟨_,vb,h2,_⟩:=h.2.2 j S[j] (List.getElem?_eq_getElem hj);have hk:=h.1;unfold KeyN List.Nodup at hk;rw [List.pairwise_iff_getElem] at hk;have hl:=h.2.1;refine hk i j (by rw [List.length_map];omega) (by rw [List.length_map];omega) hij ?_;obtain ⟨_,e1⟩:=Zg h1;obtain ⟨_,e2⟩:=Zg h2;rw [List.getElem_map,List.getElem_map,e1,e2,he]
theorem Yks (hKD:KnD fz v K d) (hS:SchS K d) (hOs:∀ o∈K.os,PlnS o.name) (hSh:schE K d=0->∀ s∈schL K d,SSh s):
 GFn prog 14 [v] fz [] (fun r fz' H'=>H'=[]/\∃ S0,Yjg S0 K.init/\∃ vr,r=.tuple #[vr,errV (expE K d S0)]/\(expE K d S0=0->ReachedR fz' vr K d S0)):=by
 have hK0:=hKD.k;obtain ⟨⟨gk,a0,a1,a2,a3,a4,a5,a6,a7,a8,a9,a10,a11,a12,a13,a14,a15,a16,a17,vf,Ao,no,co,gc,gi,mc,mi,rfl,hg,hF,hO,h5,h6,h7,h8⟩,hw,hmany⟩:=hKD.k;refine zF Tryz.func14 Tryz.ntmps14 (fun w0=>?_);refine zW ?_;refine Yc (Yj [] [] Zz (Yop hKD hS) (fun v1 fz1 H1 hle1 hR1=>?_));obtain ⟨rfl,vs,rfl,hok,hbad⟩:=hR1;by_cases hE:schE K d=0;rotate_left 1
 ·rw [YA hE,hbad hE];exact wS (h:=by exact ⟨rfl,K.init,⟨h8.nodup,fun _=>Iff.rfl⟩,_,by rw [expE,if_pos hE,YA hE];rfl,fun h=>absurd h (by rw [expE,if_pos hE];exact hE)⟩)
 rw [hE,show errV 0=.nilIface from rfl];obtain ⟨As,n,cS,rfl,hl⟩:=hok hE;have ll:=hl.len;have sl:=hl.short;have hnn:n<=4000000:=by
  have h1:=hS.na;have h2:=hS.nd;have:(schL K d).length=d.actions.length+d.duratives.length:=by unfold schL schB;rw [List.length_map,List.length_append,List.length_map,List.length_map]
  omega
 have hg1:=hle1 _ _ hg;have h71:=hle1 _ _ h7;have h81:=h8.mono hle1;refine zW ?_;refine Yc (Xt (fun gs=>?_));refine zW ?_;intros;rename_i gr;refine Yc (Ygu h71 (fun gi2=>?_));refine zW ?_;refine Yl (fun q σ fz' H'=>∃ (seen:List Nat) (m:List (Bs × Value)) (S:List Atom),q=(List.range mi.length).countP (fun i=>!seen.contains i)/\σ=[(28,Zp gi2),(6,Zp gr),(4,Zc As n cS)]/\Le fz1 fz'/\H'=[(gi2,Yb8 gi mi.length seen),(gr,Zu #[Zp gk,Zc As n cS,.map (some gs),Zn,Zn] 73),(gs,mapS m)]/\SetM fz' m S/\S.Nodup/\(∀ a∈S,a∈K.init)/\∀ i∈seen,∀ a,K.init[i]?=some a->a∈S)
  ⟨[],[],[],rfl,rfl,Zd,rfl,SetM.nil,List.nodup_nil,by simp,by simp⟩ Zw Zb ?_
 rintro q σ fz2 H' ⟨seen,m2,S2,rfl,rfl,hle2,rfl,hS2,hnd2,hin2,hall2⟩;have h72:=hle2 _ _ h71;have h82:=h81.mono hle2;refine zW ?_;refine Yc (YiB Zz h72 (fun hall=>?_) (fun i p hp hi=>?_));rotate_left 1
 ·obtain ⟨a,ha⟩:=Ye (l:=K.init) (k:=i) (by have:=(Zg hp).1;rw [h82.2.1] at this;exact this);obtain ⟨haok,va,hpa,hRa⟩:=h82.2.2 i a ha;rw [hp] at hpa;injection hpa with hpa
  subst hpa;obtain ⟨Aa,na,ca,rfl,_⟩:=id hRa.args;refine wG ?_;refine Ygc 0 h72 hp ?_;refine zWN ?_;intros;refine Y0 [_,_,_] ?_;refine zW ?_;refine pU ?_;refine Yf (Does.perm (H':=[(gs,mapS m2),_,_,_]) (Zq (l₁:=[_]) (l₂:=[_,_,_])) (Does.after (Yj [_] [_,_,_] Zz (add_f hS2 hRa haok) (fun v5 fz5 H5 hle5 hR5=>?_))));obtain ⟨rfl,rfl,m5,rfl,hS5⟩:=hR5;refine ⟨_,Zq (l₁:=[_,_,_]) (l₂:=[_]),⟨Zd,Zx⟩,?_⟩;refine Ch.done ?_;refine zW ?_;refine Ww ⟨seen++ [i],m5,_,rfl,rfl,hle2,rfl,hS5,?_,?_,?_⟩ ?_ Zw Zb
  ·split
   ·exact hnd2
   rename_i hna;exact List.nodup_append.2 ⟨hnd2,by simp,fun x hx y hy hxy=>by simp at hy;subst hy;subst hxy;exact hna hx⟩
  ·intro b hb;split at hb
   ·exact hin2 b hb
   rcases List.mem_append.1 hb with hb | hb
   ·exact hin2 b hb
   simp at hb;subst hb;exact Zm ha
  ·intro j hj b hb;rcases List.mem_append.1 hj with hj | hj
   ·have:=hall2 j hj b hb;split
    ·exact this
    simp [this]
   simp at hj;subst hj;rw [ha] at hb;injection hb with hb
   subst hb;split
   ·assumption
   simp
  exact Yc3 _ i (by rw [List.mem_range];exact (Zg hp).1) (fun j hj=>by simp at hj ⊢;exact fun h=>hj.1 h) (by simpa using hi) (by simp)
 have hset:Yjg S2 K.init:=⟨hnd2,fun a=>⟨hin2 a,fun ha=>by
  obtain ⟨i,hi⟩:=List.getElem?_of_mem ha;exact hall2 i (hall i (by have:=(Zg hi).1;rw [h82.2.1];exact this)) a hi⟩⟩
 have hx2:=hle1.trans hle2;refine zW ?_;refine Yl (fun q σ fz' H'=>∃ (k:Nat) (vb vd:Value) (gB gD:List Nat) (Hb Hd:HP),k<=n/\q=n - k/\σ=[(41,Zk k),(40,Zk n),(39,Zc As n cS),(6,Zp gr)]/\fz2=fz'/\H'=(gr,Zu #[Zp gk,Zc As n cS,.map (some gs),vb,vd] 73)::(gs,mapS m2)::(Hb++(Hd++(rowsO gB (exN0 ((schL K d).take k))++rowsO gD (exN0 ((schL K d).take k)))))/\gB.length=k/\gD.length=k/\Grow rowL 79 fz' vb k Hb (gB.zip (((schL K d).take k).map fun s=>s.arguments.length))/\Grow rowL 79 fz' vd k Hd (gD.zip (((schL K d).take k).map fun s=>s.arguments.length)))
  ⟨0,_,_,[],[],[],[],Z0 _,rfl,rfl,rfl,rfl,rfl,rfl,Grow.nil _ _ _,Grow.nil _ _ _⟩ Zw Zb ?_
 rintro q σ fz' H' ⟨k,vb,vd,gB,gD,Hb,Hd,hk,rfl,rfl,rfl,rfl,lgB,lgD,hGb,hGd⟩;obtain ⟨Ab,cb,rfl,_,_⟩:=hGb.form;obtain ⟨Ad,cd,rfl,_,_⟩:=hGd.form;refine wC ?_ ?_<;>intro c1
 ·obtain ⟨s,hs⟩:=Ye (l:=schL K d) (k:=k) Zi;have hmany4:=Yoq hE (Zm hs);refine wI (hl.mono hle2) hs (fun pp1 hp1=>?_);refine zL hp1 ?_;intro cs hcs;obtain ⟨u0,u1,u2,u3,u4,u5,u6,u7,u8,u9,u10,u11,u12,u13,u14,u15,u16,u17,u18,u19,rfl,hR⟩:=Yag hcs;obtain ⟨P0,p0,q0,rfl,_⟩:=id hR.params;obtain ⟨⟨P1,p1,q1,rfl,_⟩,⟨P2,p2,q2,rfl,_⟩,⟨P3,p3,q3,rfl,_⟩,⟨P4,p4,q4,rfl,_⟩⟩:=id hR.start.sls;obtain ⟨⟨P5,p5,q5,rfl,_⟩,⟨P6,p6,q6,rfl,_⟩,⟨P7,p7,q7,rfl,_⟩,⟨P8,p8,q8,rfl,_⟩⟩:=id hR.all.sls;obtain ⟨⟨P9,p9,q9,rfl,_⟩,⟨P10,p10,q10,rfl,_⟩,⟨P11,p11,q11,rfl,_⟩,⟨P12,p12,q12,rfl,_⟩⟩:=id hR.over.sls;obtain ⟨⟨P13,p13,q13,rfl,_⟩,⟨P14,p14,q14,rfl,_⟩,⟨P15,p15,q15,rfl,_⟩,⟨P16,p16,q16,rfl,_⟩⟩:=id hR.fin.sls;obtain ⟨P17,p17,q17,rfl,_⟩:=id hR.early;obtain ⟨P18,p18,q18,rfl,_⟩:=id hR.late;obtain ⟨P19,p19,q19,rfl,iar⟩:=id hR.arguments;have lar:=iar.len;have eT:(schL K d).take (k+1)=(schL K d).take k++ [s]:=by rw [List.take_add_one,hs];rfl
  have eZ:∀ (g:List Nat) (x:Nat),g.length=k->(g++ [x]).zip (((schL K d).take (k+1)).map fun s=>s.arguments.length)=g.zip (((schL K d).take k).map fun s=>s.arguments.length)++ [(x,p19)]:=fun g x hg=>by
   rw [eT,List.map_append,List.zip_append (by rw [List.length_map,List.length_take];omega),<- lar];rfl
  have eR:∀ (g:List Nat) (x:Nat),g.length=k->rowsO (g++ [x]) (exN0 ((schL K d).take (k+1)))=rowsO g (exN0 ((schL K d).take k))++ [rowO x (List.replicate p19 false)]:=fun g x hg=>by
   unfold exN0;rw [eT,List.map_append,List.map_cons,List.map_nil,lar];exact Ym8 (by rw [List.length_map,List.length_take];omega)
  refine zWN ?_;intros;refine Yam [1,25,26] [_,_] ?_;refine zW ?_;refine PK.p Zz (fun fz'=>by first | exact WA rfl | exact W8 Zz rfl | exact Xr rfl | exact YeL Zz Zz (Xk Zi) rfl | exact XA rfl) ?_;refine zW ?_;refine Ys (Ys (Ys ?_));refine zW ?_;refine Ys (Ys (Ys ?_));refine zW ?_;refine Ys ?_;refine PK.p Zz (fun fz'=>by first | exact WA rfl | exact W8 Zz rfl | exact Xr rfl | exact YeL Zz Zz (Xk Zi) rfl | exact XA rfl) ?_;refine PK.p Zz (fun fz'=>by first | exact WA rfl | exact W8 Zz rfl | exact Xr rfl | exact YeL Zz Zz (Xk Zi) rfl | exact XA rfl) ?_;refine pT ?_;refine Yy ?_ ?_
  ·refine Yd (Does.after (WT (Zs _) (fun rb=>⟨_,Ycs,?_,?_⟩)))
   ·exact ⟨Zd,Zx⟩
   refine Yy ?_ ?_
   ·refine Yd (Yb (cs:=[Zv rb p19 p19]) (fun jb=>⟨⟨Zd,Zx⟩,?_⟩));refine Yy ?_ ?_
    ·refine Yd (Does.after (YC (d:=(rb,p19)) (Yai (A:=[_,_,_,_,_])) hGb row_one (.head _) rfl (fun vb2 Hb2 hOb=>⟨_,Yai (A:=[_,_,_,_,_]),⟨Zd,Zx⟩,?_⟩)));obtain ⟨Ab2,cb2,rfl,_,_⟩:=hOb.form;refine Ya ?_;refine Yd (Does.after (WT (Zs _) (fun rd=>⟨_,Ycs,?_,?_⟩)))
     ·exact ⟨Zd,Zx⟩
     refine Ya ?_;refine Yd (Yb (cs:=[Zv rd p19 p19]) (fun jd=>⟨⟨Zd,Zx⟩,?_⟩));refine Ya ?_;refine Yd (Does.after (YC (d:=(rd,p19)) (Yah (A:=[_,_,_,_,_,_,_])) hGd row_one (.head _) rfl (fun vd2 Hd2 hOd=>⟨_,Yah (A:=[_,_,_,_,_,_,_]),⟨Zd,Zx⟩,?_⟩)));obtain ⟨Ad2,cd2,rfl,_,_⟩:=hOd.form;refine Ya ?_;refine PoS.hard0 (Does.perm (fin0 (B:=Hb2) (D:=Hd2)) (Xj ?_));refine Ya ?_;refine PoS.hard0 (Xj ?_) (hd:=rfl);refine Po.done ?_;exact wP (h:=by exact ⟨k+1,_,_,gB++ [rb],gD++ [rd],Hb2,Hd2,by omega,rfl,rfl,rfl,(by rw [eR gB rb lgB,eR gD rd lgD];try rfl),by rw [List.length_append,lgB];rfl,by rw [List.length_append,lgD];rfl,hOb.of (eZ gB rb lgB).symm rfl,hOd.of (eZ gD rd lgD).symm rfl⟩)
    refine Yd (Does.after (WT (Zs _) (fun rd=>⟨_,Ycs,?_,?_⟩)))
    ·exact ⟨Zd,Zx⟩
    refine Yy ?_ ?_
    ·refine Yd (Does.after (YC (d:=(rb,p19)) (Yai (A:=[_,_,_,_,_,_])) hGb row_one (.tail _ (.head _)) rfl (fun vb2 Hb2 hOb=>⟨_,Yai (A:=[_,_,_,_,_,_]),⟨Zd,Zx⟩,?_⟩)));obtain ⟨Ab2,cb2,rfl,_,_⟩:=hOb.form;refine Ya ?_;refine Yd (Yb (cs:=[Zv rd p19 p19]) (fun jd=>⟨⟨Zd,Zx⟩,?_⟩));refine Ya ?_;refine Yd (Does.after (YC (d:=(rd,p19)) (Yah (A:=[_,_,_,_,_,_,_])) hGd row_one (.head _) rfl (fun vd2 Hd2 hOd=>⟨_,Yah (A:=[_,_,_,_,_,_,_]),⟨Zd,Zx⟩,?_⟩)));obtain ⟨Ad2,cd2,rfl,_,_⟩:=hOd.form;refine Ya ?_;refine PoS.hard0 (Does.perm (fin0 (B:=Hb2) (D:=Hd2)) (Xj ?_));refine Ya ?_;refine PoS.hard0 (Xj ?_) (hd:=rfl);refine Po.done ?_;exact wP (h:=by exact ⟨k+1,_,_,gB++ [rb],gD++ [rd],Hb2,Hd2,by omega,rfl,rfl,rfl,(by rw [eR gB rb lgB,eR gD rd lgD];try rfl),by rw [List.length_append,lgB];rfl,by rw [List.length_append,lgD];rfl,hOb.of (eZ gB rb lgB).symm rfl,hOd.of (eZ gD rd lgD).symm rfl⟩)
    refine Yd (Yb (cs:=[Zv rd p19 p19]) (fun jd=>⟨⟨Zd,Zx⟩,?_⟩));refine Ya ?_;refine Yd (Does.after (YC (d:=(rb,p19)) (Yai (A:=[_,_,_,_,_,_,_])) hGb row_one (.tail _ (.tail _ (.head _))) rfl (fun vb2 Hb2 hOb=>⟨_,Yai (A:=[_,_,_,_,_,_,_]),⟨Zd,Zx⟩,?_⟩)));obtain ⟨Ab2,cb2,rfl,_,_⟩:=hOb.form;refine Ya ?_;refine Yd (Does.after (YC (d:=(rd,p19)) (Yah (A:=[_,_,_,_,_,_,_])) hGd row_one (.head _) rfl (fun vd2 Hd2 hOd=>⟨_,Yah (A:=[_,_,_,_,_,_,_]),⟨Zd,Zx⟩,?_⟩)));obtain ⟨Ad2,cd2,rfl,_,_⟩:=hOd.form;refine Ya ?_;refine PoS.hard0 (Does.perm (fin0 (B:=Hb2) (D:=Hd2)) (Xj ?_));refine Ya ?_;refine PoS.hard0 (Xj ?_) (hd:=rfl);refine Po.done ?_;exact wP (h:=by exact ⟨k+1,_,_,gB++ [rb],gD++ [rd],Hb2,Hd2,by omega,rfl,rfl,rfl,(by rw [eR gB rb lgB,eR gD rd lgD];try rfl),by rw [List.length_append,lgB];rfl,by rw [List.length_append,lgD];rfl,hOb.of (eZ gB rb lgB).symm rfl,hOd.of (eZ gD rd lgD).symm rfl⟩)
   refine Yd (Does.after (WT (Zs _) (fun rd=>⟨_,Ycs,?_,?_⟩)))
   ·exact ⟨Zd,Zx⟩
   refine Yy ?_ ?_
   ·refine Yd (Yb (cs:=[Zv rb p19 p19]) (fun jb=>⟨⟨Zd,Zx⟩,?_⟩));refine Yy ?_ ?_
    ·refine Yd (Does.after (YC (d:=(rb,p19)) (Yai (A:=[_,_,_,_,_,_])) hGb row_one (.head _) rfl (fun vb2 Hb2 hOb=>⟨_,Yai (A:=[_,_,_,_,_,_]),⟨Zd,Zx⟩,?_⟩)));obtain ⟨Ab2,cb2,rfl,_,_⟩:=hOb.form;refine Ya ?_;refine Yd (Yb (cs:=[Zv rd p19 p19]) (fun jd=>⟨⟨Zd,Zx⟩,?_⟩));refine Ya ?_;refine Yd (Does.after (YC (d:=(rd,p19)) (Yah (A:=[_,_,_,_,_,_,_])) hGd row_one (.head _) rfl (fun vd2 Hd2 hOd=>⟨_,Yah (A:=[_,_,_,_,_,_,_]),⟨Zd,Zx⟩,?_⟩)));obtain ⟨Ad2,cd2,rfl,_,_⟩:=hOd.form;refine Ya ?_;refine PoS.hard0 (Does.perm (fin1 (B:=Hb2) (D:=Hd2)) (Xj ?_));refine Ya ?_;refine PoS.hard0 (Xj ?_) (hd:=rfl);refine Po.done ?_;exact wP (h:=by exact ⟨k+1,_,_,gB++ [rb],gD++ [rd],Hb2,Hd2,by omega,rfl,rfl,rfl,(by rw [eR gB rb lgB,eR gD rd lgD];try rfl),by rw [List.length_append,lgB];rfl,by rw [List.length_append,lgD];rfl,hOb.of (eZ gB rb lgB).symm rfl,hOd.of (eZ gD rd lgD).symm rfl⟩)
    refine Yd (Yb (cs:=[Zv rd p19 p19]) (fun jd=>⟨⟨Zd,Zx⟩,?_⟩));refine Ya ?_;refine Yd (Does.after (YC (d:=(rb,p19)) (Yai (A:=[_,_,_,_,_,_,_])) hGb row_one (.tail _ (.head _)) rfl (fun vb2 Hb2 hOb=>⟨_,Yai (A:=[_,_,_,_,_,_,_]),⟨Zd,Zx⟩,?_⟩)));obtain ⟨Ab2,cb2,rfl,_,_⟩:=hOb.form;refine Ya ?_;refine Yd (Does.after (YC (d:=(rd,p19)) (Yah (A:=[_,_,_,_,_,_,_])) hGd row_one (.head _) rfl (fun vd2 Hd2 hOd=>⟨_,Yah (A:=[_,_,_,_,_,_,_]),⟨Zd,Zx⟩,?_⟩)));obtain ⟨Ad2,cd2,rfl,_,_⟩:=hOd.form;refine Ya ?_;refine PoS.hard0 (Does.perm (fin1 (B:=Hb2) (D:=Hd2)) (Xj ?_));refine Ya ?_;refine PoS.hard0 (Xj ?_) (hd:=rfl);refine Po.done ?_;exact wP (h:=by exact ⟨k+1,_,_,gB++ [rb],gD++ [rd],Hb2,Hd2,by omega,rfl,rfl,rfl,(by rw [eR gB rb lgB,eR gD rd lgD];try rfl),by rw [List.length_append,lgB];rfl,by rw [List.length_append,lgD];rfl,hOb.of (eZ gB rb lgB).symm rfl,hOd.of (eZ gD rd lgD).symm rfl⟩)
   refine Yd (Yb (cs:=[Zv rd p19 p19]) (fun jd=>⟨⟨Zd,Zx⟩,?_⟩));refine Ya ?_;refine Yd (Yb (cs:=[Zv rb p19 p19]) (fun jb=>⟨⟨Zd,Zx⟩,?_⟩));refine Ya ?_;refine Yd (Does.after (YC (d:=(rb,p19)) (Yai (A:=[_,_,_,_,_,_,_])) hGb row_one (.head _) rfl (fun vb2 Hb2 hOb=>⟨_,Yai (A:=[_,_,_,_,_,_,_]),⟨Zd,Zx⟩,?_⟩)));obtain ⟨Ab2,cb2,rfl,_,_⟩:=hOb.form;refine Ya ?_;refine Yd (Does.after (YC (d:=(rd,p19)) (Yah (A:=[_,_,_,_,_,_,_])) hGd row_one (.tail _ (.head _)) rfl (fun vd2 Hd2 hOd=>⟨_,Yah (A:=[_,_,_,_,_,_,_]),⟨Zd,Zx⟩,?_⟩)));obtain ⟨Ad2,cd2,rfl,_,_⟩:=hOd.form;refine Ya ?_;refine PoS.hard0 (Does.perm (fin2 (B:=Hb2) (D:=Hd2)) (Xj ?_));refine Ya ?_;refine PoS.hard0 (Xj ?_) (hd:=rfl);refine Po.done ?_;exact wP (h:=by exact ⟨k+1,_,_,gB++ [rb],gD++ [rd],Hb2,Hd2,by omega,rfl,rfl,rfl,(by rw [eR gB rb lgB,eR gD rd lgD];try rfl),by rw [List.length_append,lgB];rfl,by rw [List.length_append,lgD];rfl,hOb.of (eZ gB rb lgB).symm rfl,hOd.of (eZ gD rd lgD).symm rfl⟩)
  refine Yd (Does.after (WT (Zs _) (fun rd=>⟨_,Ycs,?_,?_⟩)))
  ·exact ⟨Zd,Zx⟩
  refine Yy ?_ ?_
  ·refine Yd (Does.after (WT (Zs _) (fun rb=>⟨_,Ycs,?_,?_⟩)))
   ·exact ⟨Zd,Zx⟩
   refine Yy ?_ ?_
   ·refine Yd (Yb (cs:=[Zv rb p19 p19]) (fun jb=>⟨⟨Zd,Zx⟩,?_⟩));refine Yy ?_ ?_
    ·refine Yd (Does.after (YC (d:=(rb,p19)) (Yai (A:=[_,_,_,_,_,_])) hGb row_one (.head _) rfl (fun vb2 Hb2 hOb=>⟨_,Yai (A:=[_,_,_,_,_,_]),⟨Zd,Zx⟩,?_⟩)));obtain ⟨Ab2,cb2,rfl,_,_⟩:=hOb.form;refine Ya ?_;refine Yd (Yb (cs:=[Zv rd p19 p19]) (fun jd=>⟨⟨Zd,Zx⟩,?_⟩));refine Ya ?_;refine Yd (Does.after (YC (d:=(rd,p19)) (Yah (A:=[_,_,_,_,_,_,_])) hGd row_one (.head _) rfl (fun vd2 Hd2 hOd=>⟨_,Yah (A:=[_,_,_,_,_,_,_]),⟨Zd,Zx⟩,?_⟩)));obtain ⟨Ad2,cd2,rfl,_,_⟩:=hOd.form;refine Ya ?_;refine PoS.hard0 (Does.perm (fin3 (B:=Hb2) (D:=Hd2)) (Xj ?_));refine Ya ?_;refine PoS.hard0 (Xj ?_) (hd:=rfl);refine Po.done ?_;exact wP (h:=by exact ⟨k+1,_,_,gB++ [rb],gD++ [rd],Hb2,Hd2,by omega,rfl,rfl,rfl,(by rw [eR gB rb lgB,eR gD rd lgD];try rfl),by rw [List.length_append,lgB];rfl,by rw [List.length_append,lgD];rfl,hOb.of (eZ gB rb lgB).symm rfl,hOd.of (eZ gD rd lgD).symm rfl⟩)
    refine Yd (Yb (cs:=[Zv rd p19 p19]) (fun jd=>⟨⟨Zd,Zx⟩,?_⟩));refine Ya ?_;refine Yd (Does.after (YC (d:=(rb,p19)) (Yai (A:=[_,_,_,_,_,_,_])) hGb row_one (.tail _ (.head _)) rfl (fun vb2 Hb2 hOb=>⟨_,Yai (A:=[_,_,_,_,_,_,_]),⟨Zd,Zx⟩,?_⟩)));obtain ⟨Ab2,cb2,rfl,_,_⟩:=hOb.form;refine Ya ?_;refine Yd (Does.after (YC (d:=(rd,p19)) (Yah (A:=[_,_,_,_,_,_,_])) hGd row_one (.head _) rfl (fun vd2 Hd2 hOd=>⟨_,Yah (A:=[_,_,_,_,_,_,_]),⟨Zd,Zx⟩,?_⟩)));obtain ⟨Ad2,cd2,rfl,_,_⟩:=hOd.form;refine Ya ?_;refine PoS.hard0 (Does.perm (fin3 (B:=Hb2) (D:=Hd2)) (Xj ?_));refine Ya ?_;refine PoS.hard0 (Xj ?_) (hd:=rfl);refine Po.done ?_;exact wP (h:=by exact ⟨k+1,_,_,gB++ [rb],gD++ [rd],Hb2,Hd2,by omega,rfl,rfl,rfl,(by rw [eR gB rb lgB,eR gD rd lgD];try rfl),by rw [List.length_append,lgB];rfl,by rw [List.length_append,lgD];rfl,hOb.of (eZ gB rb lgB).symm rfl,hOd.of (eZ gD rd lgD).symm rfl⟩)
   refine Yd (Yb (cs:=[Zv rd p19 p19]) (fun jd=>⟨⟨Zd,Zx⟩,?_⟩));refine Ya ?_;refine Yd (Yb (cs:=[Zv rb p19 p19]) (fun jb=>⟨⟨Zd,Zx⟩,?_⟩));refine Ya ?_;refine Yd (Does.after (YC (d:=(rb,p19)) (Yai (A:=[_,_,_,_,_,_,_])) hGb row_one (.head _) rfl (fun vb2 Hb2 hOb=>⟨_,Yai (A:=[_,_,_,_,_,_,_]),⟨Zd,Zx⟩,?_⟩)));obtain ⟨Ab2,cb2,rfl,_,_⟩:=hOb.form;refine Ya ?_;refine Yd (Does.after (YC (d:=(rd,p19)) (Yah (A:=[_,_,_,_,_,_,_])) hGd row_one (.tail _ (.head _)) rfl (fun vd2 Hd2 hOd=>⟨_,Yah (A:=[_,_,_,_,_,_,_]),⟨Zd,Zx⟩,?_⟩)));obtain ⟨Ad2,cd2,rfl,_,_⟩:=hOd.form;refine Ya ?_;refine PoS.hard0 (Does.perm (fin4 (B:=Hb2) (D:=Hd2)) (Xj ?_));refine Ya ?_;refine PoS.hard0 (Xj ?_) (hd:=rfl);refine Po.done ?_;exact wP (h:=by exact ⟨k+1,_,_,gB++ [rb],gD++ [rd],Hb2,Hd2,by omega,rfl,rfl,rfl,(by rw [eR gB rb lgB,eR gD rd lgD];try rfl),by rw [List.length_append,lgB];rfl,by rw [List.length_append,lgD];rfl,hOb.of (eZ gB rb lgB).symm rfl,hOd.of (eZ gD rd lgD).symm rfl⟩)
  refine Yd (Yb (cs:=[Zv rd p19 p19]) (fun jd=>⟨⟨Zd,Zx⟩,?_⟩));refine Ya ?_;refine Yd (Does.after (WT (Zs _) (fun rb=>⟨_,Ycs,?_,?_⟩)))
  ·exact ⟨Zd,Zx⟩
  refine Ya ?_;refine Yd (Yb (cs:=[Zv rb p19 p19]) (fun jb=>⟨⟨Zd,Zx⟩,?_⟩));refine Ya ?_;refine Yd (Does.after (YC (d:=(rb,p19)) (Yai (A:=[_,_,_,_,_,_,_])) hGb row_one (.head _) rfl (fun vb2 Hb2 hOb=>⟨_,Yai (A:=[_,_,_,_,_,_,_]),⟨Zd,Zx⟩,?_⟩)));obtain ⟨Ab2,cb2,rfl,_,_⟩:=hOb.form;refine Ya ?_;refine Yd (Does.after (YC (d:=(rd,p19)) (Yah (A:=[_,_,_,_,_,_,_])) hGd row_one (.tail _ (.tail _ (.head _))) rfl (fun vd2 Hd2 hOd=>⟨_,Yah (A:=[_,_,_,_,_,_,_]),⟨Zd,Zx⟩,?_⟩)));obtain ⟨Ad2,cd2,rfl,_,_⟩:=hOd.form;refine Ya ?_;refine PoS.hard0 (Does.perm (fin5 (B:=Hb2) (D:=Hd2)) (Xj ?_));refine Ya ?_;refine PoS.hard0 (Xj ?_) (hd:=rfl);refine Po.done ?_;exact wP (h:=by exact ⟨k+1,_,_,gB++ [rb],gD++ [rd],Hb2,Hd2,by omega,rfl,rfl,rfl,(by rw [eR gB rb lgB,eR gD rd lgD];try rfl),by rw [List.length_append,lgB];rfl,by rw [List.length_append,lgD];rfl,hOb.of (eZ gB rb lgB).symm rfl,hOd.of (eZ gD rd lgD).symm rfl⟩)
 have hk2:n=k:=by omega
 subst hk2;rw [Zl (show (schL K d).length<=n by omega)] at hGb hGd ⊢;generalize hll:schL K d=l at*
 first
 | refine Wp.freezeAll (H1:=(gs,mapS m2)::(rowsO gB (exN0 l)++rowsO gD (exN0 l))) (H2:=(gr,.cells #[.pointer (some ⟨gk,0,none⟩),.slice As n cS,.map (some gs),.slice Ab n cb,.slice Ad n cd] 73 (0,0))::(Hb++Hd)) permFz (fun fz6 hle6 hf6=>?_)
 | refine Seq.freezeAll (H1:=(gs,mapS m2)::(rowsO gB (exN0 l)++rowsO gD (exN0 l))) (H2:=(gr,.cells #[.pointer (some ⟨gk,0,none⟩),.slice As n cS,.map (some gs),.slice Ab n cb,.slice Ad n cd] 73 (0,0))::(Hb++Hd)) permFz (fun fz6 hle6 hf6=>?_)
 have hgr6:=hf6 _ (.head _);obtain ⟨Ab',cb',eb,hSb⟩:=hGb.sl hle6 (fun p hp=>hf6 p (by simp [hp])) Zi;injection eb with eb1 eb2 eb3
 subst eb1;subst eb3;obtain ⟨Ad',cd',ed,hSd⟩:=hGd.sl hle6 (fun p hp=>hf6 p (by simp [hp])) Zi;injection ed with ed1 ed2 ed3
 subst ed1;subst ed3;have hx6:=hx2.trans hle6;have hfit:=Yef l;refine zW ?_;refine Yl (fun q σ fz' H'=>∃ (w:RndS) (m:List (Bs × Value)) (f:Nat),q=meas (totB l) (totB l) w/\σ=[(6,Zp gr)]/\Le fz6 fz'/\H'=(gs,mapS m)::(rowsO gB w.B++rowsO gD w.D)/\SetM fz' m w.S/\FitR l w.B/\FitR l w.D/\meas (totB l) (totB l) w<f/\exF K l f w=exM K l S2 (exN0 l) (exN0 l))
  ⟨⟨S2,exN0 l,exN0 l,false⟩,m2,_,rfl,rfl,Zd,rfl,hS2.mono hle6,hfit,hfit,Nat.lt_succ_self _,rfl⟩ Zw Zb ?_
 rintro q σ fz7 H' ⟨w,m7,f,rfl,rfl,hle7,rfl,hS7,fB7,fD7,hf7,hfin⟩;obtain ⟨f,rfl⟩:∃ f',f=f'+1:=⟨f - 1,by omega⟩;have hx7:=hx6.trans hle7;refine zW ?_;refine Yc (Does.after (Yj _ [] ((List.append_nil _).symm) (round_f (hle7 _ _ hgr6) (hK0.mono hx7) hOs hS7 (hl.mono (hle2.trans (hle6.trans hle7))) (hSb.mono hle7) (hSd.mono hle7) Zi Zi fB7 fD7 (hSh hE)) (fun v8 fz8 H8 hle8 hR8=>?_)));obtain ⟨rfl,m8,rfl,hS8⟩:=hR8;refine ⟨(gs,mapS m8)::(rowsO gB (Xq K l w.S w.B w.D).B++rowsO gD (Xq K l w.S w.B w.D).D),by rw [List.append_nil],?_⟩;have hrg:=Yhw (K:=K) (l:=l) (S:=w.S) fB7 fD7;have hx8:=hle7.trans hle8;have hgr8:=hx8 _ _ hgr6;have hend:=YiU (K:=K) (l:=l) (f:=f) (S:=w.S) (B:=w.B) (D:=w.D) (n:=w.n);have hnxt:=Yeg (K:=K) (l:=l) (f:=f) (S:=w.S) (B:=w.B) (D:=w.D) (n:=w.n);generalize hr:Xq K l w.S w.B w.D=r at hrg hS8 hend hnxt;obtain ⟨g1,g2,g3,g4,g5⟩:=hrg;have hsl:=hS8.2.1;cases hn:r.n with
 | false=>
  have hM:expM K d S2=r:=by
   unfold expM;rw [hll,<- hfin];exact hend (.inl hn)
  refine wG ?_;refine YeI 0 ?_;refine zC ?_ ?_<;>intro c3
  ·have hX:expE K d S2=5:=by rw [expE,if_neg (by rw [hE];decide),hM,if_pos Zi]
   exact wS (h:=by exact ⟨rfl,S2,hset,_,by rw [hX];rfl,fun h=>absurd h (by rw [hX];decide)⟩)
  have hX:expE K d S2=0:=by rw [expE,if_neg (by rw [hE];decide),hM,if_neg Zi]
  refine zW ?_;refine ret2F rfl rfl rfl (fun fz9 hle9 hf9=>⟨rfl,S2,hset,_,by rw [hX];rfl,fun _=>⟨gr,gs,_,_,_,n,_,_,_,m8,gD,rfl,hle9 _ _ hgr8,hf9 _ (.head _),?_,?_,?_,by omega,?_⟩⟩)
  ·rw [hM];exact hS8.mono hle9
  ·rw [hll];exact hl.mono (hle2.trans (hle6.trans (hx8.trans hle9)))
  ·rw [hll];exact hSd.mono (hx8.trans hle9)
  rw [hM];exact fun p hp=>hf9 p (by simp [hp])
 | true=>
  refine wG ?_;refine YeI 0 ?_;refine zC ?_ ?_<;>intro c3
  ·have hM:expM K d S2=r:=by
    unfold expM;rw [hll,<- hfin];exact hend (.inr Zi)
   have hX:expE K d S2=5:=by rw [expE,if_neg (by rw [hE];decide),hM,if_pos Zi]
   exact wS (h:=by exact ⟨rfl,S2,hset,_,by rw [hX];rfl,fun h=>absurd h (by rw [hX];decide)⟩)
  have hl8:=g1.len;have hm8:=g4 hn Zi;have hmw:meas (totB l) (totB l) ⟨w.S,w.B,w.D,false⟩=meas (totB l) (totB l) w:=rfl;exact wP (h:=by exact ⟨r,m8,f,rfl,rfl,hx8,rfl,hS8,g2,g3,by omega,by rw [<- hfin];exact (hnxt (fun h=>h.elim (fun e=>by rw [hn] at e;cases e) (fun e=>by omega))).symm⟩)
theorem sort0_q {fv:Value}:QFn prog 36 [Zn,fv] fz (.tuple #[]):=by
 unfold QFn;refine ⟨⟨_,Tryz.func36,by decide,by decide⟩,fun w hw=>?_⟩;exact (AnyF.slices_SortFunc_none Ya9 none 0 fv w).mono fun e w' ⟨he,hb⟩=>⟨he,by subst hb;exact Fr.refl _ _⟩
theorem Ygm:∀ {l S:List Atom},l.Nodup->(∀ a∈l,a∈S)->l.length<=S.length
 | [],_,_,_=>Z0 _
 | a::l,S,h,hs=>by
  have h1:=List.nodup_cons.1 h;have:=Ygm (l:=l) (S:=S.erase a) h1.2 (fun b hb=>(List.mem_erase_of_ne (fun e=>by subst e;exact h1.1 hb)).2 (hs b (by simp [hb])));have ha:=hs a (by simp);have hl:=List.length_erase_of_mem ha;have hp:=List.length_pos_of_mem ha;rw [List.length_cons];omega
theorem YoS (h:S.Nodup) (hi:S[i]?=some a) (hj:S[j]?=some a):i=j:=by
 obtain ⟨x1,x2⟩:=Zg hi;obtain ⟨y1,y2⟩:=Zg hj;unfold List.Nodup at h;rw [List.pairwise_iff_getElem] at h;rcases Nat.lt_trichotomy i j with hlt | hlt | hlt
 ·exact absurd (x2.trans y2.symm) (h i j x1 y1 hlt)
 ·exact hlt
 exact absurd (y2.trans x2.symm) (h j i y1 x1 hlt)
theorem sorted_f {gs:Nat} (hgs:fz gs=some (mapS m)) (hS:SetM fz m S) (hn:S.length<=2000000):
 GFn prog 15 [.map (some gs)] fz [] (fun r fz' H'=>H'=[]/\∃ l,IsSl atomL fz' r l/\l.Perm S/\Yjf l):=by
 have hml:=hS.2.1;refine zF Tryz.func15 Tryz.ntmps15 (fun w0=>?_);refine zW ?_;refine Yc (Ygu hgs (fun gi=>?_));refine zW ?_;refine Yl (fun q σ fz' H'=>∃ (seen:List Nat) (u:Value) (n:Nat) (Hs:HP) (l:List Atom),q=(List.range m.length).countP (fun i=>!seen.contains i)/\σ=[(7,Zp gi),(3,u)]/\fz=fz'/\H'=(gi,Yb8 gs m.length seen)::Hs/\(n=0->u=Zn/\Hs=[])/\Grow atomL 55 fz' u n Hs l/\l.Nodup/\(∀ a∈l,∃ j∈seen,S[j]?=some a)/\∀ i∈seen,∀ a,S[i]?=some a->a∈l)
  ⟨[],_,0,[],[],rfl,rfl,rfl,rfl,fun _=>⟨rfl,rfl⟩,Grow.nil _ _ _,List.nodup_nil,by simp,by simp⟩ Zw Zb ?_
 rintro q σ fz' H' ⟨seen,u,n,Hs,l,rfl,rfl,rfl,rfl,hz0,hG,hnd,hin,hall⟩;obtain ⟨Au,cu,rfl,_,_⟩:=hG.form;have lG:=hG.len;have hnS:n<=S.length:=by
  rw [<- lG];exact Ygm hnd (fun a ha=>by obtain ⟨j,_,hj⟩:=hin a ha;exact Zm hj)
 refine zW ?_;refine Yc (YiB Zz hgs (fun hall2=>?_) (fun i p hp hi=>?_));rotate_left 1
 ·obtain ⟨a,ha⟩:=Ye (l:=S) (k:=i) (by have:=(Zg hp).1;omega);obtain ⟨haok,va,hpa,hRa⟩:=hS.2.2 i a ha;rw [hp] at hpa;injection hpa with hpa
  subst hpa;obtain ⟨Aa,na,ca,rfl,_⟩:=id hRa.args;have hna:a ∉ l:=fun hal=>by
   obtain ⟨j,hj,hja⟩:=hin a hal;have:i=j:=YoS hS.nodup ha hja;subst this;exact hi hj
  refine wG ?_;refine Ygc 0 hgs hp ?_;refine zW ?_;intros;refine Yc (Yb (cs:=[Zy a.name,Zc Aa na ca]) (fun gb=>?_));refine Yc (YC (Hr:=[_,_,_]) (d:=a) (Zr _) hG YbM (.head _) (Ycg hRa) (fun v' Hs' hO'=>?_));obtain ⟨Av',cv',rfl,_,_⟩:=hO'.form;refine zW ?_;refine Ww ⟨seen++ [i],_,n+1,Hs',l++ [a],rfl,rfl,rfl,rfl,fun h=>by omega,hO',?_,?_,?_⟩ ?_ Zw (List.Sublist.cons _ (List.Sublist.cons _ (List.Sublist.refl _)))
  ·exact List.nodup_append.2 ⟨hnd,by simp,fun x hx y hy hxy=>by simp at hy;subst hy;subst hxy;exact hna hx⟩
  ·intro b hb;rcases List.mem_append.1 hb with hb | hb
   ·obtain ⟨j,h1,h2⟩:=hin b hb;exact ⟨j,by simp [h1],h2⟩
   simp at hb;subst hb;exact ⟨i,by simp,ha⟩
  ·intro j hj b hb;rcases List.mem_append.1 hj with hj | hj
   ·simp [hall j hj b hb]
   simp at hj;subst hj;rw [ha] at hb;injection hb with hb
   subst hb;simp
  exact Yc3 _ i (by rw [List.mem_range];exact (Zg hp).1) (fun j hj=>by simp at hj ⊢;exact fun h=>hj.1 h) (by simpa using hi) (by simp)
 have hset:l.Perm S:=(List.perm_ext_iff_of_nodup hnd hS.nodup).2 fun a=>⟨fun ha=>by obtain ⟨j,_,hj⟩:=hin a ha;exact Zm hj,fun ha=>by
  obtain ⟨i,hi⟩:=List.getElem?_of_mem ha;exact hall i (hall2 i (by have:=(Zg hi).1;omega)) a hi⟩
 cases n with
 | zero=>
  have hl0:l=[]:=List.eq_nil_of_length_eq_zero lG;subst hl0;obtain ⟨e1,rfl⟩:=hz0 rfl;rw [e1];refine wc sort0_q ?_;exact wR (h:=by exact ⟨rfl,[],IsSl.nil,hset,fun i j a b _ h _=>by simp at h⟩)
 | succ n=>
  obtain ⟨g,cap,cur,e8,rfl,hB⟩:=hG.b Zi;injection e8 with e81 e82 e83
  subst e81;subst e83;refine zW ?_;refine Yc (Does.perm (H':=[(g,Zu cur.toArray 55),_]) (List.Perm.swap _ _ _) (Yj [_] [_] Zz (sort_f hB Zi Zi) (fun v5 fz5 H5 hle5 hR5=>?_)));obtain ⟨rfl,rfl,cur2,l2,rfl,hB2,hp2,hs2⟩:=hR5;refine zW ?_;refine Yb0 rfl rfl (fun fz3 hle3 hf3=>⟨rfl,l2,?_,hp2.trans hset,hs2⟩);obtain ⟨A',c',he,hsl⟩:=hB2.grow.sl hle3 (fun p hp=>hf3 p (by simp at hp;simp [hp])) Zi;exact ⟨A',_,c',he,hsl⟩
structure ChkOk (d:Domain) (p:Problem):Prop where
 dok:DomOk d/\XVal (domX d)
 pok:FVal p.goal/\PrbOk p/\XVal (prbX p)
 lim:¬LargeM d p (objsM d p)
 typ:newM d.types=0
 step:∀ i,i<8->(stepM d (objsM d p) p i).2=0
theorem YgO {f:Nat->Bs × Int}:∀ (n k:Nat),(Yeb f n k).2=0->∀ i,i<n->(f (k+i)).2=0
 | 0,_,_,i,hi=>absurd hi Zi
 | n+1,k,h,i,hi=>by
  rw [Yeb] at h;by_cases h0:(f k).2=0
  ·rw [if_pos h0] at h;cases i with
   | zero=>exact h0
   | succ i=>
    have:=YgO n (k+1) h i Zi
    rwa [show k+1+i=k+(i+1) by omega] at this
  rw [if_neg h0] at h;exact absurd h h0
theorem YkD (h:(Y3 d p).2=0):ChkOk d p:=by
 unfold Y3 at h;split at h
 ·cases h
 rename_i h1;split at h
 ·cases h
 rename_i h2;split at h
 ·cases h
 rename_i h3;split at h
 ·rename_i h4;exact absurd h h4
 rename_i h4;exact ⟨Classical.byContradiction h1,Classical.byContradiction h2,h3,Classical.byContradiction h4,fun i hi=>by
  have:=YgO 8 0 h i hi
  rwa [Nat.zero_add] at this⟩
theorem objs_len (h:¬LargeM d p (objsM d p)):d.constants.length+p.objects.length<=2000000:=by
 have h1:=(Ygs h).1.o;unfold objsM at h1;rw [List.length_append] at h1;omega
def YnG (S:List Atom) (a:Atom):List Atom:=if a∈S then S else S++ [a]
def YgA (l:List Atom):List Atom:=l.foldl YnG []
def chgK (d:Domain) (x:Bs):Bool:=decide (∃ q∈d.predicates,q.name=x) && chgM d x
def knM (d:Domain) (p:Problem):Kn:=⟨d.types,objsM d p,YgA p.init,chgK d⟩
theorem Yo0 (hM:MaxF fz) (hD:DomainR fz d v1 v2 v3 v4 v5 v6) (hP:ProblemR fz p u1 u2 u3 u4 u5 u6 u7) (hS:ChkS d p) (hA:(Y3 d p).2=0->∀ a∈p.init,AtmOk a):
 GFn prog 13 [ZD d v1 v2 v3 v4 v5 v6,ZP p u1 u2 u3 u4 u5 u6 u7] fz []
  (fun r fz' H'=>H'=[]/\∃ vk,r=.tuple #[vk,errV (Y3 d p).2]/\((Y3 d p).2=0->KnD fz' vk (knM d p) d)):=by
 have hD0:=hD;have hP0:=hP;obtain ⟨⟨A1,n1,b1,rfl,i1⟩,⟨A2,n2,b2,rfl,i2⟩,⟨A3,n3,b3,rfl,i3⟩,⟨A4,n4,b4,rfl,i4⟩,⟨A5,n5,b5,rfl,i5⟩,⟨A6,n6,b6,rfl,i6⟩⟩:=hD.sls;obtain ⟨⟨B1,m1,d1,rfl,j1⟩,⟨B2,m2,d2,rfl,j2⟩,⟨B3,m3,d3,rfl,j3⟩⟩:=hP.sls;obtain ⟨⟨B4,m4,d4,rfl,_⟩,⟨B5,m5,d5,rfl,_⟩,⟨B6,m6,d6,rfl,_⟩,⟨B7,m7,d7,rfl,_⟩⟩:=hP.goal.sls;have l3:=i3.len;have s3:=i3.short;have lj2:=j2.len;have sj2:=j2.short;refine zF Tryz.func13 Tryz.ntmps13 (fun w0=>?_);refine pX (fun g2=>?_);refine pY (fun g3=>?_);refine zWO ?_;refine vc (YpZ hM hD0 hP0 hS) ?_;rw [show resV (Y3 d p)=.tuple #[Zy (Y3 d p).1,errV (Y3 d p).2] from rfl];by_cases hc:(Y3 d p).2=0;rotate_left 1
 ·rw [YA hc];exact vS (h:=by exact ⟨rfl,_,rfl,fun h=>absurd h hc⟩)
 rw [hc,show errV 0=.nilIface from rfl];have hok:=YkD hc;have hAt:=hA hc;obtain ⟨hL,hT64,hp6⟩:=Ygs hok.lim;have htok:∀ q∈d.types,Xh q.name/\Ydv q.typ:=fun q hq=>hok.dok.1.2.1 q hq
 refine vK (q:=YiM hM hD0 hT64 htok) (h:=fun v7 fz7 H7 hle7 hR7=>?_);obtain ⟨rfl,vf,rfl,hvf⟩:=hR7;obtain ⟨gf,gm,evf,hf1,hf2⟩:=hvf hok.typ;subst evf;have hF:ForR fz7 (Zp gf) d.types:=⟨gf,gm,rfl,hf1,hf2⟩;have hW:WFT d.types:=Yix hok.typ (fun q hq=>(YaW i1 q hq).2) hT64;rw [hok.typ,show errV 0=.nilIface from rfl];have hD7:=hD0.mono hle7;have hP7:=hP0.mono hle7;refine zWN ?_
 first | refine Y8 (fun σ fz' H'=>∃ (gk gc gi:Nat) (Aa:Option Addr) (ca:Nat),σ=[(10,Zp gk),(3,Zp g3),(2,Zp g2)]/\Le fz7 fz'/\H'=[(gk,Zu #[Zy d.name,Zc A1 n1 b1,Zc A2 n2 b2,Zc A3 n3 b3,Zc A4 n4 b4,Zc A5 n5 b5,Zc A6 n6 b6,Zy p.name,Zy p.domain,Zc B1 m1 d1,Zc B2 m2 d2,Zc B3 m3 d3,Zy p.goal.op,Zy p.goal.name,Zc B4 m4 d4,Zc B5 m5 d5,Zc B6 m6 d6,Zc B7 m7 d7,Zp gf,Zc Aa (d.constants.length+p.objects.length) ca,.map (some gc),.map (some gi)] 110),(gc,mapS []),(gi,mapS []),(g3,Zu #[Zy p.name,Zy p.domain,Zc B1 m1 d1,Zc B2 m2 d2,Zc B3 m3 d3,Zy p.goal.op,Zy p.goal.name,Zc B4 m4 d4,Zc B5 m5 d5,Zc B6 m6 d6,Zc B7 m7 d7] 37),(g2,Zu #[Zy d.name,Zc A1 n1 b1,Zc A2 n2 b2,Zc A3 n3 b3,Zc A4 n4 b4,Zc A5 n5 b5,Zc A6 n6 b6] 28)]/\Sl paramL fz' Aa (d.constants.length+p.objects.length) ca (objsM d p)) ?_ ?_ | refine YL (Y8 (fun σ fz' H'=>∃ (gk gc gi:Nat) (Aa:Option Addr) (ca:Nat),σ=[(10,Zp gk),(3,Zp g3),(2,Zp g2)]/\Le fz7 fz'/\H'=[(gk,Zu #[Zy d.name,Zc A1 n1 b1,Zc A2 n2 b2,Zc A3 n3 b3,Zc A4 n4 b4,Zc A5 n5 b5,Zc A6 n6 b6,Zy p.name,Zy p.domain,Zc B1 m1 d1,Zc B2 m2 d2,Zc B3 m3 d3,Zy p.goal.op,Zy p.goal.name,Zc B4 m4 d4,Zc B5 m5 d5,Zc B6 m6 d6,Zc B7 m7 d7,Zp gf,Zc Aa (d.constants.length+p.objects.length) ca,.map (some gc),.map (some gi)] 110),(gc,mapS []),(gi,mapS []),(g3,Zu #[Zy p.name,Zy p.domain,Zc B1 m1 d1,Zc B2 m2 d2,Zc B3 m3 d3,Zy p.goal.op,Zy p.goal.name,Zc B4 m4 d4,Zc B5 m5 d5,Zc B6 m6 d6,Zc B7 m7 d7] 37),(g2,Zu #[Zy d.name,Zc A1 n1 b1,Zc A2 n2 b2,Zc A3 n3 b3,Zc A4 n4 b4,Zc A5 n5 b5,Zc A6 n6 b6] 28)]/\Sl paramL fz' Aa (d.constants.length+p.objects.length) ca (objsM d p)) ?_ ?_)
 ·refine Yam [] [_,_] ?_;refine zW ?_;refine pT ?_;refine Po.three ?_ ?_ ?_
  ·refine Yd (Does.post (Yj [] [_,_] Zz (Ybp hD7 hP7 hS.dsm.constants hS.psm.objects) (fun v8 fz8' H8 hle8' hR8=>⟨[_,_],H8,Zq,fun fz8 hle8'' hf8=>?_⟩)));obtain ⟨Aa,ca,rfl,hall8⟩:=hR8.sl hle8'' hf8 (by have:=hS.dsm.constants;have:=hS.psm.objects;omega);have hle8:=hle8'.trans hle8'';refine ⟨⟨hle8,Zx⟩,?_⟩;refine Yy ?_ ?_
   ·refine Yd (Xt (fun gc=>⟨⟨hle8,Zx⟩,?_⟩));refine Ya ?_;refine Yd (Xt (fun gi=>⟨⟨hle8,Zx⟩,?_⟩));refine Ya ?_;refine PoS.qk ⟨hle8,Zx⟩ (XE ?_);refine Ya ?_;refine Yd (Does.perm (H':=[(gc,mapS []),(gi,mapS []),_,_]) (List.Perm.swap _ _ _) (Ydn _ (fun gk=>⟨⟨hle8,Zx⟩,?_⟩)));refine Ya ?_;refine PoS.qk ⟨hle8,Zx⟩ (YO ?_);refine Po.done ?_;exact wN (h:=by exact ⟨gk,gc,gi,Aa,ca,rfl,hle8,rfl,hall8⟩)
   refine Yd (Xt (fun gi=>⟨⟨hle8,Zx⟩,?_⟩));refine Ya ?_;refine Yd (Xt (fun gc=>⟨⟨hle8,Zx⟩,?_⟩));refine Ya ?_;refine PoS.qk ⟨hle8,Zx⟩ (XE ?_);refine Ya ?_;refine Yd ((Ydn _ (fun gk=>⟨⟨hle8,Zx⟩,?_⟩)));refine Ya ?_;refine PoS.qk ⟨hle8,Zx⟩ (YO ?_);refine Po.done ?_;exact wN (h:=by exact ⟨gk,gc,gi,Aa,ca,rfl,hle8,rfl,hall8⟩)
  ·refine Yd (Xt (fun gc=>⟨⟨Zd,Zx⟩,?_⟩));refine Yy ?_ ?_
   ·refine Yd (Does.post (Yj [] [_,_,_] Zz (Ybp hD7 hP7 hS.dsm.constants hS.psm.objects) (fun v8 fz8' H8 hle8' hR8=>⟨[_,_,_],H8,Zq,fun fz8 hle8'' hf8=>?_⟩)));obtain ⟨Aa,ca,rfl,hall8⟩:=hR8.sl hle8'' hf8 (by have:=hS.dsm.constants;have:=hS.psm.objects;omega);have hle8:=hle8'.trans hle8'';refine ⟨⟨hle8,Zx⟩,?_⟩;refine Ya ?_;refine Yd (Xt (fun gi=>⟨⟨hle8,Zx⟩,?_⟩));refine Ya ?_;refine PoS.qk ⟨hle8,Zx⟩ (XE ?_);refine Ya ?_;refine Yd (Does.perm (H':=[(gc,mapS []),(gi,mapS []),_,_]) (List.Perm.swap _ _ _) (Ydn _ (fun gk=>⟨⟨hle8,Zx⟩,?_⟩)));refine Ya ?_;refine PoS.qk ⟨hle8,Zx⟩ (YO ?_);refine Po.done ?_;exact wN (h:=by exact ⟨gk,gc,gi,Aa,ca,rfl,hle8,rfl,hall8⟩)
   refine Yd (Xt (fun gi=>⟨⟨Zd,Zx⟩,?_⟩));refine Ya ?_;refine Yd (Does.post (Yj [] [_,_,_,_] Zz (Ybp hD7 hP7 hS.dsm.constants hS.psm.objects) (fun v8 fz8' H8 hle8' hR8=>⟨[_,_,_,_],H8,Zq,fun fz8 hle8'' hf8=>?_⟩)));obtain ⟨Aa,ca,rfl,hall8⟩:=hR8.sl hle8'' hf8 (by have:=hS.dsm.constants;have:=hS.psm.objects;omega);have hle8:=hle8'.trans hle8'';refine ⟨⟨hle8,Zx⟩,?_⟩;refine Ya ?_;refine PoS.qk ⟨hle8,Zx⟩ (XE ?_);refine Ya ?_;refine Yd (Does.perm (H':=[(gc,mapS []),(gi,mapS []),_,_]) (List.Perm.swap _ _ _) (Ydn _ (fun gk=>⟨⟨hle8,Zx⟩,?_⟩)));refine Ya ?_;refine PoS.qk ⟨hle8,Zx⟩ (YO ?_);refine Po.done ?_;exact wN (h:=by exact ⟨gk,gc,gi,Aa,ca,rfl,hle8,rfl,hall8⟩)
  refine Yd (Xt (fun gi=>⟨⟨Zd,Zx⟩,?_⟩));refine Yy ?_ ?_
  ·refine Yd (Does.post (Yj [] [_,_,_] Zz (Ybp hD7 hP7 hS.dsm.constants hS.psm.objects) (fun v8 fz8' H8 hle8' hR8=>⟨[_,_,_],H8,Zq,fun fz8 hle8'' hf8=>?_⟩)));obtain ⟨Aa,ca,rfl,hall8⟩:=hR8.sl hle8'' hf8 (by have:=hS.dsm.constants;have:=hS.psm.objects;omega);have hle8:=hle8'.trans hle8'';refine ⟨⟨hle8,Zx⟩,?_⟩;refine Ya ?_;refine Yd (Xt (fun gc=>⟨⟨hle8,Zx⟩,?_⟩));refine Ya ?_;refine PoS.qk ⟨hle8,Zx⟩ (XE ?_);refine Ya ?_;refine Yd ((Ydn _ (fun gk=>⟨⟨hle8,Zx⟩,?_⟩)));refine Ya ?_;refine PoS.qk ⟨hle8,Zx⟩ (YO ?_);refine Po.done ?_;exact wN (h:=by exact ⟨gk,gc,gi,Aa,ca,rfl,hle8,rfl,hall8⟩)
  refine Yd (Xt (fun gc=>⟨⟨Zd,Zx⟩,?_⟩));refine Ya ?_;refine Yd (Does.post (Yj [] [_,_,_,_] Zz (Ybp hD7 hP7 hS.dsm.constants hS.psm.objects) (fun v8 fz8' H8 hle8' hR8=>⟨[_,_,_,_],H8,Zq,fun fz8 hle8'' hf8=>?_⟩)));obtain ⟨Aa,ca,rfl,hall8⟩:=hR8.sl hle8'' hf8 (by have:=hS.dsm.constants;have:=hS.psm.objects;omega);have hle8:=hle8'.trans hle8'';refine ⟨⟨hle8,Zx⟩,?_⟩;refine Ya ?_;refine PoS.qk ⟨hle8,Zx⟩ (XE ?_);refine Ya ?_;refine Yd ((Ydn _ (fun gk=>⟨⟨hle8,Zx⟩,?_⟩)));refine Ya ?_;refine PoS.qk ⟨hle8,Zx⟩ (YO ?_);refine Po.done ?_;exact wN (h:=by exact ⟨gk,gc,gi,Aa,ca,rfl,hle8,rfl,hall8⟩)
 rintro σ fz8 H' ⟨gk,gc,gi,Aa,ca,rfl,hle8,rfl,hall8⟩;have hx8:=hle7.trans hle8;have hD8:=hD0.mono hx8;have i38:=i3.mono hx8;have j28:=j2.mono hx8;refine zW ?_;refine Yl (fun q σ fz' H'=>∃ (k:Nat) (m:List (Bs × Value)),k<=n3/\q=n3 - k/\σ=[(45,Zk k),(44,Zk n3),(43,Zc A3 n3 b3),(10,Zp gk),(3,Zp g3),(2,Zp g2)]/\fz8=fz'/\H'=[(gk,Zu #[Zy d.name,Zc A1 n1 b1,Zc A2 n2 b2,Zc A3 n3 b3,Zc A4 n4 b4,Zc A5 n5 b5,Zc A6 n6 b6,Zy p.name,Zy p.domain,Zc B1 m1 d1,Zc B2 m2 d2,Zc B3 m3 d3,Zy p.goal.op,Zy p.goal.name,Zc B4 m4 d4,Zc B5 m5 d5,Zc B6 m6 d6,Zc B7 m7 d7,Zp gf,Zc Aa (d.constants.length+p.objects.length) ca,.map (some gc),.map (some gi)] 110),(gc,mapS m),(gi,mapS []),(g3,Zu #[Zy p.name,Zy p.domain,Zc B1 m1 d1,Zc B2 m2 d2,Zc B3 m3 d3,Zy p.goal.op,Zy p.goal.name,Zc B4 m4 d4,Zc B5 m5 d5,Zc B6 m6 d6,Zc B7 m7 d7] 37),(g2,Zu #[Zy d.name,Zc A1 n1 b1,Zc A2 n2 b2,Zc A3 n3 b3,Zc A4 n4 b4,Zc A5 n5 b5,Zc A6 n6 b6] 28)]/\∀ x,(valS m x).getD (Zo false)=Zo (decide (∃ q∈d.predicates.take k,q.name=x) && chgM d x)) ⟨0,[],Z0 _,rfl,rfl,rfl,rfl,fun x=>by simp [valS,fndS]⟩ Zw Zb ?_;rintro q σ fz9 H' ⟨k,m,hk,rfl,rfl,rfl,rfl,hm⟩;refine wC ?_ ?_<;>intro c1
 ·obtain ⟨x,hx⟩:=Ye (l:=d.predicates) (k:=k) Zi;refine wI i38 hx (fun p1 hp1=>?_);refine zL hp1 ?_;intro cs hcs;obtain ⟨up,rfl,hR⟩:=Wu hcs;obtain ⟨C1,s1,t1,rfl,_⟩:=id hR.params;refine zWN ?_;intros;refine Y0 [_,_,_,_,_,_] ?_;refine wc (static_q hD8) ?_;refine zW ?_;refine pU ?_;refine Ch.hard0 (XD (pre:=[_,_]) (Zr _) ?_);refine Ch.done ?_;refine zW ?_;exact Ww ⟨k+1,updS m x.name (Zo (!(!chgM d x.name))),by omega,rfl,rfl,rfl,rfl,fun y=>by
   rw [Ycm];by_cases hy:y=x.name
   ·rw [if_pos hy,hy,List.take_add_one,hx];simp
   rw [if_neg hy,hm y,List.take_add_one,hx]
   congr 2
   refine decide_eq_decide.2 ⟨fun ⟨q,h1,h2⟩=>⟨q,List.mem_append.2 (.inl h1),h2⟩,fun ⟨q,h1,h2⟩=>?_⟩;rcases List.mem_append.1 h1 with h1 | h1
   ·exact ⟨q,h1,h2⟩
   simp at h1;subst h1;exact absurd h2.symm hy⟩ Zi Zw Zb
 rw [Zl (show d.predicates.length<=k by omega)] at hm;refine zW ?_;refine Yl (fun q σ fz' H'=>∃ (k:Nat) (mi:List (Bs × Value)) (S:List Atom),k<=m2/\q=m2 - k/\σ=[(64,Zk k),(63,Zk m2),(62,Zc B2 m2 d2),(10,Zp gk)]/\fz8=fz'/\H'=[(gk,Zu #[Zy d.name,Zc A1 n1 b1,Zc A2 n2 b2,Zc A3 n3 b3,Zc A4 n4 b4,Zc A5 n5 b5,Zc A6 n6 b6,Zy p.name,Zy p.domain,Zc B1 m1 d1,Zc B2 m2 d2,Zc B3 m3 d3,Zy p.goal.op,Zy p.goal.name,Zc B4 m4 d4,Zc B5 m5 d5,Zc B6 m6 d6,Zc B7 m7 d7,Zp gf,Zc Aa (d.constants.length+p.objects.length) ca,.map (some gc),.map (some gi)] 110),(gc,mapS m),(gi,mapS mi)]/\SetM fz' mi S/\(p.init.take k).foldl YnG []=S) ⟨0,[],[],Z0 _,rfl,rfl,rfl,rfl,SetM.nil,rfl⟩ Zw Zb ?_;rintro q σ fz9 H' ⟨j,mi,S,hj,rfl,rfl,rfl,rfl,hSi,hfold⟩;refine wC ?_ ?_<;>intro c2
 ·obtain ⟨a,ha⟩:=Ye (l:=p.init) (k:=j) Zi;have haok:=hAt a (Zm ha);refine wI j28 ha (fun p2 hp2=>?_);refine zL hp2 ?_;intro cs hcs;obtain ⟨va,rfl,hRa⟩:=Xu hcs;obtain ⟨Aa2,na,ca2,rfl,_⟩:=id hRa.args;refine zWN ?_;intros;refine Y0 [_,_] ?_;refine zW ?_;refine pU ?_;refine Yf (Does.perm (H':=[(gi,mapS mi),_,_,_]) (Zq (l₁:=[_]) (l₂:=[_,_,_])) (Does.after (Yj [_] [_,_,_] Zz (add_f hSi hRa haok) (fun v5 fz5 H5 hle5 hR5=>?_))));obtain ⟨rfl,rfl,m5,rfl,hS5⟩:=hR5;refine ⟨_,Zq (l₁:=[_,_,_]) (l₂:=[_]),⟨Zd,Zx⟩,?_⟩;refine Ch.done ?_;exact wP (h:=by exact ⟨j+1,m5,_,by omega,rfl,rfl,rfl,rfl,hS5,by rw [List.take_add_one,ha,List.foldl_append,hfold];rfl⟩)
 rw [Zl (show p.init.length<=j by omega)] at hfold;refine zW ?_;refine ret2F rfl rfl rfl (fun fz3 hle3 hf3=>⟨rfl,_,rfl,fun _=>?_⟩);have hk3:=hf3 _ (.head _);refine ⟨⟨⟨gk,_,_,_,_,_,_,_,_,_,_,_,_,_,_,_,_,_,_,_,Aa,_,ca,gc,gi,m,mi,rfl,hk3,hF.mono (hle8.trans hle3),hall8.mono hle3,hf3 _ (.tail _ (.head _)),hm,hf3 _ (.tail _ (.tail _ (.head _))),?_⟩,hW,?_⟩,gk,_,_,_,rfl,hk3,rfl,rfl,(i5.mono (hx8.trans hle3)).is,(i6.mono (hx8.trans hle3)).is⟩
 ·show SetM fz3 mi (YgA p.init);unfold YgA;rw [hfold];exact hSi.mono hle3
 show (objsM d p).length<=2000000;unfold objsM;rw [List.length_append];exact objs_len hok.lim
structure Apt (d:Domain) (p:Problem):Prop where
 init:∀ a∈p.init,AtmOk a
 sch:SchS (knM d p) d
 os:∀ o∈(knM d p).os,PlnS o.name
 sh:schE (knM d p) d=0->∀ s∈schL (knM d p) d,SSh s
theorem YhP:∀ (l S:List Atom),S.Nodup->(l.foldl YnG S).Nodup
 | [],_,h=>h
 | a::l,S,h=>by
  refine YhP l _ ?_;unfold YnG;split
  ·exact h
  rename_i hn;exact List.nodup_append.2 ⟨h,by simp,fun x hx y hy hxy=>by simp at hy;subst hy;subst hxy;exact hn hx⟩
theorem Ygz (l:List Atom):(YgA l).Nodup:=YhP l [] List.nodup_nil
theorem YmB:∀ (l S:List Atom) (a:Atom),a∈l.foldl YnG S↔a∈S\/a∈l
 | [],_,_=>by simp
 | b::l,S,a=>by
  rw [List.foldl_cons,YmB l];unfold YnG;split
  ·rename_i hb;constructor
   ·rintro (h | h)
    ·exact .inl h
    exact .inr (by simp [h])
   rintro (h | h)
   ·exact .inl h
   rcases List.mem_cons.1 h with rfl | h
   ·exact .inl hb
   exact .inr h
  simp [or_assoc]
theorem Yd6 {l:List Atom}:a∈YgA l↔a∈l:=by
 unfold YgA;rw [YmB];simp
def WU (d:Domain) (p:Problem) (S0:List Atom):Int:=if (Y3 d p).2≠0 then (Y3 d p).2 else expE (knM d p) d S0
theorem Yp6 (hM:MaxF fz) (hD:DomainR fz d v1 v2 v3 v4 v5 v6) (hP:ProblemR fz p u1 u2 u3 u4 u5 u6 u7) (hS:ChkS d p) (hA:(Y3 d p).2=0->Apt d p):
 GFn prog 6 [ZD d v1 v2 v3 v4 v5 v6,ZP p u1 u2 u3 u4 u5 u6 u7] fz []
  (fun r fz' H'=>H'=[]/\∃ S0,Yjg S0 (YgA p.init)/\∃ v,r=.tuple #[v,errV (WU d p S0)]/\(WU d p S0≠0->v=Zn)/\(WU d p S0=0->∃ l,IsSl atomL fz' v l/\l.Perm (expM (knM d p) d S0).S/\Yjf l)):=by
 have hD0:=hD;have hP0:=hP;obtain ⟨⟨A1,n1,b1,rfl,i1⟩,⟨A2,n2,b2,rfl,i2⟩,⟨A3,n3,b3,rfl,i3⟩,⟨A4,n4,b4,rfl,i4⟩,⟨A5,n5,b5,rfl,i5⟩,⟨A6,n6,b6,rfl,i6⟩⟩:=hD.sls;obtain ⟨⟨B1,m1,d1,rfl,j1⟩,⟨B2,m2,d2,rfl,j2⟩,⟨B3,m3,d3,rfl,j3⟩⟩:=hP.sls;obtain ⟨⟨B4,m4,d4,rfl,_⟩,⟨B5,m5,d5,rfl,_⟩,⟨B6,m6,d6,rfl,_⟩,⟨B7,m7,d7,rfl,_⟩⟩:=hP.goal.sls;refine zF Tryz.func6 Tryz.ntmps6 (fun w0=>?_);refine pX (fun g2=>?_);refine pY (fun g3=>?_);refine zWO ?_;refine vK (q:=Yo0 hM hD0 hP0 hS (fun h=>(hA h).init)) (h:=fun v4 fz4 H4 hle4 hR4=>?_);obtain ⟨rfl,vk,rfl,hkd⟩:=hR4;by_cases hc:(Y3 d p).2=0;rotate_left 1
 ·rw [YA hc];exact vS (h:=by exact ⟨rfl,YgA p.init,⟨Ygz p.init,fun _=>Iff.rfl⟩,_,by rw [WU,if_pos hc,YA hc];try rfl,fun _=>rfl,fun h=>absurd h (by rw [WU,if_pos hc];exact hc)⟩)
 rw [hc,show errV 0=.nilIface from rfl];have hap:=hA hc;have hKD:=hkd hc;refine vK (q:=Yks hKD hap.sch hap.os hap.sh) (h:=fun v5 fz5 H5 hle5 hR5=>?_);obtain ⟨rfl,S0,hS0,vr,rfl,hrr⟩:=hR5;have hE:WU d p S0=expE (knM d p) d S0:=by rw [WU,if_neg (by rw [hc];decide)]
 by_cases he:expE (knM d p) d S0=0;rotate_left 1
 ·rw [YA he];exact vS (h:=by exact ⟨rfl,S0,hS0,_,by rw [hE,YA he];try rfl,fun _=>rfl,fun h=>absurd h (by rw [hE];exact he)⟩)
 rw [he,show errV 0=.nilIface from rfl];obtain ⟨gr,gs,vk',As,Ad,n,cS,cd,vb,m,gD,rfl,h1,h2,h3,h4,h5,h6,h7⟩:=(hrr he).ex;have hlen:(expM (knM d p) d S0).S.length<=4096:=by
  unfold expE at he;split at he
  ·rename_i h;exact absurd he h
  split at he
  ·cases he
  omega
 refine vK (q:=sorted_f h2 h3 Zi) (h:=fun v6 fz6 H6 hle6 hR6=>?_);obtain ⟨rfl,l,hl,hp,hs⟩:=hR6;obtain ⟨Al,nl,cl,rfl,hsl⟩:=hl;exact vS (h:=by exact ⟨rfl,S0,hS0,_,by rw [hE,he];rfl,fun h=>absurd (by rw [hE];exact he) h,fun _=>⟨l,hsl.is,hp,hs⟩⟩)
abbrev StepM:=Bs × List Bs
def Ya4:Lay StepM where
 size:=3
 rep:=fun fz x cs=>∃ va,cs=[Zk 0,Zy x.1,va]/\Short x.1/\IsSl strL fz va x.2
 len:=fun h=>by obtain ⟨va,rfl,_⟩:=h;rfl
 mono:=fun hle h=>by obtain ⟨va,e,h1,h2⟩:=h;exact ⟨va,e,h1,h2.mono hle⟩
def Yhh (n:Bs) (as_:List (List Bs)) (b:List Bool):List StepM:=((as_.zip b).filter (·.2)).map fun z=>(n,z.1)
def YcW (l:List Schema) (D:List (List Bool)):List StepM:=(l.zip D).flatMap fun z=>Yhh z.1.name z.1.arguments z.2
theorem YdN {α β:Type}:∀ (k:Nat) (l:List α) (m:List β),(l.take k).zip (m.take k)=(l.zip m).take k
 | 0,_,_=>by simp
 | k+1,[],_=>by simp
 | k+1,_::_,[]=>by simp
 | k+1,a::l,b::m=>by simp [YdN k l m]
theorem Ynr {l:List Schema} {D:List (List Bool)} {s:Schema} {b:List Bool} (hs:l[k]?=some s) (hb:D[k]?=some b):YcW (l.take (k+1)) (D.take (k+1))=YcW (l.take k) (D.take k)++Yhh s.name s.arguments b:=by
 unfold YcW;have hz:(l.zip D)[k]?=some (s,b):=by rw [List.getElem?_zip_eq_some];exact ⟨hs,hb⟩
 rw [YdN,YdN,List.take_add_one,hz];simp
theorem YhN {n:Bs} {l:List (List Bs)} {b:List Bool} {a:List Bs} {x:Bool} (ha:l[j]?=some a) (hx:b[j]?=some x):Yhh n (l.take (j+1)) (b.take (j+1))=Yhh n (l.take j) (b.take j)++(if x=true then [(n,a)] else []):=by
 unfold Yhh;have hz:(l.zip b)[j]?=some (a,x):=by rw [List.getElem?_zip_eq_some];exact ⟨ha,hx⟩
 rw [YdN,YdN,List.take_add_one,hz];cases x<;>simp
theorem Ykd {n:Bs} {l:List (List Bs)} {b:List Bool}:(Yhh n l b).length<=l.length:=by
 unfold Yhh;rw [List.length_map];refine Nat.le_trans (List.length_filter_le _ _) ?_;rw [List.length_zip];omega
theorem Ygy:∀ (l:List Schema) (D:List (List Bool)),(YcW l D).length<=Ybz l
 | [],_=>by simp [YcW]
 | _::_,[]=>by simp [YcW]
 | s::l,b::D=>by
  have h1:=Ygy l D;have h2:=Ykd (n:=s.name) (l:=s.arguments) (b:=b);have e:YcW (s::l) (b::D)=Yhh s.name s.arguments b++YcW l D:=by simp [YcW]
  rw [e,List.length_append];unfold Ybz at*;simp only [List.map_cons,List.sum_cons];omega
theorem Ynk (l:List Schema) (k:Nat):Ybz (l.take k)<=Ybz l:=by
 unfold Ybz
 conv=>rhs;rw [<- List.take_append_drop k l]
 rw [List.map_append,List.sum_append];omega
theorem Yc9:OneC Ya4:=by
 intro fz d cs h u hu;obtain ⟨va,rfl,_,A,n,c,rfl,_⟩:=h;simp at hu;rcases hu with rfl | rfl | rfl<;>rfl
theorem Yln (hM:MaxF fz) (hD:DomainR fz d v1 v2 v3 v4 v5 v6) (hP:ProblemR fz p u1 u2 u3 u4 u5 u6 u7) (hS:ChkS d p) (hA:(Y3 d p).2=0->Apt d p):
 GFn prog 7 [ZD d v1 v2 v3 v4 v5 v6,ZP p u1 u2 u3 u4 u5 u6 u7] fz []
  (fun r fz' H'=>∃ S0,Yjg S0 (YgA p.init)/\∃ v,r=.tuple #[v,errV (WU d p S0)]/\(WU d p S0≠0->v=Zn/\H'=[])/\(WU d p S0=0->∃ n,Grow Ya4 61 fz' v n H' (YcW (schL (knM d p) d) (expM (knM d p) d S0).D))):=by
 have hD0:=hD;have hP0:=hP;obtain ⟨⟨A1,n1,b1,rfl,i1⟩,⟨A2,n2,b2,rfl,i2⟩,⟨A3,n3,b3,rfl,i3⟩,⟨A4,n4,b4,rfl,i4⟩,⟨A5,n5,b5,rfl,i5⟩,⟨A6,n6,b6,rfl,i6⟩⟩:=hD.sls;obtain ⟨⟨B1,m1,d1,rfl,j1⟩,⟨B2,m2,d2,rfl,j2⟩,⟨B3,m3,d3,rfl,j3⟩⟩:=hP.sls;obtain ⟨⟨B4,m4,d4,rfl,_⟩,⟨B5,m5,d5,rfl,_⟩,⟨B6,m6,d6,rfl,_⟩,⟨B7,m7,d7,rfl,_⟩⟩:=hP.goal.sls;refine zF Tryz.func7 Tryz.ntmps7 (fun w0=>?_);refine pX (fun g2=>?_);refine pY (fun g3=>?_);refine zWO ?_;refine vK (q:=Yo0 hM hD0 hP0 hS (fun h=>(hA h).init)) (h:=fun v4 fz4 H4 hle4 hR4=>?_);obtain ⟨rfl,vk,rfl,hkd⟩:=hR4;by_cases hc:(Y3 d p).2=0;rotate_left 1
 ·rw [YA hc];exact vS (h:=by exact ⟨YgA p.init,⟨Ygz p.init,fun _=>Iff.rfl⟩,_,by rw [WU,if_pos hc,YA hc];try rfl,fun _=>⟨rfl,rfl⟩,fun h=>absurd h (by rw [WU,if_pos hc];exact hc)⟩)
 rw [hc,show errV 0=.nilIface from rfl];have hap:=hA hc;have hKD:=hkd hc;refine vK (q:=Yks hKD hap.sch hap.os hap.sh) (h:=fun v5 fz5 H5 hle5 hR5=>?_);obtain ⟨rfl,S0,hS0,vr,rfl,hrr⟩:=hR5;have hE:WU d p S0=expE (knM d p) d S0:=by rw [WU,if_neg (by rw [hc];decide)]
 by_cases he:expE (knM d p) d S0=0;rotate_left 1
 ·rw [YA he];exact vS (h:=by exact ⟨S0,hS0,_,by rw [hE,YA he];try rfl,fun _=>⟨rfl,rfl⟩,fun h=>absurd h (by rw [hE];exact he)⟩)
 rw [he,show errV 0=.nilIface from rfl];obtain ⟨gr,gs,vk',As,Ad,n,cS,cd,vb,m,gD,rfl,h1,h2,h3,h4,h5,h6,h7⟩:=(hrr he).ex;have ln:=h4.len;have sn:=h4.short;refine zV ?_;have hE0:schE (knM d p) d=0:=by
  unfold expE at he;by_cases h0:schE (knM d p) d=0
  ·exact h0
  rw [if_pos h0] at he;exact absurd he h0
 have hfit:FitR (schL (knM d p) d) (expM (knM d p) d S0).D:=(YgT (K:=knM d p) (l:=schL (knM d p) d) _ (w:=⟨S0,exN0 (schL (knM d p) d),exN0 (schL (knM d p) d),false⟩) (Nat.lt_succ_self _) (Yef _) (Yef _)).2.2.1;have hmany:Ybz (schL (knM d p) d)<=4096:=by
  unfold schE at hE0;by_cases h0:4096<Ybz (schL (knM d p) d)
  ·rw [if_pos h0] at hE0;cases hE0
  omega
 have hlen:∀ s∈schL (knM d p) d,∀ a∈s.arguments,a.length<=2000000:=fun s hs a ha=>by
  obtain ⟨s0,h0,rfl⟩:=List.mem_map.1 hs;have h1:=Yl5 hap.sch h0;have e:a.length=s0.params.length:=Ye2 ha;omega
 generalize hll:schL (knM d p) d=l at*;generalize hDD:(expM (knM d p) d S0).D=D at*;obtain ⟨hfl,hff⟩:=hfit;refine Yl (fun q σ fz' H'=>∃ (k:Nat) (v:Value) (nn:Nat),k<=n/\q=n - k/\σ=[(36,Zk k),(35,Zk n),(34,Zc As n cS),(9,v),(8,Zp gr)]/\Le fz5 fz'/\Grow Ya4 61 fz' v nn H' (YcW (l.take k) (D.take k))) ⟨0,_,0,Z0 _,rfl,rfl,Zd,Grow.nil _ _ _⟩ Zw Zb ?_;rintro q σ fz6 H6 ⟨k,v6,nn,hk,rfl,rfl,hle6,hG6⟩;obtain ⟨A6,c6,rfl,_,_⟩:=hG6.form;refine wC ?_ ?_<;>intro c1
 ·obtain ⟨s,hs⟩:=Ye (l:=l) (k:=k) Zi;obtain ⟨b,hb⟩:=Ye (l:=D) (k:=k) Zi;have hbl:=hff k s b hs hb;refine wI (h4.mono hle6) hs (fun p1 hp1=>?_);refine zL hp1 ?_;intro cs hcs;obtain ⟨u0,u1,u2,u3,u4,u5,u6,u7,u8,u9,u10,u11,u12,u13,u14,u15,u16,u17,u18,u19,rfl,hR⟩:=Yag hcs;obtain ⟨P0,p0,q0,rfl,_⟩:=id hR.params;obtain ⟨⟨P1,p1,q1,rfl,_⟩,⟨P2,p2,q2,rfl,_⟩,⟨P3,p3,q3,rfl,_⟩,⟨P4,p4,q4,rfl,_⟩⟩:=id hR.start.sls;obtain ⟨⟨P5,p5,q5,rfl,_⟩,⟨P6,p6,q6,rfl,_⟩,⟨P7,p7,q7,rfl,_⟩,⟨P8,p8,q8,rfl,_⟩⟩:=id hR.all.sls;obtain ⟨⟨P9,p9,q9,rfl,_⟩,⟨P10,p10,q10,rfl,_⟩,⟨P11,p11,q11,rfl,_⟩,⟨P12,p12,q12,rfl,_⟩⟩:=id hR.over.sls;obtain ⟨⟨P13,p13,q13,rfl,_⟩,⟨P14,p14,q14,rfl,_⟩,⟨P15,p15,q15,rfl,_⟩,⟨P16,p16,q16,rfl,_⟩⟩:=id hR.fin.sls;obtain ⟨P17,p17,q17,rfl,_⟩:=id hR.early;obtain ⟨P18,p18,q18,rfl,_⟩:=id hR.late;obtain ⟨P19,p19,q19,rfl,iar⟩:=id hR.arguments;have lar:=iar.len;have sar:=iar.short;refine Yc (YS (fun ga=>?_));refine zW ?_;refine Yl (fun q σ fz' H'=>∃ (j:Nat) (v:Value) (mm:Nat) (Hs:HP),j<=p19/\q=p19 - j/\σ=[(44,Zk j),(43,Zk p19),(42,Zc P19 p19 q19),(36,Zk k),(35,Zk n),(34,Zc As n cS),(11,Zp ga),(10,Zk k),(9,v),(8,Zp gr)]/\Le fz6 fz'/\H'=(ga,Zu #[Zy s.name,Zc P0 p0 q0,Zy s.start.op,Zy s.start.name,Zc P1 p1 q1,Zc P2 p2 q2,Zc P3 p3 q3,Zc P4 p4 q4,Zy s.all.op,Zy s.all.name,Zc P5 p5 q5,Zc P6 p6 q6,Zc P7 p7 q7,Zc P8 p8 q8,Zy s.over.op,Zy s.over.name,Zc P9 p9 q9,Zc P10 p10 q10,Zc P11 p11 q11,Zc P12 p12 q12,Zy s.fin.op,Zy s.fin.name,Zc P13 p13 q13,Zc P14 p14 q14,Zc P15 p15 q15,Zc P16 p16 q16,Zc P17 p17 q17,Zc P18 p18 q18,Zo s.count,Zc P19 p19 q19] 78)::Hs/\Grow Ya4 61 fz' v mm Hs (YcW (l.take k) (D.take k)++Yhh s.name (s.arguments.take j) (b.take j))) ⟨0,_,nn,H6,Z0 _,rfl,rfl,Zd,rfl,by simpa [Yhh] using hG6⟩ Zw Zb ?_;rintro q σ fz7 H' ⟨j,v7,mm,H7,hj,rfl,rfl,hle7,rfl,hG7⟩;obtain ⟨A7,c7,rfl,_,_⟩:=hG7.form;have hx7:=hle6.trans hle7;refine wC ?_ ?_<;>intro c2
  ·obtain ⟨a,ha⟩:=Ye (l:=s.arguments) (k:=j) Zi;obtain ⟨x,hx⟩:=Ye (l:=b) (k:=j) Zi;have hgl:gD.length=n:=h6;obtain ⟨gg,hgg⟩:=Ye (l:=gD) (k:=k) Zi;have hz:(gD.zip (l.map fun s=>s.arguments.length))[k]?=some (gg,p19):=by
    rw [List.getElem?_zip_eq_some];refine ⟨hgg,?_⟩;rw [List.getElem?_map,hs];exact congrArg some lar
   have hfg:fz7 gg=some (.cells (b.map Value.bool).toArray 4 (0,0)):=hx7 _ _ (h7 _ (Zm (Yf2 hgg hb)));refine wI (iar.mono hle7) ha (fun p1 hp1=>?_)
   ((refine zG ?_);refine X8 hp1 (fun Ay ny cy hy=>?_));have ly:=hy.len;have sy:=hy.short;have hgr7:=hx7 _ _ h1;refine vI (h5.mono hx7) hz (fun p2 hp2=>?_);refine zG ?_;refine Xc hp2 ?_;refine wG ?_;refine Yn (z:=1) rfl ?_;refine zG ?_;refine YcP T Zz Zz Zz hfg (Yad hx) ?_;cases x with
   | false=>
    exact wP (h:=by exact ⟨j+1,_,mm,H7,by omega,rfl,rfl,hle7,rfl,hG7.of (by rw [YhN ha hx];simp) rfl⟩)
   | true=>
    have hlen7:mm<=8192:=by
     have e7:=hG7.len;have b1:=Ygy (l.take k) (D.take k);have b2:=Ynk l k;have b3:=Ykd (n:=s.name) (l:=s.arguments.take j) (b:=b.take j);have b4:s.arguments.length<=Ybz l:=YeA (f:=fun s:Schema=>s.arguments.length) (Zm hs);rw [List.length_append] at e7;rw [List.length_take] at b3;omega
    have hny:ny<=2000000:=by rw [<- ly];exact hlen s (Zm hs) a (Zm ha)
    refine zWN ?_;refine Y0 [(ga,_)] ?_;refine zW ?_;refine pU ?_;refine Yf (Yj [] ((ga,_)::H7) Zz (YbK hy Zi) (fun v8 fz8 H8 hle8 hR8=>?_));obtain ⟨A8,c8,rfl,_,_⟩:=hR8.form;refine ⟨⟨hle8,fun p hp=>List.mem_append_right _ (by simp at hp;subst hp;exact .head _)⟩,?_⟩;refine Ch.qk ⟨hle8,fun p hp=>List.mem_append_right _ (by simp at hp;subst hp;exact .head _)⟩ (XE ?_);refine Yf (Does.freeze (H1:=(ga,_)::H7) (H2:=H8) Zq (fun fz9 hle9 hf9=>?_));obtain ⟨B8,d8,e8,hS8⟩:=hR8.sl hle9 hf9 Zi;injection e8 with e81 e82 e83
    subst e81;subst e83;refine Yb (cs:=[Zk 0,Zy s.name,Zc A8 ny c8]) (fun gb=>⟨⟨hle8.trans hle9,fun p hp=>by simp at hp;subst hp;simp⟩,?_⟩);refine Yf (YC (Hr:=(gb,_)::(ga,_):: []) (d:=(s.name,a)) (Zr _) (hG7.mono (hle8.trans hle9)) Yc9 (.head _) ⟨_,rfl,hR.name,_,_,_,rfl,hS8⟩ (fun v10 H10 hO10=>⟨⟨hle8.trans hle9,fun p hp=>by simp at hp;subst hp;simp⟩,?_⟩));obtain ⟨A10,c10,rfl,_,_⟩:=hO10.form;refine Ch.qk ⟨hle8.trans hle9,fun p hp=>by simp at hp;subst hp;simp⟩ (YO ?_);refine Ch.done ?_;refine zW ?_;exact Ww ⟨j+1,_,mm+1,H10,by omega,rfl,rfl,hle7.trans (hle8.trans hle9),rfl,hO10.of (by rw [YhN ha hx,if_pos rfl,List.append_assoc]) rfl⟩ Zi Zw (List.Sublist.cons _ (List.Sublist.refl _))
  have hj2:j=p19:=by omega
  subst hj2;rw [Zl (show s.arguments.length<=j by omega),Zl (show b.length<=j by omega),<- Ynr hs hb] at hG7;refine zW ?_;exact Ww ⟨k+1,_,mm,by omega,rfl,rfl,hx7,hG7⟩ Zi Zw (List.Sublist.cons _ (List.Sublist.refl _))
 have hk2:k=n:=by omega
 subst hk2;rw [Zl Zi,Zl Zi] at hG6;exact wS (h:=by exact ⟨S0,hS0,_,by rw [hE,he];rfl,fun h=>absurd (by rw [hE];exact he) h,fun _=>⟨nn,by first | exact hG6 | (rw [hDD];exact hG6)⟩⟩)
theorem typed1_q {s:StepM} {x:Action} {g3:Nat} {t3:TypeId} (h3:fz g3=some (.cells #[Zk 0,Zy s.1,va] t3 (0,0))) (hcs:actionL.rep fz x cs):
 QFn prog 163 (.agg cs.toArray:: [Zp g3]) fz (Zo (decide (x.name=s.1))):=by
 obtain ⟨u0,u1,u2,u3,u4,u5,rfl,hR⟩:=Xg hcs;obtain ⟨P0,p0,q0,rfl,_⟩:=id hR.params;obtain ⟨⟨P1,p1,q1,rfl,_⟩,⟨P2,p2,q2,rfl,_⟩,⟨P3,p3,q3,rfl,_⟩,⟨P4,p4,q4,rfl,_⟩⟩:=id hR.pre.sls;obtain ⟨P5,p5,q5,rfl,_⟩:=id hR.changes;refine qF Tryz.func163 Tryz.ntmps163 (fun w0=>?_);refine pX (fun g9=>?_);refine wC ?_ ?_<;>intro c1
 ·exact wR (h:=by exact Yq c1)
 exact wR (h:=by exact Yi c1)
theorem typed2_q {nm:Bs} {x:Param} {g3:Nat} {t3:TypeId} (h3:fz g3=some (.cells #[Zy nm] t3 (0,0))) (hcs:paramL.rep fz x cs):
 QFn prog 164 (.agg cs.toArray:: [Zp g3]) fz (Zo (decide (x.name=nm))):=by
 obtain ⟨rfl,hRx⟩:=YK hcs;refine qF Tryz.func164 Tryz.ntmps164 (fun w0=>?_);refine pX (fun g9=>?_);refine wC ?_ ?_<;>intro c1
 ·exact wR (h:=by exact Yq c1)
 exact wR (h:=by exact Yi c1)
structure TypOk (M:Mn) (s:StepM) (a:Action):Prop where
 fd:∃ k:Nat,M.d.actions[k]?=some a/\a.name=s.1/\∀ j,j<k->∀ y:Action,M.d.actions[j]?=some y->¬y.name=s.1
 len:s.2.length=a.params.length
 typ:∀ (i:Nat) (x:Bs) (p:Param),s.2[i]?=some x->a.params[i]?=some p->x∈ofN M p.typ
theorem ofN_os {t x:Bs} (h:x∈ofN M t):∃ o∈M.os,o.name=x:=by
 unfold ofN ofT at h;obtain ⟨o,h1,h2⟩:=List.mem_map.1 h;exact ⟨o,(List.mem_filter.1 h1).1,h2⟩
theorem Ykn {p:α->Prop} {a b:α} (h1:l[k]?=some a) (h2:p a) (h3:∀ j,j<k->∀ y,l[j]?=some y->¬p y) (g1:l[i]?=some b) (g2:p b) (g3:∀ j,j<i->∀ y,l[j]?=some y->¬p y):a=b:=by
 rcases Nat.lt_trichotomy k i with h | h | h
 ·exact absurd h2 (g3 k h a h1)
 ·subst h;rw [h1] at g1;exact Option.some.inj g1
 exact absurd g2 (h3 i h b g1)
theorem TypOk.one {s:StepM} {a b:Action} (h:TypOk M s a) (g:TypOk M s b):a=b:=by
 obtain ⟨k,h1,h2,h3⟩:=h.fd;obtain ⟨i,g1,g2,g3⟩:=g.fd;exact Ykn (p:=fun y:Action=>y.name=s.1) h1 h2 h3 g1 g2 g3
theorem typed_f {s:StepM} (hM:MnR fz v M) (hs:Ya4.rep fz s [Zk 0,Zy s.1,va]):
 GFn prog 87 [v,.agg #[Zk 0,Zy s.1,va]] fz [] (fun r fz' H'=>H'=[]/\∃ cs e a,r=.tuple #[.agg (List.toArray cs),errV e]/\actionL.rep fz' a cs/\(e=0->TypOk M s a)/\(e≠0->∀ a,¬TypOk M s a)):=by
 have hM0:=hM;obtain ⟨⟨g,v1,v2,v3,v4,v5,v6,a7,a8,a9,a10,a11,a12,a13,a14,a15,a16,a17,vf,A,n,c,rfl,hg,hD,hF,hO⟩,hw,hm⟩:=hM;obtain ⟨va',he,hsn,hsa⟩:=hs;simp at he;subst he;obtain ⟨B,m,d,rfl,ia⟩:=hsa;obtain ⟨A5,n5,c5,rfl,i5⟩:=hD.actions;have lb:=ia.len;have sb:=ia.short;have l5:=i5.len;refine zF Tryz.func87 Tryz.ntmps87 (fun w0=>?_);refine pX (fun g3=>?_);refine zW ?_;intros;rename_i g4;refine zG ?_;refine YX ?_;refine zG ?_;refine WE (fun fz' hle hf=>Ydr (cap:=[Zp g3]) (p:=fun y:Action=>y.name=s.1) (i5.mono hle) (fun y _ cs hcs=>typed1_q (s:=s) (hf _ (.tail _ (.head _))) hcs)) ?_;rcases YfJ (p:=fun y:Action=>y.name=s.1) M.d.actions with hno | ⟨k,a,hk1,hk2,hk3⟩
 ·rw [Xm hno];refine wC ?_ ?_<;>intro c0;rotate_left 1
  ·exact absurd Zh c0
  refine zW ?_;exact YaV T (vs:=[.agg #[Ze,Zn,Zk 0,Ze,Ze,Zn,Zn,Zn,Zn,Zn],.iface 84 (Zk 8)]) ⟨⟨_,_,0,_,_,_,rfl,rfl,rfl,rfl,rfl,rfl⟩,rfl,trivial⟩ (fun fz3 hle3 hf3=>⟨rfl,_,8,_,rfl,YkM (x:=⟨⟨#[]⟩,[],0,Ydx,[]⟩) ⟨Y1,IsSl.nil,XH,YkT,IsSl.nil⟩,Za,fun _ a ha=>by
   obtain ⟨k,h1,h2,_⟩:=ha.fd;exact hno a (Zm h1) h2⟩)
 have hkl:k<M.d.actions.length:=(Zg hk2).1;have s5:=i5.short;rw [XO hk1 hk2 hk3,Int.zero_add];refine wC ?_ ?_<;>intro c0
 ·exact absurd c0 Zi
 refine wI i5 hk2 (fun p9 hp9=>?_);refine zL hp9 ?_;intro cs hcs;have hcs0:=hcs;obtain ⟨u0,u1,u2,u3,u4,u5,rfl,hR⟩:=Xg hcs;obtain ⟨P0,p0,q0,rfl,i0⟩:=id hR.params;obtain ⟨⟨P1,p1,q1,rfl,_⟩,⟨P2,p2,q2,rfl,_⟩,⟨P3,p3,q3,rfl,_⟩,⟨P4,p4,q4,rfl,_⟩⟩:=id hR.pre.sls;obtain ⟨P5,p5,q5,rfl,_⟩:=id hR.changes;have l0:=i0.len;refine zW ?_;intros;rename_i g7;have hfail:∀ (e:Int) (fz3:FZ),Le fz fz3->e≠0->(∀ b,¬TypOk M s b)->∃ cs' e' a',Value.tuple #[.agg #[Zy a.name,Zc P0 p0 q0,Zk a.cost,Zy a.pre.op,Zy a.pre.name,Zc P1 p1 q1,Zc P2 p2 q2,Zc P3 p3 q3,Zc P4 p4 q4,Zc P5 p5 q5],.iface 84 (Zk e)]=(.tuple #[.agg (List.toArray cs'),errV e']:Value)/\actionL.rep fz3 a' cs'/\(e'=0->TypOk M s a')/\(e'≠0->∀ a,¬TypOk M s a):=
  fun e fz3 hle he hno=>⟨_,e,a,by rw [YA he],actionL.mono hle hcs0,fun h=>absurd h he,fun _=>hno⟩
 have hone:∀ b,TypOk M s b->b=a:=fun b hb=>by
  obtain ⟨i,g1,g2,g3⟩:=hb.fd;exact Ykn (p:=fun y:Action=>y.name=s.1) g1 g2 g3 hk2 hk3 hk1
 refine zC ?_ ?_<;>intro c1
 ·refine zW ?_;exact YaV T (vs:=[.agg #[Zy a.name,Zc P0 p0 q0,Zk a.cost,Zy a.pre.op,Zy a.pre.name,Zc P1 p1 q1,Zc P2 p2 q2,Zc P3 p3 q3,Zc P4 p4 q4,Zc P5 p5 q5],.iface 84 (Zk 11)]) ⟨⟨_,_,1,_,_,_,rfl,rfl,rfl,rfl,rfl,rfl⟩,rfl,trivial⟩ (fun fz3 hle3 hf3=>⟨rfl,hfail 11 fz3 hle3 Zh fun b hb=>by
   have:=hb.len;have e:=hone b hb;subst e;exact absurd this Zi⟩)
 have hlen:s.2.length=a.params.length:=by omega
 refine zW ?_;refine Wn m (fun k=>[(43,Zk k),(42,Zk m),(41,Zc B m d),(7,Zp g7),(4,Zp g4),(3,Zp g3),(0,Zp g)]) [(g7,Zu #[Zy a.name,Zc P0 p0 q0,Zk a.cost,Zy a.pre.op,Zy a.pre.name,Zc P1 p1 q1,Zc P2 p2 q2,Zc P3 p3 q3,Zc P4 p4 q4,Zc P5 p5 q5] 91),(g4,Zu #[Ze,Zn,Zk 0,Ze,Ze,Zn,Zn,Zn,Zn,Zn] 91),(g3,Zu #[Zk 0,Zy s.1,Zc B m d] 61)] (fun k=>(∀ i,i<k->∀ x,s.2[i]?=some x->∃ o∈M.os,o.name=x)) (fun i hi=>absurd hi Zi) ?_;intro k hk hh;refine wC ?_ ?_<;>intro c2
 ·obtain ⟨x,hx⟩:=Ye (l:=s.2) (k:=k) Zi;refine wI ia hx (fun p8 hp8=>?_);refine zH hp8 (fun ix=>?_);refine zW ?_;intros;rename_i g9;refine zG ?_;refine YX ?_;refine zG ?_;refine Ycr (b:=decide (∃ o∈M.os,o.name=x)) (fun fz' hle hf=>YcH (cap:=[Zp g9]) (p:=fun o:Param=>o.name=x) (hO.mono hle) (fun o _ cs hcs=>typed2_q (hf _ (.head _)) hcs)) (fun f1=>?_) (fun f1=>?_)
  ·have f1:=Zt f1;exact wM (h:=by exact YF hh hx f1)
  have f1:=Zf f1;refine zW ?_;exact YaV T (vs:=[.agg #[Zy a.name,Zc P0 p0 q0,Zk a.cost,Zy a.pre.op,Zy a.pre.name,Zc P1 p1 q1,Zc P2 p2 q2,Zc P3 p3 q3,Zc P4 p4 q4,Zc P5 p5 q5],.iface 84 (Zk 3)]) ⟨⟨_,_,2,_,_,_,rfl,rfl,rfl,rfl,rfl,rfl⟩,rfl,trivial⟩ (fun fz3 hle3 hf3=>⟨rfl,hfail 3 fz3 hle3 Zh fun b hb=>by
   have e:=hone b hb;subst e;obtain ⟨p,hp⟩:=Ye (l:=b.params) (k:=k) Zi;exact f1 (ofN_os (hb.typ k x p hx hp))⟩)
 refine zW ?_;refine Yl (fun q σ fz' H'=>∃ k:Nat,k<=m/\q=m - k/\σ=[(60,Zk k),(59,Zk m),(58,Zc B m d),(7,Zp g7),(4,Zp g4),(0,Zp g)]/\Le fz fz'/\H'=[(g7,Zu #[Zy a.name,Zc P0 p0 q0,Zk a.cost,Zy a.pre.op,Zy a.pre.name,Zc P1 p1 q1,Zc P2 p2 q2,Zc P3 p3 q3,Zc P4 p4 q4,Zc P5 p5 q5] 91),(g4,Zu #[Ze,Zn,Zk 0,Ze,Ze,Zn,Zn,Zn,Zn,Zn] 91),(g3,Zu #[Zk 0,Zy s.1,Zc B m d] 61)]/\(∀ i,i<k->∀ x,s.2[i]?=some x->∀ p,a.params[i]?=some p->x∈ofN M p.typ)) ⟨0,Z0 _,rfl,rfl,Zd,rfl,fun i hi=>absurd hi Zi⟩ Zw Zb ?_;rintro q σ fz1 H' ⟨k,hk,rfl,rfl,hle1,rfl,hi⟩;refine wC ?_ ?_<;>intro c3
 ·obtain ⟨x,hx⟩:=Ye (l:=s.2) (k:=k) Zi;obtain ⟨p,hp⟩:=Ye (l:=a.params) (k:=k) Zi;refine wI (ia.mono hle1) hx (fun p8 hp8=>?_);refine zH hp8 (fun ix=>?_);refine wI (i0.mono hle1) hp (fun p7 hp7=>?_);refine wH hp7.Param_typ (fun iy=>?_);refine zW ?_;refine Yc (Yj [] [_,_,_] Zz (Yni (t:=p.typ) (hM0.mono hle1)) (fun v4 fz4 H4 hle4 hR4=>?_));obtain ⟨rfl,B4,m4,c4,rfl,hS4⟩:=hR4;refine wb (YdK (x:=x) hS4) (fun f2=>?_) (fun f2=>?_)
  ·have hnx:∀ i,i<k+1->∀ x,s.2[i]?=some x->∀ p,a.params[i]?=some p->x∈ofN M p.typ:=fun i h' x' hx' p' hp'=>by
    rcases Nat.lt_or_ge i k with h | h
    ·exact hi i h x' hx' p' hp'
    have e:i=k:=by omega
    subst e;rw [hx] at hx';rw [hp] at hp';cases hx';cases hp';exact Zt f2
   exact wP (h:=by exact ⟨k+1,by omega,rfl,rfl,hle1.trans hle4,rfl,hnx⟩)
  have f2:=Zf f2;refine zW ?_;exact YaV T (vs:=[.agg #[Zy a.name,Zc P0 p0 q0,Zk a.cost,Zy a.pre.op,Zy a.pre.name,Zc P1 p1 q1,Zc P2 p2 q2,Zc P3 p3 q3,Zc P4 p4 q4,Zc P5 p5 q5],.iface 84 (Zk 9)]) ⟨⟨_,_,1,_,_,_,rfl,rfl,rfl,rfl,rfl,rfl⟩,rfl,trivial⟩ (fun fz3 hle3 hf3=>⟨rfl,hfail 9 fz3 ((hle1.trans hle4).trans hle3) Zh fun b hb=>by
   have e:=hone b hb;subst e;exact f2 (hb.typ k x p hx hp)⟩)
 have hok:TypOk M s a:=⟨⟨_,hk2,hk3,hk1⟩,hlen,fun i x p hx hp=>hi i (by have:=(Zg hx).1;omega) x hx p hp⟩;refine zW ?_;exact YaV T (vs:=[.agg #[Zy a.name,Zc P0 p0 q0,Zk a.cost,Zy a.pre.op,Zy a.pre.name,Zc P1 p1 q1,Zc P2 p2 q2,Zc P3 p3 q3,Zc P4 p4 q4,Zc P5 p5 q5],.nilIface]) ⟨⟨_,_,1,_,_,_,rfl,rfl,rfl,rfl,rfl,rfl⟩,rfl,trivial⟩ (fun fz3 hle3 hf3=>⟨rfl,_,0,a,rfl,actionL.mono (hle1.trans hle3) hcs0,fun _=>hok,fun h=>absurd rfl h⟩)
def Yep {α:Type} (C:α->α->Int) (l:List α):Prop:=∀ (i j:Nat) (a b:α),i<j->l[i]?=some a->l[j]?=some b->¬C b a<0
theorem sortG {ρ:Go.Shelf.Ren} (Ly:Go.Proofs.SlLaysF0.n6 prog ρ) {f6:FuncId} (hf6:ρ.f 6=f6) (hca:YbR prog f6) (hone:OneC L) {z:Nat} (hz:L.size=z) (hz0:0<z) (hag:∀ W,(isAgg (ρ.t 24)).run prog W=.ok true W) (hsi:∀ W,(Go.sizeOf (ρ.t 24)).run prog W=.ok z W)
 {C:α->α->Int} (hsw:∀ {β:Type} (f:β->α),Go.Sort.SWO (ltOf fun x y=>C (f x) (f y))) {fc:FuncId} (hen:∀ args w,(callFunc fc args).run prog w=.ok (.enter fc args) w)
 (hcf:∀ {fz:FZ} {a b:α} {ca cb:List Value},L.rep fz a ca->L.rep fz b cb->@GFn drT prog fc [.agg ca.toArray,.agg cb.toArray] fz [] (fun r fz' H'=>H'=[]/\r=Zk (C a b))) {cap:Nat} {cur:List Value} (hB:GrowB L t fz g n cap cur l) (hn:0<n) (hn2:n<=2000000):
 GFn prog f6 [Zv g n cap,.func (.func fc) #[] #[]] fz [(g,Zu cur.toArray t)]
  (fun r fz' H'=>r=.tuple #[]/\fz=fz'/\∃ cur' l',H'=[(g,Zu (List.toArray cur') t)]/\GrowB L t fz g n cap cur' l'/\l'.Perm l/\Yep C l'):=by
 subst hf6;obtain ⟨xs,e1,e2,e3⟩:=hB.pairs;have hxl:xs.length=n:=by have:=hB.len;rw [<- e1,List.length_map] at this;exact this
 have hsz:=hB.size;have hcap:=hB.capn;rw [hz] at hsz e3;refine GFn.of hca (fun w hw=>?_);have hg:=hw.own (g,Zu cur.toArray t) (.head _);simp only at hg;have hgs:=lt_of_heap hg.1;obtain ⟨x0,hx0⟩:=Ye (l:=xs) (k:=0) Zi
 haveI:Inhabited {x:α × List Value // L.rep fz x.1 x.2}:=⟨⟨x0,e2 x0 (Zm hx0)⟩⟩
 generalize hds:(xs.attach.map fun p=>(⟨p.1,e2 p.1 p.2⟩:{x:α × List Value // L.rep fz x.1 x.2}))=ds;have hdm:ds.map (·.1)=xs:=by rw [<- hds,List.map_map];exact List.attach_map_subtype_val xs
 have hdl:ds.length=n:=by rw [<- hxl,<- hdm,List.length_map]
 have hk2:∀ x:{x:α × List Value // L.rep fz x.1 x.2},x.1.2.length=z:=fun x=>(L.len x.2).trans hz
 have h1c:∀ x:{x:α × List Value // L.rep fz x.1 x.2},∀ v∈x.1.2,v.oneCell'=true:=fun x v hv=>hone _ _ _ x.2 v hv
 have hpos:∀ (k:Nat) (cs:List Value) (ys:List {x:α × List Value // L.rep fz x.1 x.2}),True:=fun _ _ _=>trivial
 have hcell:∀ (ys:List {x:α × List Value // L.rep fz x.1 x.2}) (j:Nat),j<ys.length*z->∃ v,((ys.map (·.1)).flatMap Prod.snd)[j]?=some v/\(Go.Sort.flatK (fun x:{x:α × List Value // L.rep fz x.1 x.2}=>x.1.2) z ys.toArray)[j]! =v:=by
  intro ys j hj;obtain ⟨y,hy⟩:=Ye (l:=ys) (k:=j / z) ((Nat.div_lt_iff_lt_mul hz0).2 hj);obtain ⟨v,hv⟩:=Ye (l:=y.1.2) (k:=j % z) (by rw [hk2 y];exact Nat.mod_lt _ hz0);have hf:=Yea (z:=z) (l:=ys.map (·.1)) (i:=j / z) (j:=j % z) (x:=y.1) (u:=v) (fun p hp=>by
   obtain ⟨q,_,rfl⟩:=List.mem_map.1 hp;exact hk2 q) (by rw [List.getElem?_map,hy];rfl) hv
  rw [Nat.div_add_mod'] at hf;refine ⟨v,hf,?_⟩;rw [Go.Sort.get_flatK _ _ _ _ (by simpa using hj),list_get! hy];exact Yj4 hv
 have hcmp:CmpLays prog fc #[] (fun x:{x:α × List Value // L.rep fz x.1 x.2}=>x.1.2) z (fun x y=>C x.1.1 y.1.1) g 0 ds.toArray.size w:=by
  intro m os dk _ x y;have hD:=@GFn.out drT _ _ _ _ _ _ (hcf x.2 y.2) (sortWorldK (fun x:{x:α × List Value // L.rep fz x.1 x.2}=>x.1.2) z w g 0 m dk os) ⟨fun b o hbo=>by
   have h1:=hw.keep b o hbo;rw [Yez (lt_of_heap h1) (fun e=>by subst e;rw [hg.2] at hbo;cases hbo)];exact h1,by simp,by simp⟩
  refine hD.mono fun e w' hh=>?_
  obtain ⟨v,fz',H',he,⟨_,rfl⟩,_,hfr,_⟩:=hh;exact ⟨he,Yhr hfr⟩
 have hH:Go.Sort.HoldsK (fun x:{x:α × List Value // L.rep fz x.1 x.2}=>x.1.2) z w g 0 ds.toArray:=by
  intro j hj;rw [Go.Sort.size_flatK] at hj;simp only [List.size_toArray] at hj;obtain ⟨v,h1,h2⟩:=hcell ds j hj;rw [hdm,<- e3] at h1;refine ⟨?_,?_⟩
  ·rw [h2];show w.cell? ⟨g,0+j,none⟩=some v;rw [List.getElem?_take_of_lt (by rw [<- hdl];exact hj)] at h1;simp [World.cell?,hg.1,h1]
  simp [World.frozen?,hg.1]
 have hcon:=AnyQ.slices_SortFunc Ly z hag hsi (fun x:{x:α × List Value // L.rep fz x.1 x.2}=>x.1.2) hk2 h1c (fun x y=>C x.1.1 y.1.1) (hsw (fun x:{x:α × List Value // L.rep fz x.1 x.2}=>x.1.1)) fc #[] g 0 cap ds.toArray w hen hcmp hH hgs (by simp;omega);simp only [List.size_toArray,hdl] at hcon;refine Calls.mono hcon fun e w' hh=>?_
 obtain ⟨he,d',m,os,hp,hs,rfl⟩:=hh;have hsd:d'.size=n:=by rw [hp.1];simp [hdl]
 obtain ⟨ys,rfl⟩:∃ ys:List {x:α × List Value // L.rep fz x.1 x.2},d'=ys.toArray:=⟨d'.toList,by simp⟩;simp only [List.size_toArray] at hsd;have hperm:ys.Perm ds:=by
  have h:=hp.2.2;rw [show (ys.toArray.extract 0 n)=ys.toArray from by rw [<- hsd];simp,show (ds.toArray.extract 0 n)=ds.toArray from by rw [<- hdl];simp] at h;simpa using h
 have hgw:=Yjw (enc:=fun x:{x:α × List Value // L.rep fz x.1 x.2}=>x.1.2) (k:=z) (m:=m) (dk:=ys.toArray) (os:=os) hg.1;generalize hF:Go.Sort.flatK (fun x:{x:α × List Value // L.rep fz x.1 x.2}=>x.1.2) z ys.toArray=F at hgw;have hFs:F.size=n*z:=by rw [<- hF,Go.Sort.size_flatK];simp [hsd]
 have hFc:∀ j,j<n*z->∃ v,((ys.map (·.1)).flatMap Prod.snd)[j]?=some v/\F[j]! =v:=fun j hj=>by
  have:=hcell ys j (by rw [hsd];exact hj)
  rwa [hF] at this
 refine ⟨_,fz,[(g,Zu (List.toArray (Go.Sort.putCells id 0 F cur.toArray).toList) t)],he,⟨rfl,rfl,_,ys.map (·.1.1),rfl,⟨⟨ys.map (·.1),by rw [List.map_map];rfl,fun p hp=>?_,?_⟩,by rw [List.length_map];exact hsd,hcap,hB.max,?_⟩,?_,?_⟩,⟨fun b o hbo=>?_,fun p hp=>?_,by simp⟩,⟨rfl,rfl,rfl,?_,fun b hb hnb=>?_,fun h=>h.elim⟩,⟨fun _ _ h=>h,fun _ _ _=>rfl,fun p hp=>?_⟩⟩
 ·obtain ⟨q,_,rfl⟩:=List.mem_map.1 hp;exact q.2
 ·rw [hz];refine List.ext_getElem? fun j=>?_
  by_cases hj:j<n*z
  ·obtain ⟨v,h1,h2⟩:=hFc j hj;have hlt:j<cur.length:=by rw [hsz];exact Nat.lt_of_lt_of_le hj (Nat.mul_le_mul_right z hcap)
   rw [h1,List.getElem?_take_of_lt hj,Array.getElem?_toList];unfold Go.Sort.putCells;simp [hlt,hFs,hj];rw [<- h2];exact (getElem!_pos F j Zi).symm
  rw [List.getElem?_eq_none (by rw [List.length_take];omega),List.getElem?_eq_none];rw [Yax (z:=z) (fun p hp=>by
   obtain ⟨q,_,rfl⟩:=List.mem_map.1 hp;exact hk2 q),List.length_map,hsd]
  omega
 ·unfold Go.Sort.putCells;simp [hsz,hz]
 ·have h1:=hperm.map (fun x:{x:α × List Value // L.rep fz x.1 x.2}=>x.1.1);have h2:ds.map (fun x:{x:α × List Value // L.rep fz x.1 x.2}=>x.1.1)=l:=by rw [<- e1,<- hdm,List.map_map];rfl
  rw [h2] at h1;exact h1
 ·intro i j a b hij ha hb;rw [List.getElem?_map] at ha hb;cases hya:ys[i]? with
  | none=>rw [hya] at ha;cases ha
  | some p=>
   cases hyb:ys[j]? with
   | none=>rw [hyb] at hb;cases hb
   | some q=>
    rw [hya] at ha;rw [hyb] at hb;injection ha with ha;injection hb with hb
    have h:=hs i j (Z0 _) hij (by have:=(Zg hyb).1;omega);rw [list_get! hya,list_get! hyb] at h;unfold ltOf at h;have h:=Zf h;rw [<- ha,<- hb];exact h
 ·have h1:=hw.keep b o hbo;rw [Yez (lt_of_heap h1) (fun e=>by subst e;rw [hg.2] at hbo;cases hbo)];exact h1
 ·rw [List.mem_singleton] at hp;subst hp;exact ⟨by simpa using hgw,hg.2⟩
 ·unfold sortWorldK Go.Sort.grow Go.Sort.putRowK Go.Sort.putRow Go.Sort.mapBlock Go.Sort.ahead;simp
 ·exact Yez hb (fun e=>hnb (by simp [e]))
 rw [List.mem_singleton] at hp;subst hp;exact .inl (by simp)
end Go.Proofs.YtdbfccanbbbjkaaGreatDoor
