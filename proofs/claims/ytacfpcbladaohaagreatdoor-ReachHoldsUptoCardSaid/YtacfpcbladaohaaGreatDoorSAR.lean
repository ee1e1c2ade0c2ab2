/- The texts QW, QY, QX, QZ, QLn, UJ, laid together. Conditions: none. -/
import Derived.Test.YtacfpcbladaohaaGreatDoorSAQ
set_option linter.all false
set_option maxHeartbeats 32000000
noncomputable section
set_option maxRecDepth 20000
open Go.Lx Go.RowKit
attribute [local instance 10] Classical.propDecidable
open Go.Proofs.Tryz (prog)
namespace Go.Lx
open Go.RowKit
section
variable {P:Program} {cx:Cx} {r:Operand->Option Value} {fz:FZ} {H:HP} {dst:Option Nat} {ty:TypeId} {pos:String} {af:Array Edge} {gd:Option (Nat × Bool)}
variable {X:Ty} {cs:List Value} {g j:Nat} {t t':TypeId} {v:Value} {x y:Operand}
theorem Yfk (T:Tab P) {pre post H2:HP} {K:Value->FZ->HP->Prop} (hT:T.inf t=some X)
 (hx:r x=some (.pointer (some ⟨g,j,none⟩))) (hy:r y=some v) (hH:H=pre++(g,Zu cs.toArray t')::post) (hs:X.size=1) (hv:v.cells=#[v]) (h1:v.oneCell'=true) (hj:j<cs.length)
 (hE:pre++(g,.cells (cs.set j v).toArray t' (0,0))::post=H2) (h:K undef fz H2):Does P cx ⟨dst,.store t x y,ty,pos,af,gd⟩ r fz H K:=YgC (by rw [hE];exact h) (hT:=hT) (hx:=hx) (hy:=hy) (hH:=hH) (hs:=hs) (hv:=hv) (h1:=h1) (hj:=hj)
end
end Go.Lx
namespace Go.Proofs.YtacfpcbladaohaaGreatDoor
variable {α:Type} {b:Bool} {j g k i n:Nat} {K:Kn} {S:List Atom} {fz:FZ} {m:List (Bs × Value)} {l:List α}
structure SSh (s:Schema):Prop where
 start:HSh s.start
 all:HSh s.all
 early:∀ c∈s.early,CSh c
 late:∀ c∈s.late,CSh c
 args:∀ a∈s.arguments,a.length=s.params.length/\∀ t∈a,PlnS t
theorem extE_P:∀ (l:List (Param × Bs)) {E:EnvM},EnvP E->(∀ z∈l,PlnS z.2)->EnvP (l.foldl (fun E z=>setE E z.1.name z.2) E)
 | [],_,h,_=>h
 | z::l,E,h,hl=>extE_P l (h.set (hl z (by simp))) (fun y hy=>hl y (by simp [hy]))
theorem envA_P {s:Schema} {a:List Bs} (h:∀ t∈a,PlnS t):EnvP (envA s a):=by
 unfold envA extE;refine extE_P _ (fun x y h=>by cases h) (fun z hz=>h z.2 ?_);exact (List.of_mem_zip hz).2
theorem W4 {bs:List Bool} (h:bs[j]?=some b):(bs.map Value.bool)[(j:Int).toNat*1]?=some (Zo b):=by
 rw [Int.toNat_natCast,Nat.mul_one,List.getElem?_map,h];rfl
theorem Ymr {bs:List Bool}:(bs.map Value.bool).set ((j:Int).toNat*1) (Zo b)=(bs.set j b).map Value.bool:=by
 rw [Int.toNat_natCast,Nat.mul_one,List.map_set]
theorem Yez {gB gD:List Nat} {B D:List (List Bool)} {b:List Bool} {x y:Nat × Obj} (hg:gB[k]?=some g) (hb:B[k]?=some b):(x::y::(rowsO gB B++rowsO gD D))[k+2]?=some (g,.cells (b.map Value.bool).toArray 4 (0,0)):=by
 have h:=Ygb hg hb;have hlt:=(Zg h).1;rw [List.getElem?_cons_succ,List.getElem?_cons_succ,List.getElem?_append_left hlt];exact h
theorem YkZ {gB gD:List Nat} {B D:List (List Bool)} {b:List Bool} {x y:Nat × Obj} (hl:gB.length=B.length) (hg:gD[k]?=some g) (hb:D[k]?=some b):(x::y::(rowsO gB B++rowsO gD D))[gB.length+k+2]?=some (g,.cells (b.map Value.bool).toArray 4 (0,0)):=by
 have h:=Ygb hg hb;have hlB:=YoE hl;rw [List.getElem?_cons_succ,List.getElem?_cons_succ,List.getElem?_append_right Zi,hlB,Nat.add_sub_cancel_left];exact h
theorem Ymb {a b:α}:(l.set i a).set i b=l.set i b:=by rw [List.set_set]
theorem round_f {gr gk gs:Nat} {gB gD:List Nat} {B D:List (List Bool)} {l:List Schema} {As Ab Ad:Option Addr} {cS cb cd:Nat}
 (hr:fz gr=some (Zu #[Zp gk,Zc As n cS,.map (some gs),Zc Ab n cb,Zc Ad n cd] 81)) (hK:KnR fz (Zp gk) K) (hOs:∀ o∈K.os,PlnS o.name) (hSet:SetM fz m S)
 (hl:Sl schemaL fz As n cS l) (hB:Sl rowL fz Ab n cb (gB.zip (l.map fun s=>s.arguments.length))) (hD:Sl rowL fz Ad n cd (gD.zip (l.map fun s=>s.arguments.length))) (lB:gB.length=l.length) (lD:gD.length=l.length) (fB:FitR l B) (fD:FitR l D) (hSh:∀ s∈l,SSh s):
 GFn prog 43 [Zp gr] fz ((gs,mapS m)::(rowsO gB B++rowsO gD D)) (fun r fz' H'=>r=Zo (Xq K l S B D).n/\∃ m',H'=(gs,mapS m')::(rowsO gB (Xq K l S B D).B++rowsO gD (Xq K l S B D).D)/\SetM fz' m' (Xq K l S B D).S):=by
 have ll:=hl.len;have sn:=hl.short;generalize hw0:(⟨S,B,D,false⟩:RndS)=w0';have e0:w0'.S=S/\w0'.B=B/\w0'.D=D/\w0'.n=false:=by subst hw0;exact ⟨rfl,rfl,rfl,rfl⟩
 have hM:Xq K l S B D=rndN K l l.length w0':=by rw [<- hw0];rfl
 refine zF Tryz.func43 Tryz.ntmps43 (fun w0=>?_);refine zW ?_;refine Yi (fun q σ fz' H'=>∃ (k:Nat) (m:List (Bs × Value)),k<=n/\q=n - k/\σ=[(14,Zk k),(13,Zk n),(12,Zc As n cS),(3,Zo (rndN K l k w0').n),(0,Zp gr)]/\Le fz fz'/\H'=(gs,mapS m)::(rowsO gB (rndN K l k w0').B++rowsO gD (rndN K l k w0').D)/\SetM fz' m (rndN K l k w0').S)
  ⟨0,m,Z0 _,rfl,by rw [rndN,e0.2.2.2],Zd,by rw [rndN,e0.2.1,e0.2.2.1],by rw [rndN,e0.1];exact hSet⟩ Zw Zb ?_
 rintro q σ fz1 H' ⟨k,m1,hk,rfl,rfl,hle1,rfl,hS1⟩;have hfit:=Yd0 (K:=K) k (w:=w0') (by rw [e0.2.1];exact fB) (by rw [e0.2.2.1];exact fD);generalize hw:rndN K l k w0'=w at hS1 hfit;obtain ⟨fB1,fD1⟩:=hfit;refine wC ?_ ?_<;>intro c1
 ·obtain ⟨s,hs⟩:=Yc (l:=l) (k:=k) Zi;have hnx:=YjS (K:=K) (w:=w0') hs;rw [hw] at hnx;have hsh:=hSh s (Zm hs);obtain ⟨gb,hgb⟩:=Yc (l:=gB) (k:=k) Zi;obtain ⟨gd,hgd⟩:=Yc (l:=gD) (k:=k) Zi;obtain ⟨b0,hb0⟩:=Yc (l:=w.B) (k:=k) (by rw [fB1.1];omega);obtain ⟨d0,hd0⟩:=Yc (l:=w.D) (k:=k) (by rw [fD1.1];omega);have lb0:=fB1.2 k s b0 hs hb0;have ld0:=fD1.2 k s d0 hs hd0;have hkB:=(Zg hb0).1;have hkD:=(Zg hd0).1;have eB:(gB.zip (l.map fun s=>s.arguments.length))[k]?=some (gb,s.arguments.length):=by rw [List.getElem?_zip_eq_some];exact ⟨hgb,by rw [List.getElem?_map,hs];rfl⟩
  have eD:(gD.zip (l.map fun s=>s.arguments.length))[k]?=some (gd,s.arguments.length):=by rw [List.getElem?_zip_eq_some];exact ⟨hgd,by rw [List.getElem?_map,hs];rfl⟩
  unfold stepW at hnx;rw [hb0,hd0] at hnx;simp only [Option.getD_some] at hnx;generalize hst0:(⟨w.S,b0,d0,w.n⟩:RowS)=st0 at hnx;have f0:st0.S=w.S/\st0.bs=b0/\st0.ds=d0/\st0.n=w.n:=by subst hst0;exact ⟨rfl,rfl,rfl,rfl⟩
  refine wI (hl.mono hle1) hs (fun pp1 hp1=>?_);refine zL hp1 ?_;intro cs hcs;obtain ⟨u0,u1,u2,u3,u4,u5,u6,u7,u8,u9,u10,u11,u12,u13,u14,u15,u16,u17,u18,u19,rfl,hR⟩:=Yaa hcs;obtain ⟨P0,p0,q0,rfl,ip⟩:=id hR.params;obtain ⟨⟨P1,p1,q1,rfl,_⟩,⟨P2,p2,q2,rfl,_⟩,⟨P3,p3,q3,rfl,_⟩,⟨P4,p4,q4,rfl,_⟩⟩:=id hR.start.sls;obtain ⟨⟨P5,p5,q5,rfl,_⟩,⟨P6,p6,q6,rfl,_⟩,⟨P7,p7,q7,rfl,_⟩,⟨P8,p8,q8,rfl,_⟩⟩:=id hR.all.sls;obtain ⟨⟨P9,p9,q9,rfl,_⟩,⟨P10,p10,q10,rfl,_⟩,⟨P11,p11,q11,rfl,_⟩,⟨P12,p12,q12,rfl,_⟩⟩:=id hR.over.sls;obtain ⟨⟨P13,p13,q13,rfl,_⟩,⟨P14,p14,q14,rfl,_⟩,⟨P15,p15,q15,rfl,_⟩,⟨P16,p16,q16,rfl,_⟩⟩:=id hR.fin.sls;obtain ⟨P17,p17,q17,rfl,ie⟩:=id hR.early;obtain ⟨P18,p18,q18,rfl,il⟩:=id hR.late;obtain ⟨P19,p19,q19,rfl,iar⟩:=id hR.arguments;have lar:=iar.len;have sar:=iar.short;have lpar:=ip.len;refine zW ?_;intros;rename_i g5;refine Yi (fun q σ fz' H'=>∃ (j:Nat) (m:List (Bs × Value)),j<=p19/\q=p19 - j/\σ=[(22,Zk j),(21,Zk p19),(20,Zc P19 p19 q19),(14,Zk k),(13,Zk n),(12,Zc As n cS),(5,Zp g5),(4,Zk k),(3,Zo (rowN K s j st0).n),(0,Zp gr)]/\Le fz1 fz'/\H'=(g5,Zu #[Zy s.name,Zc P0 p0 q0,Zy s.start.op,Zy s.start.name,Zc P1 p1 q1,Zc P2 p2 q2,Zc P3 p3 q3,Zc P4 p4 q4,Zy s.all.op,Zy s.all.name,Zc P5 p5 q5,Zc P6 p6 q6,Zc P7 p7 q7,Zc P8 p8 q8,Zy s.over.op,Zy s.over.name,Zc P9 p9 q9,Zc P10 p10 q10,Zc P11 p11 q11,Zc P12 p12 q12,Zy s.fin.op,Zy s.fin.name,Zc P13 p13 q13,Zc P14 p14 q14,Zc P15 p15 q15,Zc P16 p16 q16,Zc P17 p17 q17,Zc P18 p18 q18,Zo s.count,Zc P19 p19 q19] 113)::(gs,mapS m)::(rowsO gB (w.B.set k (rowN K s j st0).bs)++rowsO gD (w.D.set k (rowN K s j st0).ds))/\SetM fz' m (rowN K s j st0).S)
   ⟨0,m1,Z0 _,rfl,by rw [rowN,f0.2.2.2],Zd,by rw [rowN,f0.2.1,f0.2.2.1,Wi hb0,Wi hd0],by rw [rowN,f0.1];exact hS1⟩ Zw Zb ?_
  rintro q σ fz2 H' ⟨j,m2,hj,rfl,rfl,hle2,rfl,hS2⟩;have hlen:=YfH K s j st0;generalize hst:rowN K s j st0=st at hS2 hlen;have hx2:=hle1.trans hle2;have hr2:=hx2 _ _ hr;refine wC ?_ ?_<;>intro c2
  ·obtain ⟨a,ha⟩:=Yc (l:=s.arguments) (k:=j) Zi;have hrn:=YjR (K:=K) (st:=st0) ha;rw [hst] at hrn;obtain ⟨hal,hap⟩:=hsh.args a (Zm ha);have lbs:st.bs.length=p19:=by rw [hlen.1,f0.2.1,lb0,lar]
   have lds:st.ds.length=p19:=by rw [hlen.2,f0.2.2.1,ld0,lar]
   obtain ⟨b,hb⟩:=Yc (l:=st.bs) (k:=j) Zi;obtain ⟨d,hd⟩:=Yc (l:=st.ds) (k:=j) Zi;refine wI (iar.mono hle2) ha (fun pp2 hp2=>?_)
   ((refine zG ?_);refine XQ hp2 (fun Ay ny cy hy2=>?_));have ly:=hy2.len;refine zW ?_;refine Ya (Yh [] (_::_::(rowsO gB (w.B.set k st.bs)++rowsO gD (w.D.set k st.ds))) Zz (env_f (ip.mono hle2) hy2 Zi (.inl ⟨rfl,fun _=>rfl⟩)) (fun v3 fz3 H3 hle3 hR3=>?_));obtain ⟨rfl,hE3⟩:=hR3;have hE4:EnvR fz3 v3 (envA s a):=by
    rw [Zl Zi] at hE3;exact hE3
   have hP:=envA_P (s:=s) hap;have hx3:=hx2.trans hle3;have hr3:=hx3 _ _ hr;have hS3:=hS2.mono hle3;have hK3:=hK.mono hx3;have hE0:=hE4;obtain ⟨ge,rfl⟩:=hE4.form;generalize hq:Yah K s a st.S b d=qi;have hqi:Ym8 K s st j a=⟨qi.S,st.bs.set j qi.b,st.ds.set j qi.d,qi.n || st.n⟩:=by
    unfold Ym8;rw [hb,hd];simp only [Option.getD_some];rw [hq]
   rw [hqi] at hrn;simp only [Yah] at hq;generalize hh1:holdsM K st.S (envA s a) s.start=h1 at hq;generalize hh2:holdsM K st.S (envA s a) s.all=h2 at hq;generalize hb':(b || h1)=b' at hq;generalize hd':(d || (b' && h2))=d' at hq;generalize hr1:(if b'=true then YbE K s.early (envA s a) st.S else (st.S,false))=r1 at hq;generalize hr2':(if d'=true then YbE K s.late (envA s a) r1.1 else (r1.1,false))=r2 at hq;subst hq;simp only at hrn;have hBk:(w.B.set k st.bs)[k]?=some st.bs:=List.getElem?_set_self hkB;have hDk:(w.D.set k st.ds)[k]?=some st.ds:=List.getElem?_set_self hkD;have hlB1:gB.length=(w.B.set k st.bs).length:=by rw [List.length_set,lB,fB1.1]

   refine zWX ?_;refine Yy (YV (fun σ fz' H'=>σ=[(8,.map ge),(6,Zk j),(22,Zk j),(21,Zk p19),(20,Zc P19 p19 q19),(14,Zk k),(13,Zk n),(12,Zc As n cS),(5,Zp g5),(4,Zk k),(3,Zo ((!b && b') || st.n)),(0,Zp gr)]/\fz3=fz'/\H'=(g5,Zu #[Zy s.name,Zc P0 p0 q0,Zy s.start.op,Zy s.start.name,Zc P1 p1 q1,Zc P2 p2 q2,Zc P3 p3 q3,Zc P4 p4 q4,Zy s.all.op,Zy s.all.name,Zc P5 p5 q5,Zc P6 p6 q6,Zc P7 p7 q7,Zc P8 p8 q8,Zy s.over.op,Zy s.over.name,Zc P9 p9 q9,Zc P10 p10 q10,Zc P11 p11 q11,Zc P12 p12 q12,Zy s.fin.op,Zy s.fin.name,Zc P13 p13 q13,Zc P14 p14 q14,Zc P15 p15 q15,Zc P16 p16 q16,Zc P17 p17 q17,Zc P18 p18 q18,Zo s.count,Zc P19 p19 q19] 113)::(gs,mapS m2)::(rowsO gB (w.B.set k (st.bs.set j b'))++rowsO gD (w.D.set k (st.ds)))) ?_ ?_)
   ·cases b with
    | true=>
     have e7:st.bs.set j b'=st.bs:=by rw [<- hb'];exact Wi hb
     rw [show ((!true && b') || st.n)=st.n from by simp,e7];refine wI (hB.mono hx3) eB (fun ppx hpx=>?_);refine zG ?_;refine Y4 hpx ?_;refine wG ?_;refine Yv (z:=1) rfl ?_;refine zG ?_;refine Yp (k+2) ?_ (hi:=Yez hgb hBk) (hv:=W4 hb);exact wN (h:=by exact ⟨rfl,rfl,rfl⟩)
    | false=>
     cases h1 with
     | false=>
      have e7:st.bs.set j b'=st.bs:=by rw [<- hb'];exact Wi hb
      rw [show ((!false && b') || st.n)=st.n from by rw [<- hb'];simp,e7];refine wI (hB.mono hx3) eB (fun ppx hpx=>?_);refine zG ?_;refine Y4 hpx ?_;refine wG ?_;refine Yv (z:=1) rfl ?_;refine zG ?_;refine Yp (k+2) ?_ (hi:=Yez hgb hBk) (hv:=W4 hb);refine wG ?_;refine Ye (vs:=[Zy s.start.op,Zy s.start.name,Zc P1 p1 q1,Zc P2 p2 q2,Zc P3 p3 q3,Zc P4 p4 q4]) 0 ?_;refine wG ?_;refine XJ (fun fz' hle hf=>YcY _ (Zs _) (hK3.mono hle) hOs (hf (gs,mapS m2) (by simp)) (hS3.mono hle) (hR.start.mono (hle2.trans (hle3.trans hle))) hsh.start (hE0.mono hle) hP) ?_;rw [hh1];exact wN (h:=by exact ⟨rfl,rfl,rfl⟩)
     | true=>
      have e8:b'=true:=by rw [<- hb'];rfl
      subst e8;rw [show ((!false && true) || st.n)=true from by simp];obtain ⟨pre,post,e1,e2⟩:=YjQ (b':=st.bs.set j true) hlB1 hgb hBk;refine wI (hB.mono hx3) eB (fun ppx hpx=>?_);refine zG ?_;refine Y4 hpx ?_;refine wG ?_;refine Yv (z:=1) rfl ?_;refine zG ?_;refine Yp (k+2) ?_ (hi:=Yez hgb hBk) (hv:=W4 hb);refine wG ?_;refine Ye (vs:=[Zy s.start.op,Zy s.start.name,Zc P1 p1 q1,Zc P2 p2 q2,Zc P3 p3 q3,Zc P4 p4 q4]) 0 ?_;refine wG ?_;refine XJ (fun fz' hle hf=>YcY _ (Zs _) (hK3.mono hle) hOs (hf (gs,mapS m2) (by simp)) (hS3.mono hle) (hR.start.mono (hle2.trans (hle3.trans hle))) hsh.start (hE0.mono hle) hP) ?_;rw [hh1];refine wI (hB.mono hx3) eB (fun ppx hpx=>?_);refine zG ?_;refine Y4 hpx ?_;refine wG ?_;refine Yv (z:=1) rfl ?_;refine YA (Yfk T (pre:=_::_::pre) (cs:=st.bs.map Value.bool) Zz Zz Zz (by rw [e1];simp only [List.append_assoc,List.cons_append];rfl) rfl rfl rfl (by rw [List.length_map,Int.toNat_natCast];omega) (H2:=(g5,Zu #[Zy s.name,Zc P0 p0 q0,Zy s.start.op,Zy s.start.name,Zc P1 p1 q1,Zc P2 p2 q2,Zc P3 p3 q3,Zc P4 p4 q4,Zy s.all.op,Zy s.all.name,Zc P5 p5 q5,Zc P6 p6 q6,Zc P7 p7 q7,Zc P8 p8 q8,Zy s.over.op,Zy s.over.name,Zc P9 p9 q9,Zc P10 p10 q10,Zc P11 p11 q11,Zc P12 p12 q12,Zy s.fin.op,Zy s.fin.name,Zc P13 p13 q13,Zc P14 p14 q14,Zc P15 p15 q15,Zc P16 p16 q16,Zc P17 p17 q17,Zc P18 p18 q18,Zo s.count,Zc P19 p19 q19] 113)::(gs,mapS m2)::(rowsO gB (w.B.set k (st.bs.set j true))++rowsO gD (w.D.set k (st.ds)))) (by rw [Ymr,<- Ymb (l:=w.B) (a:=st.bs),e2];simp only [List.append_assoc,List.cons_append];rfl) ?_);exact wN (h:=by exact ⟨rfl,rfl,rfl⟩)
   rintro σ fz4 H' ⟨rfl,rfl,rfl⟩;have hBk1:(w.B.set k (st.bs.set j b'))[k]?=some (st.bs.set j b'):=List.getElem?_set_self hkB;have hb1:(st.bs.set j b')[j]?=some b':=List.getElem?_set_self Zi;have hlB2:gB.length=(w.B.set k (st.bs.set j b')).length:=by rw [List.length_set,lB,fB1.1]
   have hlD2:gD.length=(w.D.set k st.ds).length:=by rw [List.length_set,lD,fD1.1]
   refine Yy (YV (fun σ fz' H'=>σ=[(8,.map ge),(6,Zk j),(22,Zk j),(21,Zk p19),(20,Zc P19 p19 q19),(14,Zk k),(13,Zk n),(12,Zc As n cS),(5,Zp g5),(4,Zk k),(3,Zo ((!d && d') || ((!b && b') || st.n))),(0,Zp gr)]/\fz3=fz'/\H'=(g5,Zu #[Zy s.name,Zc P0 p0 q0,Zy s.start.op,Zy s.start.name,Zc P1 p1 q1,Zc P2 p2 q2,Zc P3 p3 q3,Zc P4 p4 q4,Zy s.all.op,Zy s.all.name,Zc P5 p5 q5,Zc P6 p6 q6,Zc P7 p7 q7,Zc P8 p8 q8,Zy s.over.op,Zy s.over.name,Zc P9 p9 q9,Zc P10 p10 q10,Zc P11 p11 q11,Zc P12 p12 q12,Zy s.fin.op,Zy s.fin.name,Zc P13 p13 q13,Zc P14 p14 q14,Zc P15 p15 q15,Zc P16 p16 q16,Zc P17 p17 q17,Zc P18 p18 q18,Zo s.count,Zc P19 p19 q19] 113)::(gs,mapS m2)::(rowsO gB (w.B.set k (st.bs.set j b'))++rowsO gD (w.D.set k (st.ds.set j d')))) ?_ ?_)
   ·cases b' with
    | false=>
     have e7:st.ds.set j d'=st.ds:=by rw [<- hd',Bool.false_and,Bool.or_false];exact Wi hd
     rw [show ((!d && d') || ((!b && false) || st.n))=((!b && false) || st.n) from by rw [<- hd'];cases d<;>simp,e7];refine wI (hB.mono hx3) eB (fun ppx hpx=>?_);refine zG ?_;refine Y4 hpx ?_;refine wG ?_;refine Yv (z:=1) rfl ?_;refine zG ?_;refine Yp (k+2) ?_ (hi:=Yez hgb hBk1) (hv:=W4 hb1);exact wN (h:=by exact ⟨rfl,rfl,rfl⟩)
    | true=>
     generalize hn1:((!b && true) || st.n)=nn1;cases d with
     | true=>
      have e7:st.ds.set j d'=st.ds:=by rw [<- hd',Bool.true_or];exact Wi hd
      rw [show ((!true && d') || nn1)=nn1 from by simp,e7];refine wI (hB.mono hx3) eB (fun ppx hpx=>?_);refine zG ?_;refine Y4 hpx ?_;refine wG ?_;refine Yv (z:=1) rfl ?_;refine zG ?_;refine Yp (k+2) ?_ (hi:=Yez hgb hBk1) (hv:=W4 hb1);refine wI (hD.mono hx3) eD (fun ppx hpx=>?_);refine zG ?_;refine Y4 hpx ?_;refine wG ?_;refine Yv (z:=1) rfl ?_;refine zG ?_;refine Yp (gB.length+k+2) ?_ (hi:=YkZ hlB2 hgd hDk) (hv:=W4 hd);exact wN (h:=by exact ⟨rfl,rfl,rfl⟩)
     | false=>
      cases h2 with
      | false=>
       have e7:st.ds.set j d'=st.ds:=by rw [<- hd'];exact Wi hd
       rw [show ((!false && d') || nn1)=nn1 from by rw [<- hd'];simp,e7];refine wI (hB.mono hx3) eB (fun ppx hpx=>?_);refine zG ?_;refine Y4 hpx ?_;refine wG ?_;refine Yv (z:=1) rfl ?_;refine zG ?_;refine Yp (k+2) ?_ (hi:=Yez hgb hBk1) (hv:=W4 hb1);refine wI (hD.mono hx3) eD (fun ppx hpx=>?_);refine zG ?_;refine Y4 hpx ?_;refine wG ?_;refine Yv (z:=1) rfl ?_;refine zG ?_;refine Yp (gB.length+k+2) ?_ (hi:=YkZ hlB2 hgd hDk) (hv:=W4 hd);refine wG ?_;refine Ye (vs:=[Zy s.all.op,Zy s.all.name,Zc P5 p5 q5,Zc P6 p6 q6,Zc P7 p7 q7,Zc P8 p8 q8]) 0 ?_;refine wG ?_;refine XJ (fun fz' hle hf=>YcY _ (Zs _) (hK3.mono hle) hOs (hf (gs,mapS m2) (by simp)) (hS3.mono hle) (hR.all.mono (hle2.trans (hle3.trans hle))) hsh.all (hE0.mono hle) hP) ?_;rw [hh2];exact wN (h:=by exact ⟨rfl,rfl,rfl⟩)
      | true=>
       have e8:d'=true:=by rw [<- hd'];rfl
       subst e8;rw [show ((!false && true) || nn1)=true from by simp];obtain ⟨pre,post,e1,e2⟩:=YjQ (b':=st.ds.set j true) hlD2 hgd hDk;refine wI (hB.mono hx3) eB (fun ppx hpx=>?_);refine zG ?_;refine Y4 hpx ?_;refine wG ?_;refine Yv (z:=1) rfl ?_;refine zG ?_;refine Yp (k+2) ?_ (hi:=Yez hgb hBk1) (hv:=W4 hb1);refine wI (hD.mono hx3) eD (fun ppx hpx=>?_);refine zG ?_;refine Y4 hpx ?_;refine wG ?_;refine Yv (z:=1) rfl ?_;refine zG ?_;refine Yp (gB.length+k+2) ?_ (hi:=YkZ hlB2 hgd hDk) (hv:=W4 hd);refine wG ?_;refine Ye (vs:=[Zy s.all.op,Zy s.all.name,Zc P5 p5 q5,Zc P6 p6 q6,Zc P7 p7 q7,Zc P8 p8 q8]) 0 ?_;refine wG ?_;refine XJ (fun fz' hle hf=>YcY _ (Zs _) (hK3.mono hle) hOs (hf (gs,mapS m2) (by simp)) (hS3.mono hle) (hR.all.mono (hle2.trans (hle3.trans hle))) hsh.all (hE0.mono hle) hP) ?_;rw [hh2];refine wI (hD.mono hx3) eD (fun ppx hpx=>?_);refine zG ?_;refine Y4 hpx ?_;refine wG ?_;refine Yv (z:=1) rfl ?_;refine YA (Yfk T (pre:=_::_::(rowsO gB (w.B.set k (st.bs.set j true))++pre)) (cs:=st.ds.map Value.bool) Zz Zz Zz (by rw [e1];simp only [List.append_assoc,List.cons_append];rfl) rfl rfl rfl (by rw [List.length_map,Int.toNat_natCast];omega) (H2:=(g5,Zu #[Zy s.name,Zc P0 p0 q0,Zy s.start.op,Zy s.start.name,Zc P1 p1 q1,Zc P2 p2 q2,Zc P3 p3 q3,Zc P4 p4 q4,Zy s.all.op,Zy s.all.name,Zc P5 p5 q5,Zc P6 p6 q6,Zc P7 p7 q7,Zc P8 p8 q8,Zy s.over.op,Zy s.over.name,Zc P9 p9 q9,Zc P10 p10 q10,Zc P11 p11 q11,Zc P12 p12 q12,Zy s.fin.op,Zy s.fin.name,Zc P13 p13 q13,Zc P14 p14 q14,Zc P15 p15 q15,Zc P16 p16 q16,Zc P17 p17 q17,Zc P18 p18 q18,Zo s.count,Zc P19 p19 q19] 113)::(gs,mapS m2)::(rowsO gB (w.B.set k (st.bs.set j true))++rowsO gD (w.D.set k (st.ds.set j true)))) (by rw [Ymr,<- Ymb (l:=w.D) (a:=st.ds),e2];simp only [List.append_assoc,List.cons_append];rfl) ?_);exact wN (h:=by exact ⟨rfl,rfl,rfl⟩)
   rintro σ fz4 H' ⟨rfl,rfl,rfl⟩;generalize hn2:((!d && d') || ((!b && b') || st.n))=nn2;have hfin:(r2.2 || (r1.2 || ((!d && d') || (!b && b'))) || st.n)=(r2.2 || (r1.2 || nn2)):=by rw [<- hn2];simp only [Bool.or_assoc]
   rw [hfin] at hrn;have hDk1:(w.D.set k (st.ds.set j d'))[k]?=some (st.ds.set j d'):=List.getElem?_set_self hkD;have hd1:(st.ds.set j d')[j]?=some d':=List.getElem?_set_self Zi;refine Yy (YV (fun σ fz' H'=>∃ m,σ=[(8,.map ge),(6,Zk j),(22,Zk j),(21,Zk p19),(20,Zc P19 p19 q19),(14,Zk k),(13,Zk n),(12,Zc As n cS),(5,Zp g5),(4,Zk k),(3,Zo (r1.2 || nn2)),(0,Zp gr)]/\Le fz3 fz'/\H'=(g5,Zu #[Zy s.name,Zc P0 p0 q0,Zy s.start.op,Zy s.start.name,Zc P1 p1 q1,Zc P2 p2 q2,Zc P3 p3 q3,Zc P4 p4 q4,Zy s.all.op,Zy s.all.name,Zc P5 p5 q5,Zc P6 p6 q6,Zc P7 p7 q7,Zc P8 p8 q8,Zy s.over.op,Zy s.over.name,Zc P9 p9 q9,Zc P10 p10 q10,Zc P11 p11 q11,Zc P12 p12 q12,Zy s.fin.op,Zy s.fin.name,Zc P13 p13 q13,Zc P14 p14 q14,Zc P15 p15 q15,Zc P16 p16 q16,Zc P17 p17 q17,Zc P18 p18 q18,Zo s.count,Zc P19 p19 q19] 113)::(gs,mapS m)::(rowsO gB (w.B.set k (st.bs.set j b'))++rowsO gD (w.D.set k (st.ds.set j d')))/\SetM fz' m r1.1) ?_ ?_)
   ·cases b' with
    | false=>
     have e9:r1=(st.S,false):=by rw [<- hr1];rfl
     subst e9;simp only [Bool.false_or];refine wI (hB.mono hx3) eB (fun ppx hpx=>?_);refine zG ?_;refine Y4 hpx ?_;refine wG ?_;refine Yv (z:=1) rfl ?_;refine zG ?_;refine Yp (k+2) ?_ (hi:=Yez hgb hBk1) (hv:=W4 hb1);exact wN (h:=by exact ⟨m2,rfl,Zd,rfl,hS3⟩)
    | true=>
     have e9:r1=YbE K s.early (envA s a) st.S:=by rw [<- hr1];rfl
     refine wI (hB.mono hx3) eB (fun ppx hpx=>?_);refine zG ?_;refine Y4 hpx ?_;refine wG ?_;refine Yv (z:=1) rfl ?_;refine zG ?_;refine Yp (k+2) ?_ (hi:=Yez hgb hBk1) (hv:=W4 hb1);refine zW ?_;refine Ya (Does.perm (H':=(gs,mapS m2)::_::(rowsO gB (w.B.set k (st.bs.set j true))++rowsO gD (w.D.set k (st.ds.set j d')))) (List.Perm.swap _ _ _) (Does.after (Yh [_] (_::(rowsO gB (w.B.set k (st.bs.set j true))++rowsO gD (w.D.set k (st.ds.set j d')))) Zz (adds_f (hx3 _ _ hr) (hK.mono hx3) hOs hS3 (ie.mono (hle2.trans hle3)) hsh.early (hE0.mono Zd) hP) (fun v6 fz6 H6 hle6 hR6=>?_))));obtain ⟨rfl,m6,rfl,hS6⟩:=hR6;refine ⟨(g5,Zu #[Zy s.name,Zc P0 p0 q0,Zy s.start.op,Zy s.start.name,Zc P1 p1 q1,Zc P2 p2 q2,Zc P3 p3 q3,Zc P4 p4 q4,Zy s.all.op,Zy s.all.name,Zc P5 p5 q5,Zc P6 p6 q6,Zc P7 p7 q7,Zc P8 p8 q8,Zy s.over.op,Zy s.over.name,Zc P9 p9 q9,Zc P10 p10 q10,Zc P11 p11 q11,Zc P12 p12 q12,Zy s.fin.op,Zy s.fin.name,Zc P13 p13 q13,Zc P14 p14 q14,Zc P15 p15 q15,Zc P16 p16 q16,Zc P17 p17 q17,Zc P18 p18 q18,Zo s.count,Zc P19 p19 q19] 113)::(gs,mapS m6)::(rowsO gB (w.B.set k (st.bs.set j true))++rowsO gD (w.D.set k (st.ds.set j d'))),List.Perm.swap _ _ _,?_⟩;rw [<- e9] at hS6;rw [<- e9];generalize hr12:r1.2=bb;cases bb with
     | true=>
      exact wN (h:=by exact ⟨m6,rfl,hle6,rfl,hS6⟩)
     | false=>
      simp only [Bool.false_or];exact wN (h:=by exact ⟨m6,rfl,hle6,rfl,hS6⟩)
   rintro σ fz4 H' ⟨m4,rfl,hle4,rfl,hS4⟩;have hx4:=hx3.trans hle4;have hr4:=hx4 _ _ hr;generalize hn3:(r1.2 || nn2)=nn3 at hrn;cases d' with
   | false=>
    have e9:r2=(r1.1,false):=by rw [<- hr2'];rfl
    subst e9;simp only [Bool.false_or] at hrn;refine wI (hD.mono hx4) eD (fun ppx hpx=>?_);refine zG ?_;refine Y4 hpx ?_;refine wG ?_;refine Yv (z:=1) rfl ?_;refine zG ?_;refine Yp (gB.length+k+2) ?_ (hi:=YkZ hlB2 hgd hDk1) (hv:=W4 hd1);exact wP (h:=by exact ⟨j+1,m4,by omega,rfl,by rw [hrn],hle2.trans (hle3.trans hle4),by rw [hrn],by rw [hrn];exact hS4⟩)
   | true=>
    have e9:r2=YbE K s.late (envA s a) r1.1:=by rw [<- hr2'];rfl
    refine wI (hD.mono hx4) eD (fun ppx hpx=>?_);refine zG ?_;refine Y4 hpx ?_;refine wG ?_;refine Yv (z:=1) rfl ?_;refine zG ?_;refine Yp (gB.length+k+2) ?_ (hi:=YkZ hlB2 hgd hDk1) (hv:=W4 hd1);refine zW ?_;refine Ya (Does.perm (H':=(gs,mapS m4)::_::(rowsO gB (w.B.set k (st.bs.set j b'))++rowsO gD (w.D.set k (st.ds.set j true)))) (List.Perm.swap _ _ _) (Does.after (Yh [_] (_::(rowsO gB (w.B.set k (st.bs.set j b'))++rowsO gD (w.D.set k (st.ds.set j true)))) Zz (adds_f (hx4 _ _ hr) (hK.mono hx4) hOs hS4 (il.mono (hle2.trans (hle3.trans hle4))) hsh.late (hE0.mono hle4) hP) (fun v6 fz6 H6 hle6 hR6=>?_))));obtain ⟨rfl,m6,rfl,hS6⟩:=hR6;refine ⟨(g5,Zu #[Zy s.name,Zc P0 p0 q0,Zy s.start.op,Zy s.start.name,Zc P1 p1 q1,Zc P2 p2 q2,Zc P3 p3 q3,Zc P4 p4 q4,Zy s.all.op,Zy s.all.name,Zc P5 p5 q5,Zc P6 p6 q6,Zc P7 p7 q7,Zc P8 p8 q8,Zy s.over.op,Zy s.over.name,Zc P9 p9 q9,Zc P10 p10 q10,Zc P11 p11 q11,Zc P12 p12 q12,Zy s.fin.op,Zy s.fin.name,Zc P13 p13 q13,Zc P14 p14 q14,Zc P15 p15 q15,Zc P16 p16 q16,Zc P17 p17 q17,Zc P18 p18 q18,Zo s.count,Zc P19 p19 q19] 113)::(gs,mapS m6)::(rowsO gB (w.B.set k (st.bs.set j b'))++rowsO gD (w.D.set k (st.ds.set j true))),List.Perm.swap _ _ _,?_⟩;rw [<- e9] at hS6;rw [<- e9];generalize hr22:r2.2=bb at hrn;cases bb with
    | true=>
     simp only [Bool.true_or] at hrn;exact wP (h:=by exact ⟨j+1,m6,by omega,rfl,by rw [hrn],hle2.trans (hle3.trans (hle4.trans hle6)),by rw [hrn],by rw [hrn];exact hS6⟩)
    | false=>
     simp only [Bool.false_or] at hrn;exact wP (h:=by exact ⟨j+1,m6,by omega,rfl,by rw [hrn],hle2.trans (hle3.trans (hle4.trans hle6)),by rw [hrn],by rw [hrn];exact hS6⟩)
  have hj2:j=p19:=by omega
  have hfull:rowN K s s.arguments.length st0=st:=by rw [show s.arguments.length=j by omega];exact hst
  rw [hfull] at hnx;exact wP (h:=by exact ⟨k+1,m2,by omega,rfl,by rw [hnx],hle1.trans hle2,by rw [hnx],by rw [hnx];exact hS2⟩)
 have hk2:k=n:=by omega
 have hfull:Xq K l S B D=w:=by rw [hM,show l.length=k by omega];exact hw
 exact wR (h:=by exact ⟨by rw [hfull],m1,by rw [hfull],by rw [hfull];exact hS1⟩)
end Go.Proofs.YtacfpcbladaohaaGreatDoor
namespace Go.Proofs.YtacfpcbladaohaaGreatDoor
variable {S:List Atom} {K:Kn}
def SubA (S S':List Atom):Prop:=∃ T,S'=S++T
theorem SubA.refl (S:List Atom):SubA S S:=⟨[],by simp⟩
theorem SubA.trans {a b c:List Atom} (h:SubA a b) (k:SubA b c):SubA a c:=by
 obtain ⟨t,rfl⟩:=h;obtain ⟨u,rfl⟩:=k;exact ⟨t++u,by simp⟩
theorem SubA.len {a b:List Atom} (h:SubA a b):a.length<=b.length:=by
 obtain ⟨t,rfl⟩:=h;simp
theorem SubA.mem {a b:List Atom} (h:SubA a b) {x:Atom} (hx:x∈a):x∈b:=by
 obtain ⟨t,rfl⟩:=h;simp [hx]
def Grew (S:List Atom) (r:List Atom × Bool):Prop:=SubA S r.1/\(r.2=true->S.length<r.1.length)/\(r.2=false->r.1=S)
theorem Grew.step {r q:List Atom × Bool} (h:Grew S r) (k:Grew r.1 q):Grew S (q.1,q.2 || r.2):=by
 refine ⟨h.1.trans k.1,fun e=>?_,fun e=>?_⟩
 ·have h1:=h.1.len;have h2:=k.1.len;show S.length<q.1.length;rw [Bool.or_eq_true] at e;rcases e with e | e
  ·have:=k.2.1 e;omega
  have:=h.2.1 e;omega
 rw [Bool.or_eq_false_iff] at e;rw [k.2.2 e.1,h.2.2 e.2]
theorem YgT {α:Type} {S:List Atom} {f:List Atom × Bool->α->List Atom × Bool} (hf:∀ r x,Grew S r->Grew S (f r x)):∀ (l:List α) (r:List Atom × Bool),Grew S r->Grew S (l.foldl f r)
 | [],_,h=>h
 | x::l,r,h=>YgT hf l (f r x) (hf r x h)
theorem Grew.zero (S:List Atom):Grew S (S,false):=⟨SubA.refl S,(fun h=>by cases h),fun _=>rfl⟩
theorem Yet (K:Kn) (c:Change):∀ (ps:List Param) (E:EnvM) (S:List Atom),Grew S (addM K c ps E S)
 | [],E,S=>by
  rw [addM];split
  ·exact ⟨⟨_,rfl⟩,fun _=>by simp,fun h=>by cases h⟩
  exact Grew.zero S
 | p::ps,E,S=>by
  rw [addM];refine YgT (fun r o h=>?_) _ _ (Grew.zero S);split
  ·exact h
  exact h.step (Yet K c ps (setE E p.name o) r.1)
theorem Yid (K:Kn) (l:List Change) (E:EnvM) (S:List Atom):Grew S (YbE K l E S):=by
 rw [YbE];exact YgT (fun r c h=>h.step (Yet K c c.params E r.1)) _ _ (Grew.zero S)
def tr (b:Bool):Nat:=if b=true then 1 else 0
theorem YnA (K:Kn) (s:Schema) (a:List Bs) (S:List Atom) (b d:Bool):
 SubA S (Yah K s a S b d).S/\tr b<=tr (Yah K s a S b d).b/\tr d<=tr (Yah K s a S b d).d/\
 ((Yah K s a S b d).n=true->S.length+tr b+tr d<(Yah K s a S b d).S.length+tr (Yah K s a S b d).b+tr (Yah K s a S b d).d)/\
 ((Yah K s a S b d).n=false->(Yah K s a S b d).S=S/\(Yah K s a S b d).b=b/\(Yah K s a S b d).d=d):=by
 simp only [Yah];generalize hb:(b || holdsM K S (envA s a) s.start)=b';generalize hd:(d || (b' && holdsM K S (envA s a) s.all))=d';have h1:Grew S (if b'=true then YbE K s.early (envA s a) S else (S,false)):=by
  split
  ·exact Yid K s.early (envA s a) S
  exact Grew.zero S
 generalize (if b'=true then YbE K s.early (envA s a) S else (S,false))=r1 at h1;have h2:Grew r1.1 (if d'=true then YbE K s.late (envA s a) r1.1 else (r1.1,false)):=by
  split
  ·exact Yid K s.late (envA s a) r1.1
  exact Grew.zero r1.1
 generalize (if d'=true then YbE K s.late (envA s a) r1.1 else (r1.1,false))=r2 at h2;have l1:=h1.1.len;have l2:=h2.1.len;have tb:tr b<=tr b':=by rw [<- hb];cases b<;>simp [tr]
 have td:tr d<=tr d':=by rw [<- hd];cases d<;>simp [tr]
 refine ⟨h1.1.trans h2.1,tb,td,fun e=>?_,fun e=>?_⟩
 ·simp only [Bool.or_eq_true,Bool.and_eq_true] at e;rcases e with e | e | e | e
  ·have:=h2.2.1 e;omega
  ·have:=h1.2.1 e;omega
  ·have:tr d<tr d':=by
    obtain ⟨e1,e2⟩:=e;subst e2;cases d
    ·simp [tr]
    cases e1
   omega
  have:tr b<tr b':=by
   obtain ⟨e1,e2⟩:=e;subst e2;cases b
   ·simp [tr]
   cases e1
  omega
 simp only [Bool.or_eq_false_iff] at e;obtain ⟨e1,e2,e3,e4⟩:=e;refine ⟨by rw [h2.2.2 e1,h1.2.2 e2],?_,?_⟩
 ·cases b' with
  | false=>cases b with
   | false=>rfl
   | true=>simp at hb
  | true=>cases b with
   | false=>simp at e4
   | true=>rfl
 cases d' with
 | false=>cases d with
  | false=>rfl
  | true=>simp at hd
 | true=>cases d with
  | false=>simp at e3
  | true=>rfl
def cntT (l:List Bool):Nat:=(l.map tr).sum
theorem Yjf:∀ {l:List Bool} {j:Nat} {b b':Bool},l[j]?=some b->cntT (l.set j b')+tr b=cntT l+tr b'
 | [],j,_,_,h=>by simp at h
 | x::r,0,b,b',h=>by simp at h;subst h;simp [cntT];omega
 | x::r,j+1,b,b',h=>by
  have:=Yjf (l:=r) (j:=j) (b:=b) (b':=b') (by simpa using h);simp only [cntT,List.set_cons_succ,List.map_cons,List.sum_cons] at this ⊢;omega
theorem Yqg:∀ (l:List Bool),cntT l<=l.length
 | []=>by simp [cntT]
 | x::r=>by
  have:=Yqg r;have:tr x<=1:=by unfold tr;split<;>omega
  simp only [cntT,List.map_cons,List.sum_cons,List.length_cons] at*;omega
def cntB (B:List (List Bool)):Nat:=(B.map cntT).sum
theorem Yjg:∀ {B:List (List Bool)} {i:Nat} {b b':List Bool},B[i]?=some b->cntB (B.set i b')+cntT b=cntB B+cntT b'
 | [],i,_,_,h=>by simp at h
 | x::r,0,b,b',h=>by simp at h;subst h;simp [cntB];omega
 | x::r,i+1,b,b',h=>by
  have:=Yjg (B:=r) (i:=i) (b:=b) (b':=b') (by simpa using h);simp only [cntB,List.set_cons_succ,List.map_cons,List.sum_cons] at this ⊢;omega
theorem YdZ (K:Kn) (s:Schema):∀ (k:Nat) (st:RowS),st.bs.length=s.arguments.length->st.ds.length=s.arguments.length->
 SubA st.S (rowN K s k st).S/\cntT st.bs<=cntT (rowN K s k st).bs/\cntT st.ds<=cntT (rowN K s k st).ds/\(st.n=true->(rowN K s k st).n=true)/\
 (st.n=false->(rowN K s k st).n=true->st.S.length+cntT st.bs+cntT st.ds<(rowN K s k st).S.length+cntT (rowN K s k st).bs+cntT (rowN K s k st).ds)/\
 ((rowN K s k st).n=false->rowN K s k st=st)
 | 0,st,_,_=>⟨SubA.refl _,Zs _,Zs _,fun h=>h,(fun h1 h2=>by rw [rowN,h1] at h2;cases h2),fun _=>rfl⟩
 | k+1,st,hb,hd=>by
  obtain ⟨i1,i2,i3,i4,i5,i6⟩:=YdZ K s k st hb hd;have hlen:=YfH K s k st;rw [rowN];cases ha:s.arguments[k]? with
  | none=>exact ⟨i1,i2,i3,i4,i5,i6⟩
  | some a=>
   simp only;generalize hr:rowN K s k st=r at*;have hk:=(Zg ha).1;obtain ⟨b,hbk⟩:=Yc (l:=r.bs) (k:=k) Zi;obtain ⟨d,hdk⟩:=Yc (l:=r.ds) (k:=k) Zi;unfold Ym8;rw [hbk,hdk];simp only [Option.getD_some];obtain ⟨g1,g2,g3,g4,g5⟩:=YnA K s a r.S b d;generalize Yah K s a r.S b d=q at g1 g2 g3 g4 g5;have c1:=Yjf (b':=q.b) hbk;have c2:=Yjf (b':=q.d) hdk;have l1:=i1.len;have l2:=g1.len;refine ⟨i1.trans g1,by omega,by omega,fun h=>by rw [i4 h,Bool.or_true],fun h1 h2=>?_,fun h=>?_⟩
   ·rw [Bool.or_eq_true] at h2;rcases h2 with h2 | h2
    ·have:=g4 h2;omega
    have:=i5 h1 h2;omega
   rw [Bool.or_eq_false_iff] at h;obtain ⟨e1,e2,e3⟩:=g5 h.1;have e4:=i6 h.2;rw [e1,e2,e3,Wi hbk,Wi hdk,h.1,Bool.false_or];exact e4
theorem Ygd (K:Kn) (l:List Schema):∀ (k:Nat) (w:RndS),FitR l w.B->FitR l w.D->
 SubA w.S (rndN K l k w).S/\cntB w.B<=cntB (rndN K l k w).B/\cntB w.D<=cntB (rndN K l k w).D/\(w.n=true->(rndN K l k w).n=true)/\
 (w.n=false->(rndN K l k w).n=true->w.S.length+cntB w.B+cntB w.D<(rndN K l k w).S.length+cntB (rndN K l k w).B+cntB (rndN K l k w).D)/\
 ((rndN K l k w).n=false->rndN K l k w=w)
 | 0,w,_,_=>⟨SubA.refl _,Zs _,Zs _,fun h=>h,(fun h1 h2=>by rw [rndN,h1] at h2;cases h2),fun _=>rfl⟩
 | k+1,w,hB,hD=>by
  obtain ⟨i1,i2,i3,i4,i5,i6⟩:=Ygd K l k w hB hD;obtain ⟨fB,fD⟩:=Yd0 (K:=K) k hB hD;rw [rndN];cases hs:l[k]? with
  | none=>exact ⟨i1,i2,i3,i4,i5,i6⟩
  | some s=>
   simp only;generalize hr:rndN K l k w=r at*;have hk:=(Zg hs).1;obtain ⟨b,hbk⟩:=Yc (l:=r.B) (k:=k) (by rw [fB.1];exact hk);obtain ⟨d,hdk⟩:=Yc (l:=r.D) (k:=k) (by rw [fD.1];exact hk);unfold stepW;rw [hbk,hdk];simp only [Option.getD_some];obtain ⟨g1,g2,g3,g4,g5,g6⟩:=YdZ K s s.arguments.length ⟨r.S,b,d,r.n⟩ (fB.2 k s b hs hbk) (fD.2 k s d hs hdk);generalize hq:rowN K s s.arguments.length ⟨r.S,b,d,r.n⟩=q at g1 g2 g3 g4 g5 g6;have c1:=Yjg (b':=q.bs) hbk;have c2:=Yjg (b':=q.ds) hdk;have l1:=i1.len;have l2:=g1.len;simp only at l2 g2 g3 g4 g5;refine ⟨i1.trans g1,by omega,by omega,fun h=>g4 (i4 h),fun h1 h2=>?_,fun h=>?_⟩
   ·cases hn:r.n with
    | true=>have:=i5 h1 hn;omega
    | false=>have:=g5 hn h2;omega
   have e:=g6 h;rw [e] at h ⊢;have e4:=i6 h;simp only;rw [Wi hbk,Wi hdk];exact e4
def meas (tB tD:Nat) (w:RndS):Nat:=(4097 - w.S.length)+(tB - cntB w.B)+(tD - cntB w.D)
def exF (K:Kn) (l:List Schema):Nat->RndS->RndS
 | 0,w=>w
 | f+1,w=>let r:=Xq K l w.S w.B w.D;if r.n=false\/4096<r.S.length then r else exF K l f r
def totB (l:List Schema):Nat:=(l.map fun s=>s.arguments.length).sum
theorem YlK:∀ {l:List Schema} {B:List (List Bool)},FitR l B->cntB B<=totB l
 | [],B,h=>by
  have:B=[]:=List.eq_nil_of_length_eq_zero h.1;subst this;simp [cntB]
 | s::l,[],h=>by have:=h.1;simp at this
 | s::l,b::B,h=>by
  have h1:=h.2 0 s b rfl rfl;have h2:=Yqg b;have h3:=YlK (l:=l) (B:=B) ⟨by have:=h.1;simpa using this,fun i s b hs hb=>h.2 (i+1) s b (by simpa using hs) (by simpa using hb)⟩;simp only [cntB,totB,List.map_cons,List.sum_cons] at*;omega
theorem YhI {l:List Schema} {B D:List (List Bool)} (hB:FitR l B) (hD:FitR l D):
 SubA S (Xq K l S B D).S/\FitR l (Xq K l S B D).B/\FitR l (Xq K l S B D).D/\
 ((Xq K l S B D).n=true->S.length<=4096->meas (totB l) (totB l) (Xq K l S B D)<meas (totB l) (totB l) ⟨S,B,D,false⟩)/\
 ((Xq K l S B D).n=false->Xq K l S B D=⟨S,B,D,false⟩):=by
 obtain ⟨i1,i2,i3,i4,i5,i6⟩:=Ygd K l l.length ⟨S,B,D,false⟩ hB hD;obtain ⟨fB,fD⟩:=Yd0 (K:=K) l.length (w:=⟨S,B,D,false⟩) hB hD;refine ⟨i1,fB,fD,fun hn hS=>?_,i6⟩;have:=i5 rfl hn;have b1:=YlK fB;have b2:=YlK fD;have l1:=i1.len;unfold meas Xq;simp only at this i2 i3 l1 ⊢;omega
def exM (K:Kn) (l:List Schema) (S:List Atom) (B D:List (List Bool)):RndS:=exF K l (meas (totB l) (totB l) ⟨S,B,D,false⟩+1) ⟨S,B,D,false⟩
theorem YlG {l:List Schema} {f:Nat} {B D:List (List Bool)} {n:Bool} (h:(Xq K l S B D).n=false\/4096<(Xq K l S B D).S.length):exF K l (f+1) ⟨S,B,D,n⟩=Xq K l S B D:=by
 rw [exF];exact if_pos h
theorem YfR {l:List Schema} {f:Nat} {B D:List (List Bool)} {n:Bool} (h:¬((Xq K l S B D).n=false\/4096<(Xq K l S B D).S.length)):exF K l (f+1) ⟨S,B,D,n⟩=exF K l f (Xq K l S B D):=by
 rw [exF];exact if_neg h
theorem YgZ {K:Kn} {l:List Schema}:∀ (f:Nat) {w:RndS},meas (totB l) (totB l) w<f->FitR l w.B->FitR l w.D->SubA w.S (exF K l f w).S/\FitR l (exF K l f w).B/\FitR l (exF K l f w).D/\(4096<(exF K l f w).S.length\/Xq K l (exF K l f w).S (exF K l f w).B (exF K l f w).D=⟨(exF K l f w).S,(exF K l f w).B,(exF K l f w).D,false⟩)
 | 0,_,h,_,_=>absurd h Zi
 | f+1,w,h,hB,hD=>by
  obtain ⟨S,B,D,n⟩:=w;have hB:FitR l B:=hB;have hD:FitR l D:=hD;obtain ⟨g1,g2,g3,g4,g5⟩:=YhI (K:=K) (l:=l) (S:=S) (B:=B) (D:=D) hB hD;by_cases hc:(Xq K l S B D).n=false\/4096<(Xq K l S B D).S.length
  ·rw [YlG hc];refine ⟨g1,g2,g3,?_⟩;rcases hc with hc | hc
   ·have e:=g5 hc;rw [e];exact .inr e
   exact .inl hc
  rw [YfR hc];have hc1:(Xq K l S B D).n=true:=by
   cases hn:(Xq K l S B D).n with
   | true=>rfl
   | false=>exact absurd (.inl hn) hc
  have hc2:¬4096<(Xq K l S B D).S.length:=fun h=>hc (.inr h)
  have hl:=g1.len;have hm:=g4 hc1 Zi;have hmm:meas (totB l) (totB l) ⟨S,B,D,n⟩=meas (totB l) (totB l) ⟨S,B,D,false⟩:=rfl;obtain ⟨k1,k2,k3,k4⟩:=YgZ f (w:=Xq K l S B D) Zi g2 g3;exact ⟨g1.trans k1,k2,k3,k4⟩
end Go.Proofs.YtacfpcbladaohaaGreatDoor
namespace Go.Lx
section
attribute [local instance] Classical.propDecidable
def cntH (x:Nat × Obj) (l:HP):Nat:=List.count x l
theorem Ye5 (x:Nat × Obj):cntH x []=0:=by unfold cntH;exact List.count_nil
theorem Wx (x:Nat × Obj) (l l':HP):cntH x (l++l')=cntH x l+cntH x l':=by unfold cntH;exact List.count_append
def cntA (x a:Nat × Obj):Nat:=cntH x [a]
theorem YcD (x a:Nat × Obj) (l:HP):cntH x (a::l)=cntA x a+cntH x l:=by
 unfold cntA;rw [<- Wx];rfl
theorem Yba {l l':HP} (h:∀ x,cntH x l=cntH x l'):l.Perm l':=List.perm_iff_count.2 h
end
theorem YcH {A B X:HP}:(A++(B++X)).Perm ((A++X)++B):=Yba fun x=>by simp only [Wx];omega
theorem permFz {a b:Nat × Obj} {B D R Q:HP}:(a::b::(B++(D++(R++Q)))).Perm ((b::(R++Q))++(a::(B++D))):=Yba fun x=>by simp only [YcD,Wx];omega
theorem YhR {A B D X:HP}:(A++(B++(D++X))).Perm ((A++(B++X))++D):=Yba fun x=>by simp only [Wx];omega
theorem fin0 {rb jb rd jd s g m:Nat × Obj} {B D RB RD:HP}:(jb::jd::s::g::m::(B++(D++((RB++ [rb])++(RD++ [rd]))))).Perm (jd::rd::jb::rb::s::g::m::(B++(D++(RB++RD)))):=Yba fun x=>by simp only [YcD,Wx,Ye5];omega
theorem fin1 {rb jb rd jd s g m:Nat × Obj} {B D RB RD:HP}:(jb::jd::s::g::m::(B++(D++((RB++ [rb])++(RD++ [rd]))))).Perm (jd::jb::rd::rb::s::g::m::(B++(D++(RB++RD)))):=Yba fun x=>by simp only [YcD,Wx,Ye5];omega
theorem fin2 {rb jb rd jd s g m:Nat × Obj} {B D RB RD:HP}:(jb::jd::s::g::m::(B++(D++((RB++ [rb])++(RD++ [rd]))))).Perm (jb::jd::rd::rb::s::g::m::(B++(D++(RB++RD)))):=Yba fun x=>by simp only [YcD,Wx,Ye5];omega
theorem fin3 {rb jb rd jd s g m:Nat × Obj} {B D RB RD:HP}:(jb::jd::s::g::m::(B++(D++((RB++ [rb])++(RD++ [rd]))))).Perm (jd::jb::rb::rd::s::g::m::(B++(D++(RB++RD)))):=Yba fun x=>by simp only [YcD,Wx,Ye5];omega
theorem fin4 {rb jb rd jd s g m:Nat × Obj} {B D RB RD:HP}:(jb::jd::s::g::m::(B++(D++((RB++ [rb])++(RD++ [rd]))))).Perm (jb::jd::rb::rd::s::g::m::(B++(D++(RB++RD)))):=Yba fun x=>by simp only [YcD,Wx,Ye5];omega
theorem fin5 {rb jb rd jd s g m:Nat × Obj} {B D RB RD:HP}:(jb::jd::s::g::m::(B++(D++((RB++ [rb])++(RD++ [rd]))))).Perm (jb::rb::jd::rd::s::g::m::(B++(D++(RB++RD)))):=Yba fun x=>by simp only [YcD,Wx,Ye5];omega
end Go.Lx
namespace Go.Proofs.YtacfpcbladaohaaGreatDoor
variable {H:HP} {g n i j:Nat} {K:Kn} {d:Domain} {S:List Atom} {fz:FZ} {m:List (Bs × Value)} {v u1 u2 u3 u4 u5 u6 u7 v1 v2 v3 v4 v5 v6:Value} {a:Atom} {p:Problem}
theorem YhK:∀ n:Nat,repZ [Value.bool false] n=(List.replicate n false).map Value.bool
 | 0=>rfl
 | n+1=>by rw [repZ,YhK n,List.replicate_succ];rfl
theorem Yml:(rowO g (List.replicate n false)::H).Perm ((g,.cells (repZ [Value.bool false] n).toArray 4 (0,0))::H):=by
 unfold rowO;rw [<- YhK]
def exN0 (l:List Schema):List (List Bool):=l.map fun s=>List.replicate s.arguments.length false
theorem Yeo (l:List Schema):FitR l (exN0 l):=by
 refine ⟨by unfold exN0;rw [List.length_map],fun i s b hs hb=>?_⟩;unfold exN0 at hb;rw [List.getElem?_map,hs] at hb;injection hb with hb
 subst hb;rw [List.length_replicate]
theorem Ynd {gs:List Nat} {B:List (List Bool)} {b:List Bool} (h:gs.length=B.length):rowsO (gs++ [g]) (B++ [b])=rowsO gs B++ [rowO g b]:=by
 unfold rowsO;rw [List.zipWith_append h];rfl
def expM (K:Kn) (d:Domain) (S0:List Atom):RndS:=exM K (schL K d) S0 (exN0 (schL K d)) (exN0 (schL K d))
def expE (K:Kn) (d:Domain) (S0:List Atom):Int:=if schE K d≠0 then schE K d else if 4096<(expM K d S0).S.length then 5 else 0
structure ReachedR (fz:FZ) (v:Value) (K:Kn) (d:Domain) (S0:List Atom):Prop where
 ex:∃ (gr gs:Nat) (vk:Value) (As Ad:Option Addr) (n cS cd:Nat) (vb:Value) (m:List (Bs × Value)) (gD:List Nat),v=Zp gr/\
  fz gr=some (Zu #[vk,Zc As n cS,.map (some gs),vb,Zc Ad n cd] 81)/\fz gs=some (mapS m)/\SetM fz m (expM K d S0).S/\Sl schemaL fz As n cS (schL K d)/\
  Sl rowL fz Ad n cd (gD.zip ((schL K d).map fun s=>s.arguments.length))/\gD.length=n/\∀ p∈rowsO gD (expM K d S0).D,fz p.1=some p.2
def YqC (S0 L:List Atom):Prop:=S0.Nodup/\∀ a,a∈S0↔a∈L
theorem YeG {α:Type} {f:α->Nat}:∀ {l:List α} {x:α},x∈l->f x<=(l.map f).sum
 | [],x,h=>by cases h
 | y::l,x,h=>by
  rcases List.mem_cons.1 h with rfl | h
  ·simp
  have:=YeG (f:=f) h;simp only [List.map_cons,List.sum_cons];omega
theorem YoC (hE:schE K d=0) {s:Schema} (hs:s∈schL K d):s.arguments.length<=4096:=by
 have h1:=YeG (f:=fun s:Schema=>s.arguments.length) hs;have h2:¬4096<YbX (schL K d):=fun h=>by rw [schE,if_pos h] at hE;cases hE
 unfold YbX at h2;omega
theorem SetM.nodup (h:SetM fz m S):S.Nodup:=by
 unfold List.Nodup;rw [List.pairwise_iff_getElem];intro i j hi hj hij he;obtain ⟨_,va,h1,_⟩:=h.2.2 i S[i] (List.getElem?_eq_getElem hi);obtain ⟨_,vb,h2,_⟩:=h.2.2 j S[j] (List.getElem?_eq_getElem hj);have hk:=h.1;unfold KeyN List.Nodup at hk;rw [List.pairwise_iff_getElem] at hk;have hl:=h.2.1;refine hk i j (by rw [List.length_map];omega) (by rw [List.length_map];omega) hij ?_;obtain ⟨_,e1⟩:=Zg h1;obtain ⟨_,e2⟩:=Zg h2;rw [List.getElem_map,List.getElem_map,e1,e2,he]
theorem YkH (hKD:KnD fz v K d) (hS:SchS K d) (hOs:∀ o∈K.os,PlnS o.name) (hSh:schE K d=0->∀ s∈schL K d,SSh s):
 GFn prog 18 [v] fz [] (fun r fz' H'=>H'=[]/\∃ S0,YqC S0 K.init/\∃ vr,r=.tuple #[vr,errV (expE K d S0)]/\(expE K d S0=0->ReachedR fz' vr K d S0)):=by
 have hK0:=hKD.k;obtain ⟨⟨gk,a0,a1,a2,a3,a4,a5,a6,a7,a8,a9,a10,a11,a12,a13,a14,a15,a16,a17,vf,Ao,no,co,gc,gi,mc,mi,rfl,hg,hF,hO,h5,h6,h7,h8⟩,hw,hmany⟩:=hKD.k;refine zF Tryz.func18 Tryz.ntmps18 (fun w0=>?_);refine zW ?_;intros;refine Ya (Yh [] [] Zz (YoB hKD hS) (fun v1 fz1 H1 hle1 hR1=>?_));obtain ⟨rfl,vs,rfl,hok,hbad⟩:=hR1;by_cases hE:schE K d=0;rotate_left 1
 ·rw [Yq hE,hbad hE];refine zW ?_;intros;exact wS (h:=by exact ⟨rfl,K.init,⟨h8.nodup,fun _=>Iff.rfl⟩,_,by rw [expE,if_pos hE,Yq hE];rfl,fun h=>absurd h (by rw [expE,if_pos hE];exact hE)⟩)
 rw [hE,show errV 0=.nilIface from rfl];obtain ⟨As,n,cS,rfl,hl⟩:=hok hE;have ll:=hl.len;have sl:=hl.short;have hnn:n<=4000000:=by
  have h1:=hS.na;have h2:=hS.nd;have:(schL K d).length=d.actions.length+d.duratives.length:=by unfold schL schB;rw [List.length_map,List.length_append,List.length_map,List.length_map]
  omega
 have hg1:=hle1 _ _ hg;have h71:=hle1 _ _ h7;have h81:=h8.mono hle1;refine zW ?_;intros;refine Ya (Xf (fun gs=>?_));refine zW ?_;intros;rename_i gr;refine Ya (YgD h71 (fun gi2=>?_));refine zW ?_;intros;refine Yi (fun q σ fz' H'=>∃ (seen:List Nat) (m:List (Bs × Value)) (S:List Atom),q=(List.range mi.length).countP (fun i=>!seen.contains i)/\σ=[(28,Zp gi2),(6,Zp gr),(4,Zc As n cS)]/\Le fz1 fz'/\H'=[(gi2,Yb8 gi mi.length seen),(gr,Zu #[Zp gk,Zc As n cS,.map (some gs),Zn,Zn] 81),(gs,mapS m)]/\SetM fz' m S/\S.Nodup/\(∀ a∈S,a∈K.init)/\∀ i∈seen,∀ a,K.init[i]?=some a->a∈S)
  ⟨[],[],[],rfl,rfl,Zd,rfl,SetM.nil,List.nodup_nil,by simp,by simp⟩ Zw Zb ?_
 rintro q σ fz2 H' ⟨seen,m2,S2,rfl,rfl,hle2,rfl,hS2,hnd2,hin2,hall2⟩;have h72:=hle2 _ _ h71;have h82:=h81.mono hle2;refine zW ?_;intros;refine Ya (YiR Zz h72 (fun hall=>?_) (fun i p hp hi=>?_));rotate_left 1
 ·obtain ⟨a,ha⟩:=Yc (l:=K.init) (k:=i) (by have:=(Zg hp).1;rw [h82.2.1] at this;exact this);obtain ⟨haok,va,hpa,hRa⟩:=h82.2.2 i a ha;rw [hp] at hpa;injection hpa with hpa
  subst hpa;obtain ⟨Aa,na,ca,rfl,_⟩:=id hRa.args;refine zW ?_;intros;refine zG ?_;refine Ygj 0 h72 hp ?_;refine zWN ?_;intros;refine YS [_,_,_] ?_;refine zW ?_;intros;refine pU ?_;refine Yf (Does.perm (H':=[(gs,mapS m2),_,_,_]) (Zq (l₁:=[_]) (l₂:=[_,_,_])) (Does.after (Yh [_] [_,_,_] Zz (add_f hS2 hRa haok) (fun v5 fz5 H5 hle5 hR5=>?_))));obtain ⟨rfl,rfl,m5,rfl,hS5⟩:=hR5;refine ⟨_,Zq (l₁:=[_,_,_]) (l₂:=[_]),⟨Zd,Zx⟩,?_⟩;refine Ch.done ?_;refine zW ?_;intros;refine Wr ⟨seen++ [i],m5,_,rfl,rfl,hle2,rfl,hS5,?_,?_,?_⟩ ?_ Zw Zb
  ·split
   ·exact hnd2
   rename_i hna;exact List.nodup_append.2 ⟨hnd2,by simp,fun x hx y hy hxy=>by simp at hy;subst hy;subst hxy;exact hna hx⟩
  ·intro b hb;split at hb
   ·exact hin2 b hb
   rcases List.mem_append.1 hb with hb | hb
   ·exact hin2 b hb
   simp at hb;subst hb;exact Zm ha
  ·intro j hj b hb;rcases List.mem_append.1 hj with hj | hj
   ·have:=hall2 j hj b hb;split
    ·exact this
    simp [this]
   simp at hj;subst hj;rw [ha] at hb;injection hb with hb
   subst hb;split
   ·assumption
   simp
  exact Yc5 _ i (by rw [List.mem_range];exact (Zg hp).1) (fun j hj=>by simp at hj ⊢;exact fun h=>hj.1 h) (by simpa using hi) (by simp)
 have hset:YqC S2 K.init:=⟨hnd2,fun a=>⟨hin2 a,fun ha=>by
  obtain ⟨i,hi⟩:=List.getElem?_of_mem ha;exact hall2 i (hall i (by have:=(Zg hi).1;rw [h82.2.1];exact this)) a hi⟩⟩
 have hx2:=hle1.trans hle2;refine zW ?_;intros;refine Yi (fun q σ fz' H'=>∃ (k:Nat) (vb vd:Value) (gB gD:List Nat) (Hb Hd:HP),k<=n/\q=n - k/\σ=[(41,Zk k),(40,Zk n),(39,Zc As n cS),(6,Zp gr)]/\fz2=fz'/\H'=(gr,Zu #[Zp gk,Zc As n cS,.map (some gs),vb,vd] 81)::(gs,mapS m2)::(Hb++(Hd++(rowsO gB (exN0 ((schL K d).take k))++rowsO gD (exN0 ((schL K d).take k)))))/\gB.length=k/\gD.length=k/\Grow rowL 114 fz' vb k Hb (gB.zip (((schL K d).take k).map fun s=>s.arguments.length))/\Grow rowL 114 fz' vd k Hd (gD.zip (((schL K d).take k).map fun s=>s.arguments.length)))
  ⟨0,_,_,[],[],[],[],Z0 _,rfl,rfl,rfl,rfl,rfl,rfl,Grow.nil _ _ _,Grow.nil _ _ _⟩ Zw Zb ?_
 rintro q σ fz' H' ⟨k,vb,vd,gB,gD,Hb,Hd,hk,rfl,rfl,rfl,rfl,lgB,lgD,hGb,hGd⟩;obtain ⟨Ab,cb,rfl,_,_⟩:=hGb.form;obtain ⟨Ad,cd,rfl,_,_⟩:=hGd.form;refine zW ?_;intros;refine zC ?_ ?_<;>intro c1
 ·obtain ⟨s,hs⟩:=Yc (l:=schL K d) (k:=k) Zi;have hmany4:=YoC hE (Zm hs);refine zW ?_;intros;refine zI (hl.mono hle2) hs (fun pp1 hp1=>?_);refine zL hp1 ?_;intro cs hcs;obtain ⟨u0,u1,u2,u3,u4,u5,u6,u7,u8,u9,u10,u11,u12,u13,u14,u15,u16,u17,u18,u19,rfl,hR⟩:=Yaa hcs;obtain ⟨P0,p0,q0,rfl,_⟩:=id hR.params;obtain ⟨⟨P1,p1,q1,rfl,_⟩,⟨P2,p2,q2,rfl,_⟩,⟨P3,p3,q3,rfl,_⟩,⟨P4,p4,q4,rfl,_⟩⟩:=id hR.start.sls;obtain ⟨⟨P5,p5,q5,rfl,_⟩,⟨P6,p6,q6,rfl,_⟩,⟨P7,p7,q7,rfl,_⟩,⟨P8,p8,q8,rfl,_⟩⟩:=id hR.all.sls;obtain ⟨⟨P9,p9,q9,rfl,_⟩,⟨P10,p10,q10,rfl,_⟩,⟨P11,p11,q11,rfl,_⟩,⟨P12,p12,q12,rfl,_⟩⟩:=id hR.over.sls;obtain ⟨⟨P13,p13,q13,rfl,_⟩,⟨P14,p14,q14,rfl,_⟩,⟨P15,p15,q15,rfl,_⟩,⟨P16,p16,q16,rfl,_⟩⟩:=id hR.fin.sls;obtain ⟨P17,p17,q17,rfl,_⟩:=id hR.early;obtain ⟨P18,p18,q18,rfl,_⟩:=id hR.late;obtain ⟨P19,p19,q19,rfl,iar⟩:=id hR.arguments;have lar:=iar.len;have eT:(schL K d).take (k+1)=(schL K d).take k++ [s]:=by rw [List.take_add_one,hs];rfl
  have eZ:∀ (g:List Nat) (x:Nat),g.length=k->(g++ [x]).zip (((schL K d).take (k+1)).map fun s=>s.arguments.length)=g.zip (((schL K d).take k).map fun s=>s.arguments.length)++ [(x,p19)]:=fun g x hg=>by
   rw [eT,List.map_append,List.zip_append (by rw [List.length_map,List.length_take];omega),<- lar];rfl
  have eR:∀ (g:List Nat) (x:Nat),g.length=k->rowsO (g++ [x]) (exN0 ((schL K d).take (k+1)))=rowsO g (exN0 ((schL K d).take k))++ [rowO x (List.replicate p19 false)]:=fun g x hg=>by
   unfold exN0;rw [eT,List.map_append,List.map_cons,List.map_nil,lar];exact Ynd (by rw [List.length_map,List.length_take];omega)
  refine zWN ?_;intros;refine W9 [1,25,26] [_,_] ?_;refine zW ?_;intros;refine PK.p Zz (fun fz'=>by first | exact Yam rfl | exact WY Zz rfl | exact Xi rfl | exact YeQ Zz Zz (Xb Zi) rfl | exact Xh rfl) ?_;refine zW ?_;intros;refine Yo (Yo (Yo ?_));refine zW ?_;intros;refine Yo (Yo (Yo ?_));refine zW ?_;intros;refine Yo ?_;refine PK.p Zz (fun fz'=>by first | exact Yam rfl | exact WY Zz rfl | exact Xi rfl | exact YeQ Zz Zz (Xb Zi) rfl | exact Xh rfl) ?_;refine PK.p Zz (fun fz'=>by first | exact Yam rfl | exact WY Zz rfl | exact Xi rfl | exact YeQ Zz Zz (Xb Zi) rfl | exact Xh rfl) ?_;refine pT ?_
  repeat' first
   | refine Po.done ?_
   | (refine Yr ?_)
   | (refine XL ?_ ?_)
   | (refine Yd (i:=9) (Does.after (YdM (Zs _) (fun rb=>⟨_,Yml,?_,?_⟩)));· exact ⟨Zd,Zx⟩)
   | refine Yd (Yb (cs:=[.slice (some ⟨rb,0,none⟩) p19 p19]) (fun jb=>⟨⟨Zd,Zx⟩,?_⟩))
   | (refine Yd (Does.after (YD (d:=(rb,p19)) (YcH (A:=[_,_,_,_,_])) hGb row_one (.head _) rfl (fun vb2 Hb2 hOb=>⟨_,YcH (A:=[_,_,_,_,_]),⟨Zd,Zx⟩,?_⟩)));obtain ⟨Ab2,cb2,rfl,_,_⟩:=hOb.form)
   | (refine Yd (i:=19) (Does.after (YdM (Zs _) (fun rd=>⟨_,Yml,?_,?_⟩)));· exact ⟨Zd,Zx⟩)
   | refine Yd (Yb (cs:=[.slice (some ⟨rd,0,none⟩) p19 p19]) (fun jd=>⟨⟨Zd,Zx⟩,?_⟩))
   | (refine Yd (Does.after (YD (d:=(rd,p19)) (YhR (A:=[_,_,_,_,_,_,_])) hGd row_one (.head _) rfl (fun vd2 Hd2 hOd=>⟨_,YhR (A:=[_,_,_,_,_,_,_]),⟨Zd,Zx⟩,?_⟩)));obtain ⟨Ad2,cd2,rfl,_,_⟩:=hOd.form)
   | (refine Yd (Does.after (YD (d:=(rb,p19)) (YcH (A:=[_,_,_,_,_,_])) hGb row_one (.tail _ (.head _)) rfl (fun vb2 Hb2 hOb=>⟨_,YcH (A:=[_,_,_,_,_,_]),⟨Zd,Zx⟩,?_⟩)));obtain ⟨Ab2,cb2,rfl,_,_⟩:=hOb.form)
   | (refine Yd (Does.after (YD (d:=(rb,p19)) (YcH (A:=[_,_,_,_,_,_,_])) hGb row_one (.tail _ (.tail _ (.head _))) rfl (fun vb2 Hb2 hOb=>⟨_,YcH (A:=[_,_,_,_,_,_,_]),⟨Zd,Zx⟩,?_⟩)));obtain ⟨Ab2,cb2,rfl,_,_⟩:=hOb.form)
   | (refine Yd (Does.after (YD (d:=(rb,p19)) (YcH (A:=[_,_,_,_,_,_])) hGb row_one (.head _) rfl (fun vb2 Hb2 hOb=>⟨_,YcH (A:=[_,_,_,_,_,_]),⟨Zd,Zx⟩,?_⟩)));obtain ⟨Ab2,cb2,rfl,_,_⟩:=hOb.form)
   | (refine Yd (Does.after (YD (d:=(rb,p19)) (YcH (A:=[_,_,_,_,_,_,_])) hGb row_one (.tail _ (.head _)) rfl (fun vb2 Hb2 hOb=>⟨_,YcH (A:=[_,_,_,_,_,_,_]),⟨Zd,Zx⟩,?_⟩)));obtain ⟨Ab2,cb2,rfl,_,_⟩:=hOb.form)
   | (refine Yd (Does.after (YD (d:=(rb,p19)) (YcH (A:=[_,_,_,_,_,_,_])) hGb row_one (.head _) rfl (fun vb2 Hb2 hOb=>⟨_,YcH (A:=[_,_,_,_,_,_,_]),⟨Zd,Zx⟩,?_⟩)));obtain ⟨Ab2,cb2,rfl,_,_⟩:=hOb.form)
   | (refine Yd (Does.after (YD (d:=(rd,p19)) (YhR (A:=[_,_,_,_,_,_,_])) hGd row_one (.tail _ (.head _)) rfl (fun vd2 Hd2 hOd=>⟨_,YhR (A:=[_,_,_,_,_,_,_]),⟨Zd,Zx⟩,?_⟩)));obtain ⟨Ad2,cd2,rfl,_,_⟩:=hOd.form)
   | (refine Yd (Does.after (YD (d:=(rd,p19)) (YhR (A:=[_,_,_,_,_,_,_])) hGd row_one (.tail _ (.tail _ (.head _))) rfl (fun vd2 Hd2 hOd=>⟨_,YhR (A:=[_,_,_,_,_,_,_]),⟨Zd,Zx⟩,?_⟩)));obtain ⟨Ad2,cd2,rfl,_,_⟩:=hOd.form)
   | refine PoS.hard0 (Does.perm (fin0 (rb:=rowO rb _) (jb:=(jb,_)) (jd:=(jd,_)) (B:=Hb2) (D:=Hd2)) (WE ?_))
   | refine PoS.hard0 (WE ?_) (hd:=rfl)
   | refine PoS.hard0 (Does.perm (fin1 (rb:=rowO rb _) (jb:=(jb,_)) (jd:=(jd,_)) (B:=Hb2) (D:=Hd2)) (WE ?_))
   | refine PoS.hard0 (Does.perm (fin2 (rb:=rowO rb _) (jb:=(jb,_)) (jd:=(jd,_)) (B:=Hb2) (D:=Hd2)) (WE ?_))
   | refine PoS.hard0 (Does.perm (fin3 (rb:=rowO rb _) (jb:=(jb,_)) (jd:=(jd,_)) (B:=Hb2) (D:=Hd2)) (WE ?_))
   | refine PoS.hard0 (Does.perm (fin4 (rb:=rowO rb _) (jb:=(jb,_)) (jd:=(jd,_)) (B:=Hb2) (D:=Hd2)) (WE ?_))
   | refine PoS.hard0 (Does.perm (fin5 (rb:=rowO rb _) (jb:=(jb,_)) (jd:=(jd,_)) (B:=Hb2) (D:=Hd2)) (WE ?_))
  all_goals
   refine zW ?_;intros;exact wP (h:=by exact ⟨k+1,_,_,gB++ [rb],gD++ [rd],Hb2,Hd2,by omega,rfl,rfl,rfl,(by rw [eR gB rb lgB,eR gD rd lgD];try rfl),by rw [List.length_append,lgB];rfl,by rw [List.length_append,lgD];rfl,hOb.of (eZ gB rb lgB).symm rfl,hOd.of (eZ gD rd lgD).symm rfl⟩)
 have hk2:n=k:=by omega
 subst hk2;rw [Zl (show (schL K d).length<=n by omega)] at hGb hGd ⊢;generalize hll:schL K d=l at*
 first
 | refine Wp.freezeAll (H1:=(gs,mapS m2)::(rowsO gB (exN0 l)++rowsO gD (exN0 l))) (H2:=(gr,.cells #[.pointer (some ⟨gk,0,none⟩),.slice As n cS,.map (some gs),.slice Ab n cb,.slice Ad n cd] 81 (0,0))::(Hb++Hd)) permFz (fun fz6 hle6 hf6=>?_)
 | refine Seq.freezeAll (H1:=(gs,mapS m2)::(rowsO gB (exN0 l)++rowsO gD (exN0 l))) (H2:=(gr,.cells #[.pointer (some ⟨gk,0,none⟩),.slice As n cS,.map (some gs),.slice Ab n cb,.slice Ad n cd] 81 (0,0))::(Hb++Hd)) permFz (fun fz6 hle6 hf6=>?_)
 have hgr6:=hf6 _ (.head _);obtain ⟨Ab',cb',eb,hSb⟩:=hGb.sl hle6 (fun p hp=>hf6 p (by simp [hp])) Zi;injection eb with eb1 eb2 eb3
 subst eb1;subst eb3;obtain ⟨Ad',cd',ed,hSd⟩:=hGd.sl hle6 (fun p hp=>hf6 p (by simp [hp])) Zi;injection ed with ed1 ed2 ed3
 subst ed1;subst ed3;have hx6:=hx2.trans hle6;have hfit:=Yeo l;refine zW ?_;intros;refine Yi (fun q σ fz' H'=>∃ (w:RndS) (m:List (Bs × Value)) (f:Nat),q=meas (totB l) (totB l) w/\σ=[(6,Zp gr)]/\Le fz6 fz'/\H'=(gs,mapS m)::(rowsO gB w.B++rowsO gD w.D)/\SetM fz' m w.S/\FitR l w.B/\FitR l w.D/\meas (totB l) (totB l) w<f/\exF K l f w=exM K l S2 (exN0 l) (exN0 l))
  ⟨⟨S2,exN0 l,exN0 l,false⟩,m2,_,rfl,rfl,Zd,rfl,hS2.mono hle6,hfit,hfit,Nat.lt_succ_self _,rfl⟩ Zw Zb ?_
 rintro q σ fz7 H' ⟨w,m7,f,rfl,rfl,hle7,rfl,hS7,fB7,fD7,hf7,hfin⟩;obtain ⟨f,rfl⟩:∃ f',f=f'+1:=⟨f - 1,by omega⟩;have hx7:=hx6.trans hle7;refine zW ?_;intros;refine Ya (Does.after (Yh _ [] ((List.append_nil _).symm) (round_f (hle7 _ _ hgr6) (hK0.mono hx7) hOs hS7 (hl.mono (hle2.trans (hle6.trans hle7))) (hSb.mono hle7) (hSd.mono hle7) Zi Zi fB7 fD7 (hSh hE)) (fun v8 fz8 H8 hle8 hR8=>?_)));obtain ⟨rfl,m8,rfl,hS8⟩:=hR8;refine ⟨(gs,mapS m8)::(rowsO gB (Xq K l w.S w.B w.D).B++rowsO gD (Xq K l w.S w.B w.D).D),by rw [List.append_nil],?_⟩;have hrg:=YhI (K:=K) (l:=l) (S:=w.S) fB7 fD7;have hx8:=hle7.trans hle8;have hgr8:=hx8 _ _ hgr6;have hend:=YlG (K:=K) (l:=l) (f:=f) (S:=w.S) (B:=w.B) (D:=w.D) (n:=w.n);have hnxt:=YfR (K:=K) (l:=l) (f:=f) (S:=w.S) (B:=w.B) (D:=w.D) (n:=w.n);generalize hr:Xq K l w.S w.B w.D=r at hrg hS8 hend hnxt;obtain ⟨g1,g2,g3,g4,g5⟩:=hrg;have hsl:=hS8.2.1;cases hn:r.n with
 | false=>
  have hM:expM K d S2=r:=by
   unfold expM;rw [hll,<- hfin];exact hend (.inl hn)
  refine zW ?_;intros;refine zG ?_;refine YeO 0 ?_;refine zC ?_ ?_<;>intro c3
  ·have hX:expE K d S2=5:=by rw [expE,if_neg (by rw [hE];decide),hM,if_pos Zi]
   refine zW ?_;intros;exact wS (h:=by exact ⟨rfl,S2,hset,_,by rw [hX];rfl,fun h=>absurd h (by rw [hX];decide)⟩)
  have hX:expE K d S2=0:=by rw [expE,if_neg (by rw [hE];decide),hM,if_neg Zi]
  refine zW ?_;intros;refine ret2F rfl rfl rfl (fun fz9 hle9 hf9=>⟨rfl,S2,hset,_,by rw [hX];rfl,fun _=>⟨gr,gs,_,_,_,n,_,_,_,m8,gD,rfl,hle9 _ _ hgr8,hf9 _ (.head _),?_,?_,?_,by omega,?_⟩⟩)
  ·rw [hM];exact hS8.mono hle9
  ·rw [hll];exact hl.mono (hle2.trans (hle6.trans (hx8.trans hle9)))
  ·rw [hll];exact hSd.mono (hx8.trans hle9)
  rw [hM];exact fun p hp=>hf9 p (by simp [hp])
 | true=>
  refine zW ?_;intros;refine zG ?_;refine YeO 0 ?_;refine zC ?_ ?_<;>intro c3
  ·have hM:expM K d S2=r:=by
    unfold expM;rw [hll,<- hfin];exact hend (.inr Zi)
   have hX:expE K d S2=5:=by rw [expE,if_neg (by rw [hE];decide),hM,if_pos Zi]
   refine zW ?_;intros;exact wS (h:=by exact ⟨rfl,S2,hset,_,by rw [hX];rfl,fun h=>absurd h (by rw [hX];decide)⟩)
  have hl8:=g1.len;have hm8:=g4 hn Zi;have hmw:meas (totB l) (totB l) ⟨w.S,w.B,w.D,false⟩=meas (totB l) (totB l) w:=rfl;refine zW ?_;intros;exact wP (h:=by exact ⟨r,m8,f,rfl,rfl,hx8,rfl,hS8,g2,g3,by omega,by rw [<- hfin];exact (hnxt (fun h=>h.elim (fun e=>by rw [hn] at e;cases e) (fun e=>by omega))).symm⟩)
theorem sort0_q {fv:Value}:QFn prog 44 [Zn,fv] fz (.tuple #[]):=by
 unfold QFn;refine ⟨⟨_,Tryz.func44,by decide,by decide⟩,fun w hw=>?_⟩;exact (AnyF.slices_SortFunc_none Ybe none 0 fv w).mono fun e w' ⟨he,hb⟩=>⟨he,by subst hb;exact Fr.refl _ _⟩
theorem Yke:∀ {l S:List Atom},l.Nodup->(∀ a∈l,a∈S)->l.length<=S.length
 | [],_,_,_=>Z0 _
 | a::l,S,h,hs=>by
  have h1:=List.nodup_cons.1 h;have:=Yke (l:=l) (S:=S.erase a) h1.2 (fun b hb=>(List.mem_erase_of_ne (fun e=>by subst e;exact h1.1 hb)).2 (hs b (by simp [hb])));have ha:=hs a (by simp);have hl:=List.length_erase_of_mem ha;have hp:=List.length_pos_of_mem ha;rw [List.length_cons];omega
theorem Yo6 (h:S.Nodup) (hi:S[i]?=some a) (hj:S[j]?=some a):i=j:=by
 obtain ⟨x1,x2⟩:=Zg hi;obtain ⟨y1,y2⟩:=Zg hj;unfold List.Nodup at h;rw [List.pairwise_iff_getElem] at h;rcases Nat.lt_trichotomy i j with hlt | hlt | hlt
 ·exact absurd (x2.trans y2.symm) (h i j x1 y1 hlt)
 ·exact hlt
 exact absurd (y2.trans x2.symm) (h j i y1 x1 hlt)
theorem sorted_f {gs:Nat} (hgs:fz gs=some (mapS m)) (hS:SetM fz m S) (hn:S.length<=2000000):
 GFn prog 19 [.map (some gs)] fz [] (fun r fz' H'=>H'=[]/\∃ l,IsSl atomL fz' r l/\l.Perm S/\Yjs l):=by
 have hml:=hS.2.1;refine zF Tryz.func19 Tryz.ntmps19 (fun w0=>?_);refine zW ?_;refine Ya (YgD hgs (fun gi=>?_));refine zW ?_;refine Yi (fun q σ fz' H'=>∃ (seen:List Nat) (u:Value) (n:Nat) (Hs:HP) (l:List Atom),q=(List.range m.length).countP (fun i=>!seen.contains i)/\σ=[(7,Zp gi),(3,u)]/\fz=fz'/\H'=(gi,Yb8 gs m.length seen)::Hs/\(n=0->u=Zn/\Hs=[])/\Grow atomL 67 fz' u n Hs l/\l.Nodup/\(∀ a∈l,∃ j∈seen,S[j]?=some a)/\∀ i∈seen,∀ a,S[i]?=some a->a∈l)
  ⟨[],_,0,[],[],rfl,rfl,rfl,rfl,fun _=>⟨rfl,rfl⟩,Grow.nil _ _ _,List.nodup_nil,by simp,by simp⟩ Zw Zb ?_
 rintro q σ fz' H' ⟨seen,u,n,Hs,l,rfl,rfl,rfl,rfl,hz0,hG,hnd,hin,hall⟩;obtain ⟨Au,cu,rfl,_,_⟩:=hG.form;have lG:=hG.len;have hnS:n<=S.length:=by
  rw [<- lG];exact Yke hnd (fun a ha=>by obtain ⟨j,_,hj⟩:=hin a ha;exact Zm hj)
 refine zW ?_;refine Ya (YiR Zz hgs (fun hall2=>?_) (fun i p hp hi=>?_));rotate_left 1
 ·obtain ⟨a,ha⟩:=Yc (l:=S) (k:=i) (by have:=(Zg hp).1;omega);obtain ⟨haok,va,hpa,hRa⟩:=hS.2.2 i a ha;rw [hp] at hpa;injection hpa with hpa
  subst hpa;obtain ⟨Aa,na,ca,rfl,_⟩:=id hRa.args;have hna:a ∉ l:=fun hal=>by
   obtain ⟨j,hj,hja⟩:=hin a hal;have:i=j:=Yo6 hS.nodup ha hja;subst this;exact hi hj
  refine wG ?_;refine Ygj 0 hgs hp ?_;refine zW ?_;intros;refine Ya (Yb (cs:=[Zy a.name,Zc Aa na ca]) (fun gb=>?_));refine Ya (YD (Hr:=[_,_,_]) (d:=a) (Zr _) hG YbP (.head _) (Ycg hRa) (fun v' Hs' hO'=>?_));obtain ⟨Av',cv',rfl,_,_⟩:=hO'.form;refine zW ?_;refine Wr ⟨seen++ [i],_,n+1,Hs',l++ [a],rfl,rfl,rfl,rfl,fun h=>by omega,hO',?_,?_,?_⟩ ?_ Zw (List.Sublist.cons _ (List.Sublist.cons _ (List.Sublist.refl _)))
  ·exact List.nodup_append.2 ⟨hnd,by simp,fun x hx y hy hxy=>by simp at hy;subst hy;subst hxy;exact hna hx⟩
  ·intro b hb;rcases List.mem_append.1 hb with hb | hb
   ·obtain ⟨j,h1,h2⟩:=hin b hb;exact ⟨j,by simp [h1],h2⟩
   simp at hb;subst hb;exact ⟨i,by simp,ha⟩
  ·intro j hj b hb;rcases List.mem_append.1 hj with hj | hj
   ·simp [hall j hj b hb]
   simp at hj;subst hj;rw [ha] at hb;injection hb with hb
   subst hb;simp
  exact Yc5 _ i (by rw [List.mem_range];exact (Zg hp).1) (fun j hj=>by simp at hj ⊢;exact fun h=>hj.1 h) (by simpa using hi) (by simp)
 have hset:l.Perm S:=(List.perm_ext_iff_of_nodup hnd hS.nodup).2 fun a=>⟨fun ha=>by obtain ⟨j,_,hj⟩:=hin a ha;exact Zm hj,fun ha=>by
  obtain ⟨i,hi⟩:=List.getElem?_of_mem ha;exact hall i (hall2 i (by have:=(Zg hi).1;omega)) a hi⟩
 cases n with
 | zero=>
  have hl0:l=[]:=List.eq_nil_of_length_eq_zero lG;subst hl0;obtain ⟨e1,rfl⟩:=hz0 rfl;rw [e1];refine wc sort0_q ?_;exact wR (h:=by exact ⟨rfl,[],IsSl.nil,hset,fun i j a b _ h _=>by simp at h⟩)
 | succ n=>
  obtain ⟨g,cap,cur,e8,rfl,hB⟩:=hG.b Zi;injection e8 with e81 e82 e83
  subst e81;subst e83;refine zW ?_;refine Ya (Does.perm (H':=[(g,Zu cur.toArray 67),_]) (List.Perm.swap _ _ _) (Yh [_] [_] Zz (sort_f hB Zi Zi) (fun v5 fz5 H5 hle5 hR5=>?_)));obtain ⟨rfl,rfl,cur2,l2,rfl,hB2,hp2,hs2⟩:=hR5;refine zW ?_;refine Yb3 rfl rfl (fun fz3 hle3 hf3=>⟨rfl,l2,?_,hp2.trans hset,hs2⟩);obtain ⟨A',c',he,hsl⟩:=hB2.grow.sl hle3 (fun p hp=>hf3 p (by simp at hp;simp [hp])) Zi;exact ⟨A',_,c',he,hsl⟩
structure ChkOk (d:Domain) (p:Problem):Prop where
 dok:DomOk d/\XVal (domX d)
 pok:FVal p.goal/\PrbOk p/\XVal (prbX p)
 lim:¬LargeM d p (objsM d p)
 typ:newM d.types=0
 step:∀ i,i<8->(stepM d (objsM d p) p i).2=0
theorem YgV {f:Nat->Bs × Int}:∀ (n k:Nat),(Yel f n k).2=0->∀ i,i<n->(f (k+i)).2=0
 | 0,_,_,i,hi=>absurd hi Zi
 | n+1,k,h,i,hi=>by
  rw [Yel] at h;by_cases h0:(f k).2=0
  ·rw [if_pos h0] at h;cases i with
   | zero=>exact h0
   | succ i=>
    have:=YgV n (k+1) h i Zi
    rwa [show k+1+i=k+(i+1) by omega] at this
  rw [if_neg h0] at h;exact absurd h h0
theorem Yh9 (h:(YT d p).2=0):ChkOk d p:=by
 unfold YT at h;split at h
 ·cases h
 rename_i h1;split at h
 ·cases h
 rename_i h2;split at h
 ·cases h
 rename_i h3;split at h
 ·rename_i h4;exact absurd h h4
 rename_i h4;exact ⟨Classical.byContradiction h1,Classical.byContradiction h2,h3,Classical.byContradiction h4,fun i hi=>by
  have:=YgV 8 0 h i hi
  rwa [Nat.zero_add] at this⟩
theorem objs_len (h:¬LargeM d p (objsM d p)):d.constants.length+p.objects.length<=2000000:=by
 have h1:=(Ygz h).1.o;unfold objsM at h1;rw [List.length_append] at h1;omega
theorem YoH:∀ {l:List Param} {seen:List Bs},repM seen l=none->(parN l).Nodup/\∀ x∈l,x.name ∉ seen
 | [],_,_=>⟨List.nodup_nil,fun x hx=>by cases hx⟩
 | x::r,seen,h=>by
  rw [repM] at h;split at h
  ·cases h
  rename_i hn;obtain ⟨h1,h2⟩:=YoH h;refine ⟨List.nodup_cons.2 ⟨fun hx=>?_,h1⟩,fun y hy=>?_⟩
  ·obtain ⟨y,hy,e⟩:=List.mem_map.1 hx;exact h2 y hy (by simp [e])
  rcases List.mem_cons.1 hy with rfl | hy
  ·exact hn
  exact fun hs=>h2 y hy (by simp [hs])
theorem names_ok (hc:ChkOk d p):Ya1 d (objsM d p)=none:=by
 have h0:(stepM d (objsM d p) p 0).2=0:=hc.step 0 Zh;cases h:Ya1 d (objsM d p) with
 | none=>rfl
 | some x=>rw [stepM,h] at h0;exact absurd (show (4:Int)=0 from h0) Zh
theorem objs_nd (hc:ChkOk d p):(parN (objsM d p)).Nodup:=by
 have hn:=names_ok hc;unfold Ya1 at hn;split at hn
 ·cases hn
 split at hn
 ·cases hn
 rename_i h1;have h:=(YoH h1).1;unfold Yd6 parN at h;rw [List.map_map] at h;exact h
def YnS (S:List Atom) (a:Atom):List Atom:=if a∈S then S else S++ [a]
def YgJ (l:List Atom):List Atom:=l.foldl YnS []
def chgK (d:Domain) (x:Bs):Bool:=decide (∃ q∈d.predicates,q.name=x) && chgM d x
def knM (d:Domain) (p:Problem):Kn:=⟨d.types,objsM d p,YgJ p.init,chgK d⟩
theorem Ylu (hM:MaxF fz) (hD:DomainR fz d v1 v2 v3 v4 v5 v6) (hP:ProblemR fz p u1 u2 u3 u4 u5 u6 u7) (hS:ChkS d p) (hA:(YT d p).2=0->∀ a∈p.init,AtmOk a):
 GFn prog 17 [ZD d v1 v2 v3 v4 v5 v6,ZP p u1 u2 u3 u4 u5 u6 u7] fz []
  (fun r fz' H'=>H'=[]/\∃ vk,r=.tuple #[vk,errV (YT d p).2]/\((YT d p).2=0->KnD fz' vk (knM d p) d)):=by
 have hD0:=hD;have hP0:=hP;obtain ⟨⟨A1,n1,b1,rfl,i1⟩,⟨A2,n2,b2,rfl,i2⟩,⟨A3,n3,b3,rfl,i3⟩,⟨A4,n4,b4,rfl,i4⟩,⟨A5,n5,b5,rfl,i5⟩,⟨A6,n6,b6,rfl,i6⟩⟩:=hD.sls;obtain ⟨⟨B1,m1,d1,rfl,j1⟩,⟨B2,m2,d2,rfl,j2⟩,⟨B3,m3,d3,rfl,j3⟩⟩:=hP.sls;obtain ⟨⟨B4,m4,d4,rfl,_⟩,⟨B5,m5,d5,rfl,_⟩,⟨B6,m6,d6,rfl,_⟩,⟨B7,m7,d7,rfl,_⟩⟩:=hP.goal.sls;have l3:=i3.len;have s3:=i3.short;have lj2:=j2.len;have sj2:=j2.short;refine zF Tryz.func17 Tryz.ntmps17 (fun w0=>?_);refine pX (fun g2=>?_);refine pY (fun g3=>?_);refine zWO ?_;refine vc (Yqk hM hD0 hP0 hS) ?_;rw [show resV (YT d p)=.tuple #[Zy (YT d p).1,errV (YT d p).2] from rfl];by_cases hc:(YT d p).2=0;rotate_left 1
 ·rw [Yq hc];exact vS (h:=by exact ⟨rfl,_,rfl,fun h=>absurd h hc⟩)
 rw [hc,show errV 0=.nilIface from rfl];have hok:=Yh9 hc;have hAt:=hA hc;obtain ⟨hL,hT64,hp6⟩:=Ygz hok.lim;have htok:∀ q∈d.types,YZ q.name/\YdB q.typ:=fun q hq=>hok.dok.1.2.1 q hq
 refine vK (q:=Yi1 hM hD0 hT64 htok) (h:=fun v7 fz7 H7 hle7 hR7=>?_);obtain ⟨rfl,vf,rfl,hvf⟩:=hR7;obtain ⟨gf,gm,evf,hf1,hf2⟩:=hvf hok.typ;subst evf;have hF:ForR fz7 (Zp gf) d.types:=⟨gf,gm,rfl,hf1,hf2⟩;have hW:WFT d.types:=YiM hok.typ (fun q hq=>(XY i1 q hq).2) hT64;rw [hok.typ,show errV 0=.nilIface from rfl];have hD7:=hD0.mono hle7;have hP7:=hP0.mono hle7;refine zWN ?_
 first | refine YV (fun σ fz' H'=>∃ (gk gc gi:Nat) (Aa:Option Addr) (ca:Nat),σ=[(10,Zp gk),(3,Zp g3),(2,Zp g2)]/\Le fz7 fz'/\H'=[(gk,Zu #[Zy d.name,Zc A1 n1 b1,Zc A2 n2 b2,Zc A3 n3 b3,Zc A4 n4 b4,Zc A5 n5 b5,Zc A6 n6 b6,Zy p.name,Zy p.domain,Zc B1 m1 d1,Zc B2 m2 d2,Zc B3 m3 d3,Zy p.goal.op,Zy p.goal.name,Zc B4 m4 d4,Zc B5 m5 d5,Zc B6 m6 d6,Zc B7 m7 d7,Zp gf,Zc Aa (d.constants.length+p.objects.length) ca,.map (some gc),.map (some gi)] 124),(gc,mapS []),(gi,mapS []),(g3,Zu #[Zy p.name,Zy p.domain,Zc B1 m1 d1,Zc B2 m2 d2,Zc B3 m3 d3,Zy p.goal.op,Zy p.goal.name,Zc B4 m4 d4,Zc B5 m5 d5,Zc B6 m6 d6,Zc B7 m7 d7] 37),(g2,Zu #[Zy d.name,Zc A1 n1 b1,Zc A2 n2 b2,Zc A3 n3 b3,Zc A4 n4 b4,Zc A5 n5 b5,Zc A6 n6 b6] 28)]/\Sl paramL fz' Aa (d.constants.length+p.objects.length) ca (objsM d p)) ?_ ?_ | refine Yy (YV (fun σ fz' H'=>∃ (gk gc gi:Nat) (Aa:Option Addr) (ca:Nat),σ=[(10,Zp gk),(3,Zp g3),(2,Zp g2)]/\Le fz7 fz'/\H'=[(gk,Zu #[Zy d.name,Zc A1 n1 b1,Zc A2 n2 b2,Zc A3 n3 b3,Zc A4 n4 b4,Zc A5 n5 b5,Zc A6 n6 b6,Zy p.name,Zy p.domain,Zc B1 m1 d1,Zc B2 m2 d2,Zc B3 m3 d3,Zy p.goal.op,Zy p.goal.name,Zc B4 m4 d4,Zc B5 m5 d5,Zc B6 m6 d6,Zc B7 m7 d7,Zp gf,Zc Aa (d.constants.length+p.objects.length) ca,.map (some gc),.map (some gi)] 124),(gc,mapS []),(gi,mapS []),(g3,Zu #[Zy p.name,Zy p.domain,Zc B1 m1 d1,Zc B2 m2 d2,Zc B3 m3 d3,Zy p.goal.op,Zy p.goal.name,Zc B4 m4 d4,Zc B5 m5 d5,Zc B6 m6 d6,Zc B7 m7 d7] 37),(g2,Zu #[Zy d.name,Zc A1 n1 b1,Zc A2 n2 b2,Zc A3 n3 b3,Zc A4 n4 b4,Zc A5 n5 b5,Zc A6 n6 b6] 28)]/\Sl paramL fz' Aa (d.constants.length+p.objects.length) ca (objsM d p)) ?_ ?_)
 ·refine W9 [] [_,_] ?_;refine zW ?_;refine pT ?_;refine Po.three ?_ ?_ ?_
  ·refine Yd (Does.post (Yh [] [_,_] Zz (Ybu hD7 hP7 hS.dsm.constants hS.psm.objects) (fun v8 fz8' H8 hle8' hR8=>⟨[_,_],H8,Zq,fun fz8 hle8'' hf8=>?_⟩)));obtain ⟨Aa,ca,rfl,hall8⟩:=hR8.sl hle8'' hf8 (by have:=hS.dsm.constants;have:=hS.psm.objects;omega);have hle8:=hle8'.trans hle8'';refine ⟨⟨hle8,Zx⟩,?_⟩;refine XL ?_ ?_
   ·refine Yd (Xf (fun gc=>⟨⟨hle8,Zx⟩,?_⟩));refine Yr ?_;refine Yd (Xf (fun gi=>⟨⟨hle8,Zx⟩,?_⟩));refine Yr ?_;refine PoS.qk ⟨hle8,Zx⟩ (Xy ?_);refine Yr ?_;refine Yd (Does.perm (H':=[(gc,mapS []),(gi,mapS []),_,_]) (List.Perm.swap _ _ _) (Ydp _ (fun gk=>⟨⟨hle8,Zx⟩,?_⟩)));refine Yr ?_;refine PoS.qk ⟨hle8,Zx⟩ (YE ?_);refine Po.done ?_;exact wN (h:=by exact ⟨gk,gc,gi,Aa,ca,rfl,hle8,rfl,hall8⟩)
   refine Yd (Xf (fun gi=>⟨⟨hle8,Zx⟩,?_⟩));refine Yr ?_;refine Yd (Xf (fun gc=>⟨⟨hle8,Zx⟩,?_⟩));refine Yr ?_;refine PoS.qk ⟨hle8,Zx⟩ (Xy ?_);refine Yr ?_;refine Yd ((Ydp _ (fun gk=>⟨⟨hle8,Zx⟩,?_⟩)));refine Yr ?_;refine PoS.qk ⟨hle8,Zx⟩ (YE ?_);refine Po.done ?_;exact wN (h:=by exact ⟨gk,gc,gi,Aa,ca,rfl,hle8,rfl,hall8⟩)
  ·refine Yd (Xf (fun gc=>⟨⟨Zd,Zx⟩,?_⟩));refine XL ?_ ?_
   ·refine Yd (Does.post (Yh [] [_,_,_] Zz (Ybu hD7 hP7 hS.dsm.constants hS.psm.objects) (fun v8 fz8' H8 hle8' hR8=>⟨[_,_,_],H8,Zq,fun fz8 hle8'' hf8=>?_⟩)));obtain ⟨Aa,ca,rfl,hall8⟩:=hR8.sl hle8'' hf8 (by have:=hS.dsm.constants;have:=hS.psm.objects;omega);have hle8:=hle8'.trans hle8'';refine ⟨⟨hle8,Zx⟩,?_⟩;refine Yr ?_;refine Yd (Xf (fun gi=>⟨⟨hle8,Zx⟩,?_⟩));refine Yr ?_;refine PoS.qk ⟨hle8,Zx⟩ (Xy ?_);refine Yr ?_;refine Yd (Does.perm (H':=[(gc,mapS []),(gi,mapS []),_,_]) (List.Perm.swap _ _ _) (Ydp _ (fun gk=>⟨⟨hle8,Zx⟩,?_⟩)));refine Yr ?_;refine PoS.qk ⟨hle8,Zx⟩ (YE ?_);refine Po.done ?_;exact wN (h:=by exact ⟨gk,gc,gi,Aa,ca,rfl,hle8,rfl,hall8⟩)
   refine Yd (Xf (fun gi=>⟨⟨Zd,Zx⟩,?_⟩));refine Yr ?_;refine Yd (Does.post (Yh [] [_,_,_,_] Zz (Ybu hD7 hP7 hS.dsm.constants hS.psm.objects) (fun v8 fz8' H8 hle8' hR8=>⟨[_,_,_,_],H8,Zq,fun fz8 hle8'' hf8=>?_⟩)));obtain ⟨Aa,ca,rfl,hall8⟩:=hR8.sl hle8'' hf8 (by have:=hS.dsm.constants;have:=hS.psm.objects;omega);have hle8:=hle8'.trans hle8'';refine ⟨⟨hle8,Zx⟩,?_⟩;refine Yr ?_;refine PoS.qk ⟨hle8,Zx⟩ (Xy ?_);refine Yr ?_;refine Yd (Does.perm (H':=[(gc,mapS []),(gi,mapS []),_,_]) (List.Perm.swap _ _ _) (Ydp _ (fun gk=>⟨⟨hle8,Zx⟩,?_⟩)));refine Yr ?_;refine PoS.qk ⟨hle8,Zx⟩ (YE ?_);refine Po.done ?_;exact wN (h:=by exact ⟨gk,gc,gi,Aa,ca,rfl,hle8,rfl,hall8⟩)
  refine Yd (Xf (fun gi=>⟨⟨Zd,Zx⟩,?_⟩));refine XL ?_ ?_
  ·refine Yd (Does.post (Yh [] [_,_,_] Zz (Ybu hD7 hP7 hS.dsm.constants hS.psm.objects) (fun v8 fz8' H8 hle8' hR8=>⟨[_,_,_],H8,Zq,fun fz8 hle8'' hf8=>?_⟩)));obtain ⟨Aa,ca,rfl,hall8⟩:=hR8.sl hle8'' hf8 (by have:=hS.dsm.constants;have:=hS.psm.objects;omega);have hle8:=hle8'.trans hle8'';refine ⟨⟨hle8,Zx⟩,?_⟩;refine Yr ?_;refine Yd (Xf (fun gc=>⟨⟨hle8,Zx⟩,?_⟩));refine Yr ?_;refine PoS.qk ⟨hle8,Zx⟩ (Xy ?_);refine Yr ?_;refine Yd ((Ydp _ (fun gk=>⟨⟨hle8,Zx⟩,?_⟩)));refine Yr ?_;refine PoS.qk ⟨hle8,Zx⟩ (YE ?_);refine Po.done ?_;exact wN (h:=by exact ⟨gk,gc,gi,Aa,ca,rfl,hle8,rfl,hall8⟩)
  refine Yd (Xf (fun gc=>⟨⟨Zd,Zx⟩,?_⟩));refine Yr ?_;refine Yd (Does.post (Yh [] [_,_,_,_] Zz (Ybu hD7 hP7 hS.dsm.constants hS.psm.objects) (fun v8 fz8' H8 hle8' hR8=>⟨[_,_,_,_],H8,Zq,fun fz8 hle8'' hf8=>?_⟩)));obtain ⟨Aa,ca,rfl,hall8⟩:=hR8.sl hle8'' hf8 (by have:=hS.dsm.constants;have:=hS.psm.objects;omega);have hle8:=hle8'.trans hle8'';refine ⟨⟨hle8,Zx⟩,?_⟩;refine Yr ?_;refine PoS.qk ⟨hle8,Zx⟩ (Xy ?_);refine Yr ?_;refine Yd ((Ydp _ (fun gk=>⟨⟨hle8,Zx⟩,?_⟩)));refine Yr ?_;refine PoS.qk ⟨hle8,Zx⟩ (YE ?_);refine Po.done ?_;exact wN (h:=by exact ⟨gk,gc,gi,Aa,ca,rfl,hle8,rfl,hall8⟩)
 rintro σ fz8 H' ⟨gk,gc,gi,Aa,ca,rfl,hle8,rfl,hall8⟩;have hx8:=hle7.trans hle8;have hD8:=hD0.mono hx8;have i38:=i3.mono hx8;have j28:=j2.mono hx8;refine zW ?_;refine Yi (fun q σ fz' H'=>∃ (k:Nat) (m:List (Bs × Value)),k<=n3/\q=n3 - k/\σ=[(45,Zk k),(44,Zk n3),(43,Zc A3 n3 b3),(10,Zp gk),(3,Zp g3),(2,Zp g2)]/\fz8=fz'/\H'=[(gk,Zu #[Zy d.name,Zc A1 n1 b1,Zc A2 n2 b2,Zc A3 n3 b3,Zc A4 n4 b4,Zc A5 n5 b5,Zc A6 n6 b6,Zy p.name,Zy p.domain,Zc B1 m1 d1,Zc B2 m2 d2,Zc B3 m3 d3,Zy p.goal.op,Zy p.goal.name,Zc B4 m4 d4,Zc B5 m5 d5,Zc B6 m6 d6,Zc B7 m7 d7,Zp gf,Zc Aa (d.constants.length+p.objects.length) ca,.map (some gc),.map (some gi)] 124),(gc,mapS m),(gi,mapS []),(g3,Zu #[Zy p.name,Zy p.domain,Zc B1 m1 d1,Zc B2 m2 d2,Zc B3 m3 d3,Zy p.goal.op,Zy p.goal.name,Zc B4 m4 d4,Zc B5 m5 d5,Zc B6 m6 d6,Zc B7 m7 d7] 37),(g2,Zu #[Zy d.name,Zc A1 n1 b1,Zc A2 n2 b2,Zc A3 n3 b3,Zc A4 n4 b4,Zc A5 n5 b5,Zc A6 n6 b6] 28)]/\∀ x,(valS m x).getD (Zo false)=Zo (decide (∃ q∈d.predicates.take k,q.name=x) && chgM d x)) ⟨0,[],Z0 _,rfl,rfl,rfl,rfl,fun x=>by simp [valS,fndS]⟩ Zw Zb ?_;rintro q σ fz9 H' ⟨k,m,hk,rfl,rfl,rfl,rfl,hm⟩;refine wC ?_ ?_<;>intro c1
 ·obtain ⟨x,hx⟩:=Yc (l:=d.predicates) (k:=k) Zi;refine wI i38 hx (fun p1 hp1=>?_);refine zL hp1 ?_;intro cs hcs;obtain ⟨up,rfl,hR⟩:=Xo hcs;obtain ⟨C1,s1,t1,rfl,_⟩:=id hR.params;refine zWN ?_;intros;refine YS [_,_,_,_,_,_] ?_;refine wc (static_q hD8) ?_;refine zW ?_;refine pU ?_;refine Ch.hard0 (Xs (pre:=[_,_]) (Zr _) ?_);refine Ch.done ?_;refine zW ?_;exact Wr ⟨k+1,updS m x.name (Zo (!(!chgM d x.name))),by omega,rfl,rfl,rfl,rfl,fun y=>by
   rw [Ycn];by_cases hy:y=x.name
   ·rw [if_pos hy,hy,List.take_add_one,hx];simp
   rw [if_neg hy,hm y,List.take_add_one,hx]
   congr 2
   refine decide_eq_decide.2 ⟨fun ⟨q,h1,h2⟩=>⟨q,List.mem_append.2 (.inl h1),h2⟩,fun ⟨q,h1,h2⟩=>?_⟩;rcases List.mem_append.1 h1 with h1 | h1
   ·exact ⟨q,h1,h2⟩
   simp at h1;subst h1;exact absurd h2.symm hy⟩ Zi Zw Zb
 rw [Zl (show d.predicates.length<=k by omega)] at hm;refine zW ?_;refine Yi (fun q σ fz' H'=>∃ (k:Nat) (mi:List (Bs × Value)) (S:List Atom),k<=m2/\q=m2 - k/\σ=[(64,Zk k),(63,Zk m2),(62,Zc B2 m2 d2),(10,Zp gk)]/\fz8=fz'/\H'=[(gk,Zu #[Zy d.name,Zc A1 n1 b1,Zc A2 n2 b2,Zc A3 n3 b3,Zc A4 n4 b4,Zc A5 n5 b5,Zc A6 n6 b6,Zy p.name,Zy p.domain,Zc B1 m1 d1,Zc B2 m2 d2,Zc B3 m3 d3,Zy p.goal.op,Zy p.goal.name,Zc B4 m4 d4,Zc B5 m5 d5,Zc B6 m6 d6,Zc B7 m7 d7,Zp gf,Zc Aa (d.constants.length+p.objects.length) ca,.map (some gc),.map (some gi)] 124),(gc,mapS m),(gi,mapS mi)]/\SetM fz' mi S/\(p.init.take k).foldl YnS []=S) ⟨0,[],[],Z0 _,rfl,rfl,rfl,rfl,SetM.nil,rfl⟩ Zw Zb ?_;rintro q σ fz9 H' ⟨j,mi,S,hj,rfl,rfl,rfl,rfl,hSi,hfold⟩;refine wC ?_ ?_<;>intro c2
 ·obtain ⟨a,ha⟩:=Yc (l:=p.init) (k:=j) Zi;have haok:=hAt a (Zm ha);refine wI j28 ha (fun p2 hp2=>?_);refine zL hp2 ?_;intro cs hcs;obtain ⟨va,rfl,hRa⟩:=Xp hcs;obtain ⟨Aa2,na,ca2,rfl,_⟩:=id hRa.args;refine zWN ?_;intros;refine YS [_,_] ?_;refine zW ?_;refine pU ?_;refine Yf (Does.perm (H':=[(gi,mapS mi),_,_,_]) (Zq (l₁:=[_]) (l₂:=[_,_,_])) (Does.after (Yh [_] [_,_,_] Zz (add_f hSi hRa haok) (fun v5 fz5 H5 hle5 hR5=>?_))));obtain ⟨rfl,rfl,m5,rfl,hS5⟩:=hR5;refine ⟨_,Zq (l₁:=[_,_,_]) (l₂:=[_]),⟨Zd,Zx⟩,?_⟩;refine Ch.done ?_;exact wP (h:=by exact ⟨j+1,m5,_,by omega,rfl,rfl,rfl,rfl,hS5,by rw [List.take_add_one,ha,List.foldl_append,hfold];rfl⟩)
 rw [Zl (show p.init.length<=j by omega)] at hfold;refine zW ?_;refine ret2F rfl rfl rfl (fun fz3 hle3 hf3=>⟨rfl,_,rfl,fun _=>?_⟩);have hk3:=hf3 _ (.head _);refine ⟨⟨⟨gk,_,_,_,_,_,_,_,_,_,_,_,_,_,_,_,_,_,_,_,_,_,_,_,_,_,Aa,_,ca,rfl,hk3,i3.mono (hx8.trans hle3),i4.mono (hx8.trans hle3),hF.mono (hle8.trans hle3),hall8.mono hle3⟩,hW,objs_nd hok⟩,⟨⟨gk,_,_,_,_,_,_,_,_,_,_,_,_,_,_,_,_,_,_,_,Aa,_,ca,gc,gi,m,mi,rfl,hk3,hF.mono (hle8.trans hle3),hall8.mono hle3,hf3 _ (.tail _ (.head _)),hm,hf3 _ (.tail _ (.tail _ (.head _))),?_⟩,hW,?_⟩,gk,_,_,_,rfl,hk3,rfl,rfl,(i5.mono (hx8.trans hle3)).is,(i6.mono (hx8.trans hle3)).is⟩
 ·show SetM fz3 mi (YgJ p.init);unfold YgJ;rw [hfold];exact hSi.mono hle3
 show (objsM d p).length<=2000000;unfold objsM;rw [List.length_append];exact objs_len hok.lim
def mnM (d:Domain) (p:Problem):Mn:=⟨d,d.types,objsM d p⟩
theorem Ygv (hM:MaxF fz) (hD:DomainR fz d v1 v2 v3 v4 v5 v6) (hP:ProblemR fz p u1 u2 u3 u4 u5 u6 u7) (hS:ChkS d p) (h6:(objsM d p).length<=6):
 GFn prog 30 [ZD d v1 v2 v3 v4 v5 v6,ZP p u1 u2 u3 u4 u5 u6 u7] fz []
  (fun r fz' H'=>H'=[]/\∃ vm,r=.tuple #[vm,errV (YT d p).2]/\((YT d p).2=0->MnR fz' vm (mnM d p))):=by
 have hD0:=hD;have hP0:=hP;obtain ⟨⟨A1,n1,b1,rfl,i1⟩,⟨A2,n2,b2,rfl,i2⟩,⟨A3,n3,b3,rfl,i3⟩,⟨A4,n4,b4,rfl,i4⟩,⟨A5,n5,b5,rfl,i5⟩,⟨A6,n6,b6,rfl,i6⟩⟩:=hD.sls;obtain ⟨⟨B1,m1,d1,rfl,j1⟩,⟨B2,m2,d2,rfl,j2⟩,⟨B3,m3,d3,rfl,j3⟩⟩:=hP.sls;obtain ⟨⟨B4,m4,d4,rfl,_⟩,⟨B5,m5,d5,rfl,_⟩,⟨B6,m6,d6,rfl,_⟩,⟨B7,m7,d7,rfl,_⟩⟩:=hP.goal.sls;refine zF Tryz.func30 Tryz.ntmps30 (fun w0=>?_);refine pX (fun g2=>?_);refine pY (fun g3=>?_);refine zWO ?_;refine vc (Yqk hM hD0 hP0 hS) ?_;rw [show resV (YT d p)=.tuple #[Zy (YT d p).1,errV (YT d p).2] from rfl];by_cases hc:(YT d p).2=0;rotate_left 1
 ·rw [Yq hc];exact vS (h:=by exact ⟨rfl,_,rfl,fun h=>absurd h hc⟩)
 rw [hc,show errV 0=.nilIface from rfl];have hok:=Yh9 hc;obtain ⟨hL,hT64,hp6⟩:=Ygz hok.lim;have htok:∀ q∈d.types,YZ q.name/\YdB q.typ:=fun q hq=>hok.dok.1.2.1 q hq
 refine vK (q:=Yi1 hM hD0 hT64 htok) (h:=fun v7 fz7 H7 hle7 hR7=>?_);obtain ⟨rfl,vf,rfl,hvf⟩:=hR7;obtain ⟨gf,gm,evf,hf1,hf2⟩:=hvf hok.typ;subst evf;have hF:ForR fz7 (Zp gf) d.types:=⟨gf,gm,rfl,hf1,hf2⟩;have hW:WFT d.types:=YiM hok.typ (fun q hq=>(XY i1 q hq).2) hT64;rw [hok.typ,show errV 0=.nilIface from rfl];have hD7:=hD0.mono hle7;have hP7:=hP0.mono hle7;refine zWN ?_;refine YS [_,_] ?_;refine zW ?_;refine pU ?_;refine Yf (Does.post (Yh [] [_,_] Zz (Ybu hD7 hP7 hS.dsm.constants hS.psm.objects) (fun v8 fz8' H8 hle8' hR8=>⟨[_,_],H8,Zq,fun fz8 hle8'' hf8=>?_⟩)));obtain ⟨Aa,ca,rfl,hall8⟩:=hR8.sl hle8'' hf8 (by have:=hS.dsm.constants;have:=hS.psm.objects;omega);have hle8:=hle8'.trans hle8'';refine ⟨⟨hle8,Zx⟩,?_⟩;refine Ch.qk ⟨hle8,Zx⟩ (Xy ?_);refine Yf (Ydp _ (fun gk=>⟨⟨hle8,Zx⟩,?_⟩));refine Ch.qk ⟨hle8,Zx⟩ (YE ?_);refine Ch.qk ⟨hle8,Zx⟩ (YE ?_);refine Ch.done ?_;refine zW ?_;refine ret2F rfl rfl rfl (fun fz9 hle9 hf9=>⟨rfl,_,rfl,fun _=>?_⟩);have hk:=hf9 _ (.head _);exact ⟨⟨gk,_,_,_,_,_,_,_,_,_,_,_,_,_,_,_,_,_,_,_,_,_,rfl,hk,hD7.mono (hle8.trans hle9),hF.mono (hle8.trans hle9),hall8.mono hle9⟩,hW,h6⟩
end Go.Proofs.YtacfpcbladaohaaGreatDoor
