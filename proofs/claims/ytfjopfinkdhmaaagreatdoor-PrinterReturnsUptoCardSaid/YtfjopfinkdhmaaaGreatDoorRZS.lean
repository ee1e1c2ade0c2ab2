/- The texts RT, RU, RV, RW, RX, laid together. Conditions: none. -/
import Derived.Test.YtfjopfinkdhmaaaGreatDoorRZR
set_option linter.all false
noncomputable section
set_option maxRecDepth 20000
namespace Go.Proofs.YtfjopfinkdhmaaaGreatDoor
open Go.Lx Go.RowKit
attribute [local instance 10] Classical.propDecidable
open Go.Proofs.Tryz (prog)
def Yda {α:Type} (S:α->Bs->Sexpr->Except Int α):α->List (Bs × Sexpr)->Except Int α
 | a,[]=>.ok a
 | a,p::r=>match S a p.1 p.2 with
  | .error c=>.error c
  | .ok b=>Yda S b r
def finS {α:Type} (S:α->Bs->Sexpr->Except Int α) (kw:List Bs) (a:α) (x:Sexpr):Except Int α:=match Yda S a (prtM kw (x.kids.drop 2)).1 with
 | .error c=>.error c
 | .ok b=>if (prtM kw (x.kids.drop 2)).2 then .ok b else .error 2
def ErrA {α:Type} (m:Except Int α) (ev:Value) (a:α):Prop:=match m with
 | .error c=>ev=errV c/\c≠0
 | .ok b=>ev=.nilIface/\a=b
theorem Yhj {p:Bs × Sexpr}:∀ {r:List Sexpr} {kw:List Bs},p∈(prtM kw r).1->p.2∈r
 | [],kw,h=>by rw [YmK] at h;cases h
 | [x],kw,h=>by rw [YkI (.inr rfl)] at h;cases h
 | x::v::r,kw,h=>by
  by_cases hk:0<=kwP kw x
  ·rw [YmJ hk] at h;rcases List.mem_append.1 h with h | h
   ·simp at h;subst h;simp
   exact List.mem_cons_of_mem _ (List.mem_cons_of_mem _ (Yhj h))
  rw [YkI (.inl Zi)] at h;cases h
theorem Ynp {x:Sexpr} {c:Int} (h:hdrM x=.error c):c≠0:=by
 unfold hdrM at h;split at h
 ·split at h
  ·split at h
   ·cases h
   injection h with h;omega
  injection h with h;omega
 injection h with h;omega
variable {fz:FZ} {vk:Value}
theorem hdr_ok {x:Sexpr} {s:Bs} (h:hdrM x=.ok s) (hR:YS fz x vk):Short s/\2<=x.kids.length:=by
 unfold hdrM at h;split at h
 ·rename_i w y r hk;split at h
  ·split at h
   ·rename_i hn;injection h with h
    subst h;exact ⟨by have:=hn.2.2.1;unfold Short;omega,by rw [hk];simp⟩
   cases h
  cases h
 cases h
theorem YkO {x:Sexpr} {c:Int} (h:Ydn x=.error c):c≠0:=by
 unfold Ydn at h;split at h
 ·cases h
 injection h with h;omega
theorem Ym3 {x:Sexpr} {n:Int} (h:Ydn x=.ok n) (hR:YS fz x vk):I64 n:=by
 unfold Ydn at h;split at h
 ·injection h with h;rw [<- h];exact hR.value
 cases h
theorem YcW:FormulaR fz Y5 Zn Zn Zn Zn:=Ycw
def setA (a:Action) (w:Bs) (v:Sexpr):Except Int Action:=if w=YE then (match Yeu v with | .error c=>.error c | .ok y=>.ok {a with params:=y}) else if w=YdP then (match Ydn v with | .error c=>.error c | .ok y=>if y<0 then .error 1 else .ok {a with cost:=y}) else if w=Xl then (match WU v with | .error c=>.error c | .ok y=>.ok {a with pre:=y}) else (match WI v with | .error c=>.error c | .ok y=>.ok {a with changes:=y})
theorem Yms {a:Action} {w:Bs} {v:Sexpr}:setA a w v=if w=YE then (match Yeu v with | .error c=>.error c | .ok y=>.ok {a with params:=y}) else if w=YdP then (match Ydn v with | .error c=>.error c | .ok y=>if y<0 then .error 1 else .ok {a with cost:=y}) else if w=Xl then (match WU v with | .error c=>.error c | .ok y=>.ok {a with pre:=y}) else (match WI v with | .error c=>.error c | .ok y=>.ok {a with changes:=y}):=rfl
def act0 (nm:Bs):Action:=⟨nm,[],1,Y5,[]⟩
theorem Yik {nm:Bs} (h:Short nm):actionL.rep fz (act0 nm) [.string nm,Zn,Zk 1,.string kAnd,Ze,Zn,Zn,Zn,Zn,Zn]:=X6 (x:=act0 nm) ⟨h,IsSl.nil,by show I64 1;unfold I64;omega,YcW,IsSl.nil⟩
def kwA:List Bs:=[YE,YdP,Xl,Yck]
def actM (x:Sexpr):Except Int Action:=match hdrM x with | .error c=>.error c | .ok nm=>finS setA kwA (act0 nm) x
set_option maxHeartbeats 16000000 in
theorem action_f {x:Sexpr} (hs:XSm x) (h:YS fz x vk):GFn prog 95 [.agg #[Zk x.kind,Zk x.value,Zk x.line,Zk x.column,.string x.text,vk]] fz [] (fun r fz' H'=>H'=[]/\ResL actionL fz' (actM x) r):=by
 have hhd:=YkX h;obtain ⟨A,n,c,rfl,ik⟩:=h.kids;have hl:=ik.len;have hsl:x.kids.length<=1000000:=(Y2.1 hs).1;have hM:actM x=match hdrM x with | .error c=>.error c | .ok nm=>finS setA kwA (act0 nm) x:=rfl
 refine zF Tryz.func95 Tryz.ntmps95 (fun w0=>?_);refine zW ?_;intros;refine zc Yaf ?_;refine zW ?_;intros;rename_i g1 g2 g4;cases hd:hdrM x with
 | error c=>
  rw [hd] at hM hhd;have hc:c≠0:=Ynp hd;refine zc hhd ?_;unfold strV;refine zW ?_;exact YN T (vs:=[.agg #[Ze,Zn,Zk 1,.string kAnd,Ze,Zn,Zn,Zn,Zn,Zn],.iface 65 (Zk c)]) Zz ⟨⟨_,_,1,_,_,_,rfl,rfl,rfl,rfl,rfl,rfl⟩,rfl,trivial⟩ (fun fz3 hle3 hf3=>⟨rfl,ResL.err hM hc (Yik XV)⟩)
 | ok nm=>
  rw [hd] at hhd;have hM:actM x=finS setA kwA (act0 nm) x:=by rw [actM,hd]
  obtain ⟨hnm,hn2⟩:=hdr_ok hd h;refine zc hhd ?_;unfold strV;refine wG ?_;refine XC (j:=2) T Zz Zz Zz Zz Zz Zz ik Zi (fun A' hA'=>?_);refine zW ?_;refine Ya Zz (Yb T (cs:=[.string YE,.string YdP,.string Xl,.string Yck]) Zz Zz Zz Zz Zz Zz Zz Zz (fun gb=>?_))
  first | refine Wp.freeze Zz (fun fz2 hle2 hg2=>?_) | refine Seq.freeze Zz (fun fz2 hle2 hg2=>?_)
  have hkw:Sl strL fz2 (some ⟨gb,0,none⟩) 4 4 kwA:=Xz (ys:=[(YE,[.string YE]),(YdP,[.string YdP]),(Xl,[.string Xl]),(Yck,[.string Yck])]) hg2 rfl rfl (by intro p hp;simp only [List.mem_cons,List.not_mem_nil,_root_.or_false] at hp;rcases hp with rfl | rfl | rfl | rfl<;>exact ⟨rfl,by show _<=_;decide⟩) rfl Zh;refine wK (q:=YmT (hA'.mono hle2) hkw Zi Zi) (h:=fun r4 fz4 H4 hle4 hR4=>?_);obtain ⟨rfl,A1,n1,c1,A2,c2,rfl,i1,i2⟩:=hR4;generalize hlv:errV (if (prtM kwA (x.kids.drop 2)).2=true then 0 else 2)=lv at*;have hmem:∀ p∈(prtM kwA (x.kids.drop 2)).1,XSm p.2:=fun p hp=>(Y2.1 hs).2 _ (List.mem_of_mem_drop (Yhj hp))
  unfold finS at hM;generalize hpl:(prtM kwA (x.kids.drop 2)).1=l at*;have hl1:=i1.len;have hs1:=i1.short;rw [List.length_map] at hl1;rw [List.nil_append];refine zW ?_;refine Ym (fun q σ fz' H'=>∃ (k:Nat) (a:Action) (cs:List Value),k<=n1/\q=n1 - k/\σ=[(34,Zk k),(33,Zk n1),(32,.slice A2 n1 c2),(8,lv),(6,.slice A1 n1 c1),(4,Zp g4),(2,Zp g2)]/\Le fz4 fz'/\H'=[(g4,.cells (List.toArray cs) 75 (0,0)),(g2,.cells #[Ze,Zn,Zk 0,Ze,Ze,Zn,Zn,Zn,Zn,Zn] 75 (0,0))]/\actionL.rep fz' a cs/\Yda setA (act0 nm) l=Yda setA a (l.drop k)) ⟨0,act0 nm,_,Z0 _,rfl,rfl,Le.refl _,rfl,Yik hnm,rfl⟩ Zw Zb ?_;rintro q σ fz' H' ⟨k,a,cs,hk,rfl,rfl,hle,rfl,hA,hF⟩;obtain ⟨x1,x2,x3,x4,x5,x6,rfl,hR⟩:=Xq hA;obtain ⟨U2,u2,w2,rfl,j2⟩:=hR.params;obtain ⟨U4a,u4a,w4a,rfl,_⟩:=hR.pre.args;obtain ⟨U4b,u4b,w4b,rfl,_⟩:=hR.pre.params;obtain ⟨U4c,u4c,w4c,rfl,_⟩:=hR.pre.exprs;obtain ⟨U4d,u4d,w4d,rfl,_⟩:=hR.pre.kids;obtain ⟨U5,u5,w5,rfl,j5⟩:=hR.changes;refine wC (fun c3=>?_) (fun c3=>?_)
  ·obtain ⟨⟨w,v⟩,hp⟩:=Yl (l:=l) (k:=k) Zi;have hw:(l.map Prod.fst)[k]?=some w:=by rw [List.getElem?_map,hp];rfl
   have hv:(l.map Prod.snd)[k]?=some v:=by rw [List.getElem?_map,hp];rfl
   have hsv:=hmem _ (Zm hp);rw [YbG hp,Yda] at hF;refine zWX ?_;refine Yj ?_;refine zWX ?_;refine Yj ?_;refine zWX ?_;refine Yj ?_;refine zWX ?_;refine zI (i2.mono hle) hv (fun p1 hp1=>?_);refine zL hp1 ?_;intro cs1 hcs1;obtain ⟨vv,rfl,hRv⟩:=Yi hcs1;have hRv':=hRv;obtain ⟨Av,nv,cv,rfl,iv⟩:=hRv.kids;refine zWX ?_;intros;rename_i g10;refine Yj ?_;refine zWX ?_;refine Wp.mid (fun σ fz' H'=>∃ (ev:Value) (cs:List Value) (a2:Action),σ=[(34,Zk k),(33,Zk n1),(32,.slice A2 n1 c2),(8,lv),(6,.slice A1 n1 c1),(5,ev),(4,Zp g4),(2,Zp g2)]/\Le fz4 fz'/\H'=[(g4,.cells (List.toArray cs) 75 (0,0)),(g2,.cells #[Ze,Zn,Zk 0,Ze,Ze,Zn,Zn,Zn,Zn,Zn] 75 (0,0))]/\actionL.rep fz' a2 cs/\ErrA (setA a w v) ev a2) ?_ ?_
   ·have hS:=Yms (a:=a) (w:=w) (v:=v);refine wI (i1.mono hle) hw (fun p2 hp2=>?_);refine wH hp2 (fun hs2=>?_);refine wC (fun b0=>?_) (fun b0=>?_)
    ·rw [if_pos (show w=YE from b0)] at hS;refine wK (q:=dpar_f hsv hRv') (h:=fun r5 fz5 H5 hle5 hR5=>?_);obtain ⟨rfl,hR5⟩:=hR5;cases hx:Yeu v with
     | error c=>
      rw [hx] at hR5 hS;obtain ⟨rfl,hc⟩:=hR5;rw [Yk hc];exact wN (h:=by exact ⟨_,_,{a with params:=[]},rfl,hle.trans hle5,rfl,X6 ⟨(hR.mono hle5).name,IsSl.nil,(hR.mono hle5).cost,(hR.mono hle5).pre,(hR.mono hle5).changes⟩,by rw [hS];exact ⟨(Yk hc).symm,hc⟩⟩)
     | ok y=>
      rw [hx] at hR5 hS;obtain ⟨A5,n5,c5,rfl,il⟩:=hR5;exact wN (h:=by exact ⟨_,_,{a with params:=y},rfl,hle.trans hle5,rfl,X6 ⟨(hR.mono hle5).name,⟨_,_,_,rfl,il⟩,(hR.mono hle5).cost,(hR.mono hle5).pre,(hR.mono hle5).changes⟩,by rw [hS];exact ⟨rfl,rfl⟩⟩)
    rw [if_neg (show ¬w=YE from b0)] at hS;refine wC (fun b1=>?_) (fun b1=>?_)
    ·rw [if_pos (show w=YdP from b1)] at hS;refine zW ?_;have hnq:=YkN (fz:=fz') (x:=v) (vk:=.slice Av nv cv);cases hx:Ydn v with
     | error c=>
      rw [hx] at hS hnq;have hc:c≠0:=YkO hx;refine zc hnq ?_;unfold intV;exact wN (h:=by exact ⟨_,_,{a with cost:=0},rfl,hle,rfl,X6 ⟨(hR.mono (Le.refl _)).name,(hR.mono (Le.refl _)).params,i64z,(hR.mono (Le.refl _)).pre,(hR.mono (Le.refl _)).changes⟩,by rw [hS];exact ⟨(Yk hc).symm,hc⟩⟩)
     | ok y=>
      rw [hx] at hS hnq;have hy:I64 y:=Ym3 hx hRv';refine zc hnq ?_;unfold intV;refine zW ?_;simp only at hS;refine zC (fun c5=>?_) (fun c5=>?_)
      ·rw [if_pos c5] at hS;exact wN (h:=by exact ⟨_,_,{a with cost:=y},rfl,hle,rfl,X6 ⟨(hR.mono (Le.refl _)).name,(hR.mono (Le.refl _)).params,hy,(hR.mono (Le.refl _)).pre,(hR.mono (Le.refl _)).changes⟩,by rw [hS];exact ⟨(Yk Zh).symm,by decide⟩⟩)
      rw [if_neg c5] at hS;exact wN (h:=by exact ⟨_,_,{a with cost:=y},rfl,hle,rfl,X6 ⟨(hR.mono (Le.refl _)).name,(hR.mono (Le.refl _)).params,hy,(hR.mono (Le.refl _)).pre,(hR.mono (Le.refl _)).changes⟩,by rw [hS];exact ⟨rfl,rfl⟩⟩)
    rw [if_neg (show ¬w=YdP from b1)] at hS;refine wC (fun b2=>?_) (fun b2=>?_)
    ·rw [if_pos (show w=Xl from b2)] at hS;refine wK (q:=Yc3 hRv') (h:=fun r5 fz5 H5 hle5 hR5=>?_);obtain ⟨rfl,f5,cs5,hr5,hR5⟩:=hR5;obtain ⟨y1,y2,y3,y4,rfl,hE5⟩:=YA hr5;obtain ⟨B1,m1,d1,rfl,_⟩:=hE5.args;obtain ⟨B2,m2,d2,rfl,_⟩:=hE5.params;obtain ⟨B3,m3,d3,rfl,_⟩:=hE5.exprs;obtain ⟨B4,m4,d4,rfl,_⟩:=hE5.kids;cases hx:WU v with
     | error c=>
      rw [hx] at hR5 hS;obtain ⟨rfl,hc⟩:=hR5;rw [Yk hc];exact wN (h:=by exact ⟨_,_,{a with pre:=f5},rfl,hle.trans hle5,rfl,X6 ⟨(hR.mono hle5).name,(hR.mono hle5).params,(hR.mono hle5).cost,hE5,(hR.mono hle5).changes⟩,by rw [hS];exact ⟨(Yk hc).symm,hc⟩⟩)
     | ok y=>
      rw [hx] at hR5 hS;obtain ⟨rfl,rfl⟩:=hR5;exact wN (h:=by exact ⟨_,_,{a with pre:=y},rfl,hle.trans hle5,rfl,X6 ⟨(hR.mono hle5).name,(hR.mono hle5).params,(hR.mono hle5).cost,hE5,(hR.mono hle5).changes⟩,by rw [hS];exact ⟨rfl,rfl⟩⟩)
    rw [if_neg (show ¬w=Xl from b2)] at hS;refine wK (q:=Yeg hRv') (h:=fun r5 fz5 H5 hle5 hR5=>?_);obtain ⟨rfl,hR5⟩:=hR5;cases hx:WI v with
    | error c=>
     rw [hx] at hR5 hS;obtain ⟨rfl,hc⟩:=hR5;rw [Yk hc];exact wN (h:=by exact ⟨_,_,{a with changes:=[]},rfl,hle.trans hle5,rfl,X6 ⟨(hR.mono hle5).name,(hR.mono hle5).params,(hR.mono hle5).cost,(hR.mono hle5).pre,IsSl.nil⟩,by rw [hS];exact ⟨(Yk hc).symm,hc⟩⟩)
    | ok y=>
     rw [hx] at hR5 hS;obtain ⟨A5,n5,c5,rfl,il⟩:=hR5;exact wN (h:=by exact ⟨_,_,{a with changes:=y},rfl,hle.trans hle5,rfl,X6 ⟨(hR.mono hle5).name,(hR.mono hle5).params,(hR.mono hle5).cost,(hR.mono hle5).pre,⟨_,_,_,rfl,il⟩⟩,by rw [hS];exact ⟨rfl,rfl⟩⟩)
   rintro σ fz' H' ⟨ev,cs,a2,rfl,hle5,rfl,hA5,hS⟩;obtain ⟨x1,x2,x3,x4,x5,x6,rfl,hR'⟩:=Xq hA5;obtain ⟨U2,u2,w2,rfl,j2⟩:=hR'.params;obtain ⟨U4a,u4a,w4a,rfl,_⟩:=hR'.pre.args;obtain ⟨U4b,u4b,w4b,rfl,_⟩:=hR'.pre.params;obtain ⟨U4c,u4c,w4c,rfl,_⟩:=hR'.pre.exprs;obtain ⟨U4d,u4d,w4d,rfl,_⟩:=hR'.pre.kids;obtain ⟨U5,u5,w5,rfl,j5⟩:=hR'.changes;cases hx:setA a w v with
   | error c=>
    rw [hx] at hS hF;obtain ⟨rfl,hc⟩:=hS;rw [hF] at hM;rw [Yk hc];refine zW ?_;exact YN T (vs:=[.agg #[.string a2.name,.slice U2 u2 w2,Zk a2.cost,.string a2.pre.op,.string a2.pre.name,.slice U4a u4a w4a,.slice U4b u4b w4b,.slice U4c u4c w4c,.slice U4d u4d w4d,.slice U5 u5 w5],.iface 65 (Zk c)]) Zz ⟨⟨_,_,1,_,_,_,rfl,rfl,rfl,rfl,rfl,rfl⟩,rfl,trivial⟩ (fun fz3 hle3 hf3=>⟨rfl,ResL.err hM hc (actionL.mono hle3 hA5)⟩)
   | ok b=>
    rw [hx] at hS hF;obtain ⟨rfl,rfl⟩:=hS;exact wP (h:=by exact ⟨k+1,a2,_,by omega,rfl,rfl,hle5,rfl,hA5,hF⟩)
  rw [List.drop_eq_nil_of_le Zi,Yda] at hF;rw [hF] at hM;refine zW ?_;cases hb:(prtM kwA (x.kids.drop 2)).2 with
  | true=>
   rw [hb] at hM hlv;subst hlv;exact YN T (vs:=[.agg #[.string a.name,.slice U2 u2 w2,Zk a.cost,.string a.pre.op,.string a.pre.name,.slice U4a u4a w4a,.slice U4b u4b w4b,.slice U4c u4c w4c,.slice U4d u4d w4d,.slice U5 u5 w5],.nilIface]) Zz ⟨⟨_,_,1,_,_,_,rfl,rfl,rfl,rfl,rfl,rfl⟩,rfl,trivial⟩ (fun fz3 hle3 hf3=>⟨rfl,ResL.fine hM (actionL.mono hle3 hA)⟩)
  | false=>
   rw [hb] at hM hlv;subst hlv;exact YN T (vs:=[.agg #[.string a.name,.slice U2 u2 w2,Zk a.cost,.string a.pre.op,.string a.pre.name,.slice U4a u4a w4a,.slice U4b u4b w4b,.slice U4c u4c w4c,.slice U4d u4d w4d,.slice U5 u5 w5],.iface 65 (Zk 2)]) Zz ⟨⟨_,_,1,_,_,_,rfl,rfl,rfl,rfl,rfl,rfl⟩,rfl,trivial⟩ (fun fz3 hle3 hf3=>⟨rfl,ResL.err hM Zh (actionL.mono hle3 hA)⟩)
def setD (a:Durative) (w:Bs) (v:Sexpr):Except Int Durative:=if w=YE then (match Yeu v with | .error c=>.error c | .ok y=>.ok {a with params:=y}) else if w=XW then (match Ydn v with | .error c=>.error c | .ok y=>.ok {a with duration:=y}) else if w=YaQ then (match WU v with | .error c=>.error c | .ok y=>.ok {a with start:=y}) else if w=Yc9 then (match WU v with | .error c=>.error c | .ok y=>.ok {a with over:=y}) else if w=kEnd then (match WU v with | .error c=>.error c | .ok y=>.ok {a with fin:=y}) else if w=WQ then (match WI v with | .error c=>.error c | .ok y=>.ok {a with atStart:=y}) else (match WI v with | .error c=>.error c | .ok y=>.ok {a with atEnd:=y})
theorem Ymr {a:Durative} {w:Bs} {v:Sexpr}:setD a w v=if w=YE then (match Yeu v with | .error c=>.error c | .ok y=>.ok {a with params:=y}) else if w=XW then (match Ydn v with | .error c=>.error c | .ok y=>.ok {a with duration:=y}) else if w=YaQ then (match WU v with | .error c=>.error c | .ok y=>.ok {a with start:=y}) else if w=Yc9 then (match WU v with | .error c=>.error c | .ok y=>.ok {a with over:=y}) else if w=kEnd then (match WU v with | .error c=>.error c | .ok y=>.ok {a with fin:=y}) else if w=WQ then (match WI v with | .error c=>.error c | .ok y=>.ok {a with atStart:=y}) else (match WI v with | .error c=>.error c | .ok y=>.ok {a with atEnd:=y}):=rfl
def dur0 (nm:Bs):Durative:=⟨nm,[],1,Y5,Y5,Y5,[],[]⟩
theorem Yij {nm:Bs} (h:Short nm):durativeL.rep fz (dur0 nm) [.string nm,Zn,Zk 1,.string kAnd,Ze,Zn,Zn,Zn,Zn,.string kAnd,Ze,Zn,Zn,Zn,Zn,.string kAnd,Ze,Zn,Zn,Zn,Zn,Zn,Zn]:=Y3 (x:=dur0 nm) ⟨h,IsSl.nil,by show I64 1;unfold I64;omega,YcW,YcW,YcW,IsSl.nil,IsSl.nil⟩
def kwD:List Bs:=[YE,XW,YaQ,Yc9,kEnd,WQ,YdQ]
def durM (x:Sexpr):Except Int Durative:=match hdrM x with | .error c=>.error c | .ok nm=>finS setD kwD (dur0 nm) x
set_option maxHeartbeats 16000000 in
theorem YlI {x:Sexpr} (hs:XSm x) (h:YS fz x vk):GFn prog 96 [.agg #[Zk x.kind,Zk x.value,Zk x.line,Zk x.column,.string x.text,vk]] fz [] (fun r fz' H'=>H'=[]/\ResL durativeL fz' (durM x) r):=by
 have hhd:=YkX h;obtain ⟨A,n,c,rfl,ik⟩:=h.kids;have hl:=ik.len;have hsl:x.kids.length<=1000000:=(Y2.1 hs).1;have hM:durM x=match hdrM x with | .error c=>.error c | .ok nm=>finS setD kwD (dur0 nm) x:=rfl
 refine zF Tryz.func96 Tryz.ntmps96 (fun w0=>?_);refine zW ?_;intros;refine zc Yaf ?_;refine wc Yaf ?_;refine wc Yaf ?_;refine zW ?_;intros;rename_i g1 g2 g4;cases hd:hdrM x with
 | error c=>
  rw [hd] at hM hhd;have hc:c≠0:=Ynp hd;refine zc hhd ?_;unfold strV;refine zW ?_;exact YN T (vs:=[.agg #[Ze,Zn,Zk 1,.string kAnd,Ze,Zn,Zn,Zn,Zn,.string kAnd,Ze,Zn,Zn,Zn,Zn,.string kAnd,Ze,Zn,Zn,Zn,Zn,Zn,Zn],.iface 65 (Zk c)]) Zz ⟨⟨_,_,1,_,_,_,rfl,rfl,rfl,rfl,rfl,rfl⟩,rfl,trivial⟩ (fun fz3 hle3 hf3=>⟨rfl,ResL.err hM hc (Yij XV)⟩)
 | ok nm=>
  rw [hd] at hhd;have hM:durM x=finS setD kwD (dur0 nm) x:=by rw [durM,hd]
  obtain ⟨hnm,hn2⟩:=hdr_ok hd h;refine zc hhd ?_;unfold strV;refine wG ?_;refine XC (j:=2) T Zz Zz Zz Zz Zz Zz ik Zi (fun A' hA'=>?_);refine zW ?_;refine Ya Zz (Yb T (cs:=[.string YE,.string XW,.string YaQ,.string Yc9,.string kEnd,.string WQ,.string YdQ]) Zz Zz Zz Zz Zz Zz Zz Zz (fun gb=>?_))
  first | refine Wp.freeze Zz (fun fz2 hle2 hg2=>?_) | refine Seq.freeze Zz (fun fz2 hle2 hg2=>?_)
  have hkw:Sl strL fz2 (some ⟨gb,0,none⟩) 7 7 kwD:=Xz (ys:=[(YE,[.string YE]),(XW,[.string XW]),(YaQ,[.string YaQ]),(Yc9,[.string Yc9]),(kEnd,[.string kEnd]),(WQ,[.string WQ]),(YdQ,[.string YdQ])]) hg2 rfl rfl (by intro p hp;simp only [List.mem_cons,List.not_mem_nil,_root_.or_false] at hp;rcases hp with rfl | rfl | rfl | rfl | rfl | rfl | rfl<;>exact ⟨rfl,by show _<=_;decide⟩) rfl Zh;refine wK (q:=YmT (hA'.mono hle2) hkw Zi Zi) (h:=fun r4 fz4 H4 hle4 hR4=>?_);obtain ⟨rfl,A1,n1,c1,A2,c2,rfl,i1,i2⟩:=hR4;generalize hlv:errV (if (prtM kwD (x.kids.drop 2)).2=true then 0 else 2)=lv at*;have hmem:∀ p∈(prtM kwD (x.kids.drop 2)).1,XSm p.2:=fun p hp=>(Y2.1 hs).2 _ (List.mem_of_mem_drop (Yhj hp))
  unfold finS at hM;generalize hpl:(prtM kwD (x.kids.drop 2)).1=l at*;have hl1:=i1.len;have hs1:=i1.short;rw [List.length_map] at hl1;rw [List.nil_append];refine zW ?_;refine Ym (fun q σ fz' H'=>∃ (k:Nat) (a:Durative) (cs:List Value),k<=n1/\q=n1 - k/\σ=[(36,Zk k),(35,Zk n1),(34,.slice A2 n1 c2),(8,lv),(6,.slice A1 n1 c1),(4,Zp g4),(2,Zp g2)]/\Le fz4 fz'/\H'=[(g4,.cells (List.toArray cs) 78 (0,0)),(g2,.cells #[Ze,Zn,Zk 0,Ze,Ze,Zn,Zn,Zn,Zn,Ze,Ze,Zn,Zn,Zn,Zn,Ze,Ze,Zn,Zn,Zn,Zn,Zn,Zn] 78 (0,0))]/\durativeL.rep fz' a cs/\Yda setD (dur0 nm) l=Yda setD a (l.drop k)) ⟨0,dur0 nm,_,Z0 _,rfl,rfl,Le.refl _,rfl,Yij hnm,rfl⟩ Zw Zb ?_;rintro q σ fz' H' ⟨k,a,cs,hk,rfl,rfl,hle,rfl,hA,hF⟩;obtain ⟨x1,x2,x3,x4,x5,x6,x7,x8,x9,x10,x11,x12,x13,x14,x15,rfl,hR⟩:=Xg hA;obtain ⟨U2,u2,w2,rfl,j2⟩:=hR.params;obtain ⟨U4a,u4a,w4a,rfl,_⟩:=hR.start.args;obtain ⟨U4b,u4b,w4b,rfl,_⟩:=hR.start.params;obtain ⟨U4c,u4c,w4c,rfl,_⟩:=hR.start.exprs;obtain ⟨U4d,u4d,w4d,rfl,_⟩:=hR.start.kids;obtain ⟨U5a,u5a,w5a,rfl,_⟩:=hR.over.args;obtain ⟨U5b,u5b,w5b,rfl,_⟩:=hR.over.params;obtain ⟨U5c,u5c,w5c,rfl,_⟩:=hR.over.exprs;obtain ⟨U5d,u5d,w5d,rfl,_⟩:=hR.over.kids;obtain ⟨U6a,u6a,w6a,rfl,_⟩:=hR.fin.args;obtain ⟨U6b,u6b,w6b,rfl,_⟩:=hR.fin.params;obtain ⟨U6c,u6c,w6c,rfl,_⟩:=hR.fin.exprs;obtain ⟨U6d,u6d,w6d,rfl,_⟩:=hR.fin.kids;obtain ⟨U7,u7,w7,rfl,j7⟩:=hR.atStart;obtain ⟨U8,u8,w8,rfl,j8⟩:=hR.atEnd;refine wC (fun c3=>?_) (fun c3=>?_)
  ·obtain ⟨⟨w,v⟩,hp⟩:=Yl (l:=l) (k:=k) Zi;have hw:(l.map Prod.fst)[k]?=some w:=by rw [List.getElem?_map,hp];rfl
   have hv:(l.map Prod.snd)[k]?=some v:=by rw [List.getElem?_map,hp];rfl
   have hsv:=hmem _ (Zm hp);rw [YbG hp,Yda] at hF;refine zWX ?_;refine Yj ?_;refine zWX ?_;refine Yj ?_;refine zWX ?_;refine Yj ?_;refine zWX ?_;refine zI (i2.mono hle) hv (fun p1 hp1=>?_);refine zL hp1 ?_;intro cs1 hcs1;obtain ⟨vv,rfl,hRv⟩:=Yi hcs1;have hRv':=hRv;obtain ⟨Av,nv,cv,rfl,iv⟩:=hRv.kids;refine zWX ?_;intros;rename_i g10;refine Yj ?_;refine zWX ?_;refine Wp.mid (fun σ fz' H'=>∃ (ev:Value) (cs:List Value) (a2:Durative),σ=[(36,Zk k),(35,Zk n1),(34,.slice A2 n1 c2),(8,lv),(6,.slice A1 n1 c1),(5,ev),(4,Zp g4),(2,Zp g2)]/\Le fz4 fz'/\H'=[(g4,.cells (List.toArray cs) 78 (0,0)),(g2,.cells #[Ze,Zn,Zk 0,Ze,Ze,Zn,Zn,Zn,Zn,Ze,Ze,Zn,Zn,Zn,Zn,Ze,Ze,Zn,Zn,Zn,Zn,Zn,Zn] 78 (0,0))]/\durativeL.rep fz' a2 cs/\ErrA (setD a w v) ev a2) ?_ ?_
   ·have hS:=Ymr (a:=a) (w:=w) (v:=v);refine wI (i1.mono hle) hw (fun p2 hp2=>?_);refine wH hp2 (fun hs2=>?_);refine wC (fun b0=>?_) (fun b0=>?_)
    ·rw [if_pos (show w=YE from b0)] at hS;refine wK (q:=dpar_f hsv hRv') (h:=fun r5 fz5 H5 hle5 hR5=>?_);obtain ⟨rfl,hR5⟩:=hR5;cases hx:Yeu v with
     | error c=>
      rw [hx] at hR5 hS;obtain ⟨rfl,hc⟩:=hR5;rw [Yk hc];exact wN (h:=by exact ⟨_,_,{a with params:=[]},rfl,hle.trans hle5,rfl,Y3 ⟨(hR.mono hle5).name,IsSl.nil,(hR.mono hle5).duration,(hR.mono hle5).start,(hR.mono hle5).over,(hR.mono hle5).fin,(hR.mono hle5).atStart,(hR.mono hle5).atEnd⟩,by rw [hS];exact ⟨(Yk hc).symm,hc⟩⟩)
     | ok y=>
      rw [hx] at hR5 hS;obtain ⟨A5,n5,c5,rfl,il⟩:=hR5;exact wN (h:=by exact ⟨_,_,{a with params:=y},rfl,hle.trans hle5,rfl,Y3 ⟨(hR.mono hle5).name,⟨_,_,_,rfl,il⟩,(hR.mono hle5).duration,(hR.mono hle5).start,(hR.mono hle5).over,(hR.mono hle5).fin,(hR.mono hle5).atStart,(hR.mono hle5).atEnd⟩,by rw [hS];exact ⟨rfl,rfl⟩⟩)
    rw [if_neg (show ¬w=YE from b0)] at hS;refine wC (fun b1=>?_) (fun b1=>?_)
    ·rw [if_pos (show w=XW from b1)] at hS;refine zW ?_;have hnq:=YkN (fz:=fz') (x:=v) (vk:=.slice Av nv cv);cases hx:Ydn v with
     | error c=>
      rw [hx] at hS hnq;have hc:c≠0:=YkO hx;refine zc hnq ?_;unfold intV;exact wN (h:=by exact ⟨_,_,{a with duration:=0},rfl,hle,rfl,Y3 ⟨(hR.mono (Le.refl _)).name,(hR.mono (Le.refl _)).params,i64z,(hR.mono (Le.refl _)).start,(hR.mono (Le.refl _)).over,(hR.mono (Le.refl _)).fin,(hR.mono (Le.refl _)).atStart,(hR.mono (Le.refl _)).atEnd⟩,by rw [hS];exact ⟨(Yk hc).symm,hc⟩⟩)
     | ok y=>
      rw [hx] at hS hnq;have hy:I64 y:=Ym3 hx hRv';refine zc hnq ?_;unfold intV;exact wN (h:=by exact ⟨_,_,{a with duration:=y},rfl,hle,rfl,Y3 ⟨(hR.mono (Le.refl _)).name,(hR.mono (Le.refl _)).params,hy,(hR.mono (Le.refl _)).start,(hR.mono (Le.refl _)).over,(hR.mono (Le.refl _)).fin,(hR.mono (Le.refl _)).atStart,(hR.mono (Le.refl _)).atEnd⟩,by rw [hS];exact ⟨rfl,rfl⟩⟩)
    rw [if_neg (show ¬w=XW from b1)] at hS;refine wC (fun b2=>?_) (fun b2=>?_)
    ·rw [if_pos (show w=YaQ from b2)] at hS;refine wK (q:=Yc3 hRv') (h:=fun r5 fz5 H5 hle5 hR5=>?_);obtain ⟨rfl,f5,cs5,hr5,hR5⟩:=hR5;obtain ⟨y1,y2,y3,y4,rfl,hE5⟩:=YA hr5;obtain ⟨B1,m1,d1,rfl,_⟩:=hE5.args;obtain ⟨B2,m2,d2,rfl,_⟩:=hE5.params;obtain ⟨B3,m3,d3,rfl,_⟩:=hE5.exprs;obtain ⟨B4,m4,d4,rfl,_⟩:=hE5.kids;cases hx:WU v with
     | error c=>
      rw [hx] at hR5 hS;obtain ⟨rfl,hc⟩:=hR5;rw [Yk hc];exact wN (h:=by exact ⟨_,_,{a with start:=f5},rfl,hle.trans hle5,rfl,Y3 ⟨(hR.mono hle5).name,(hR.mono hle5).params,(hR.mono hle5).duration,hE5,(hR.mono hle5).over,(hR.mono hle5).fin,(hR.mono hle5).atStart,(hR.mono hle5).atEnd⟩,by rw [hS];exact ⟨(Yk hc).symm,hc⟩⟩)
     | ok y=>
      rw [hx] at hR5 hS;obtain ⟨rfl,rfl⟩:=hR5;exact wN (h:=by exact ⟨_,_,{a with start:=y},rfl,hle.trans hle5,rfl,Y3 ⟨(hR.mono hle5).name,(hR.mono hle5).params,(hR.mono hle5).duration,hE5,(hR.mono hle5).over,(hR.mono hle5).fin,(hR.mono hle5).atStart,(hR.mono hle5).atEnd⟩,by rw [hS];exact ⟨rfl,rfl⟩⟩)
    rw [if_neg (show ¬w=YaQ from b2)] at hS;refine wC (fun b3=>?_) (fun b3=>?_)
    ·rw [if_pos (show w=Yc9 from b3)] at hS;refine wK (q:=Yc3 hRv') (h:=fun r5 fz5 H5 hle5 hR5=>?_);obtain ⟨rfl,f5,cs5,hr5,hR5⟩:=hR5;obtain ⟨y1,y2,y3,y4,rfl,hE5⟩:=YA hr5;obtain ⟨B1,m1,d1,rfl,_⟩:=hE5.args;obtain ⟨B2,m2,d2,rfl,_⟩:=hE5.params;obtain ⟨B3,m3,d3,rfl,_⟩:=hE5.exprs;obtain ⟨B4,m4,d4,rfl,_⟩:=hE5.kids;cases hx:WU v with
     | error c=>
      rw [hx] at hR5 hS;obtain ⟨rfl,hc⟩:=hR5;rw [Yk hc];exact wN (h:=by exact ⟨_,_,{a with over:=f5},rfl,hle.trans hle5,rfl,Y3 ⟨(hR.mono hle5).name,(hR.mono hle5).params,(hR.mono hle5).duration,(hR.mono hle5).start,hE5,(hR.mono hle5).fin,(hR.mono hle5).atStart,(hR.mono hle5).atEnd⟩,by rw [hS];exact ⟨(Yk hc).symm,hc⟩⟩)
     | ok y=>
      rw [hx] at hR5 hS;obtain ⟨rfl,rfl⟩:=hR5;exact wN (h:=by exact ⟨_,_,{a with over:=y},rfl,hle.trans hle5,rfl,Y3 ⟨(hR.mono hle5).name,(hR.mono hle5).params,(hR.mono hle5).duration,(hR.mono hle5).start,hE5,(hR.mono hle5).fin,(hR.mono hle5).atStart,(hR.mono hle5).atEnd⟩,by rw [hS];exact ⟨rfl,rfl⟩⟩)
    rw [if_neg (show ¬w=Yc9 from b3)] at hS;refine wC (fun b4=>?_) (fun b4=>?_)
    ·rw [if_pos (show w=kEnd from b4)] at hS;refine wK (q:=Yc3 hRv') (h:=fun r5 fz5 H5 hle5 hR5=>?_);obtain ⟨rfl,f5,cs5,hr5,hR5⟩:=hR5;obtain ⟨y1,y2,y3,y4,rfl,hE5⟩:=YA hr5;obtain ⟨B1,m1,d1,rfl,_⟩:=hE5.args;obtain ⟨B2,m2,d2,rfl,_⟩:=hE5.params;obtain ⟨B3,m3,d3,rfl,_⟩:=hE5.exprs;obtain ⟨B4,m4,d4,rfl,_⟩:=hE5.kids;cases hx:WU v with
     | error c=>
      rw [hx] at hR5 hS;obtain ⟨rfl,hc⟩:=hR5;rw [Yk hc];exact wN (h:=by exact ⟨_,_,{a with fin:=f5},rfl,hle.trans hle5,rfl,Y3 ⟨(hR.mono hle5).name,(hR.mono hle5).params,(hR.mono hle5).duration,(hR.mono hle5).start,(hR.mono hle5).over,hE5,(hR.mono hle5).atStart,(hR.mono hle5).atEnd⟩,by rw [hS];exact ⟨(Yk hc).symm,hc⟩⟩)
     | ok y=>
      rw [hx] at hR5 hS;obtain ⟨rfl,rfl⟩:=hR5;exact wN (h:=by exact ⟨_,_,{a with fin:=y},rfl,hle.trans hle5,rfl,Y3 ⟨(hR.mono hle5).name,(hR.mono hle5).params,(hR.mono hle5).duration,(hR.mono hle5).start,(hR.mono hle5).over,hE5,(hR.mono hle5).atStart,(hR.mono hle5).atEnd⟩,by rw [hS];exact ⟨rfl,rfl⟩⟩)
    rw [if_neg (show ¬w=kEnd from b4)] at hS;refine wC (fun b5=>?_) (fun b5=>?_)
    ·rw [if_pos (show w=WQ from b5)] at hS;refine wK (q:=Yeg hRv') (h:=fun r5 fz5 H5 hle5 hR5=>?_);obtain ⟨rfl,hR5⟩:=hR5;cases hx:WI v with
     | error c=>
      rw [hx] at hR5 hS;obtain ⟨rfl,hc⟩:=hR5;rw [Yk hc];exact wN (h:=by exact ⟨_,_,{a with atStart:=[]},rfl,hle.trans hle5,rfl,Y3 ⟨(hR.mono hle5).name,(hR.mono hle5).params,(hR.mono hle5).duration,(hR.mono hle5).start,(hR.mono hle5).over,(hR.mono hle5).fin,IsSl.nil,(hR.mono hle5).atEnd⟩,by rw [hS];exact ⟨(Yk hc).symm,hc⟩⟩)
     | ok y=>
      rw [hx] at hR5 hS;obtain ⟨A5,n5,c5,rfl,il⟩:=hR5;exact wN (h:=by exact ⟨_,_,{a with atStart:=y},rfl,hle.trans hle5,rfl,Y3 ⟨(hR.mono hle5).name,(hR.mono hle5).params,(hR.mono hle5).duration,(hR.mono hle5).start,(hR.mono hle5).over,(hR.mono hle5).fin,⟨_,_,_,rfl,il⟩,(hR.mono hle5).atEnd⟩,by rw [hS];exact ⟨rfl,rfl⟩⟩)
    rw [if_neg (show ¬w=WQ from b5)] at hS;refine wK (q:=Yeg hRv') (h:=fun r5 fz5 H5 hle5 hR5=>?_);obtain ⟨rfl,hR5⟩:=hR5;cases hx:WI v with
    | error c=>
     rw [hx] at hR5 hS;obtain ⟨rfl,hc⟩:=hR5;rw [Yk hc];exact wN (h:=by exact ⟨_,_,{a with atEnd:=[]},rfl,hle.trans hle5,rfl,Y3 ⟨(hR.mono hle5).name,(hR.mono hle5).params,(hR.mono hle5).duration,(hR.mono hle5).start,(hR.mono hle5).over,(hR.mono hle5).fin,(hR.mono hle5).atStart,IsSl.nil⟩,by rw [hS];exact ⟨(Yk hc).symm,hc⟩⟩)
    | ok y=>
     rw [hx] at hR5 hS;obtain ⟨A5,n5,c5,rfl,il⟩:=hR5;exact wN (h:=by exact ⟨_,_,{a with atEnd:=y},rfl,hle.trans hle5,rfl,Y3 ⟨(hR.mono hle5).name,(hR.mono hle5).params,(hR.mono hle5).duration,(hR.mono hle5).start,(hR.mono hle5).over,(hR.mono hle5).fin,(hR.mono hle5).atStart,⟨_,_,_,rfl,il⟩⟩,by rw [hS];exact ⟨rfl,rfl⟩⟩)
   rintro σ fz' H' ⟨ev,cs,a2,rfl,hle5,rfl,hA5,hS⟩;obtain ⟨x1,x2,x3,x4,x5,x6,x7,x8,x9,x10,x11,x12,x13,x14,x15,rfl,hR'⟩:=Xg hA5;obtain ⟨U2,u2,w2,rfl,j2⟩:=hR'.params;obtain ⟨U4a,u4a,w4a,rfl,_⟩:=hR'.start.args;obtain ⟨U4b,u4b,w4b,rfl,_⟩:=hR'.start.params;obtain ⟨U4c,u4c,w4c,rfl,_⟩:=hR'.start.exprs;obtain ⟨U4d,u4d,w4d,rfl,_⟩:=hR'.start.kids;obtain ⟨U5a,u5a,w5a,rfl,_⟩:=hR'.over.args;obtain ⟨U5b,u5b,w5b,rfl,_⟩:=hR'.over.params;obtain ⟨U5c,u5c,w5c,rfl,_⟩:=hR'.over.exprs;obtain ⟨U5d,u5d,w5d,rfl,_⟩:=hR'.over.kids;obtain ⟨U6a,u6a,w6a,rfl,_⟩:=hR'.fin.args;obtain ⟨U6b,u6b,w6b,rfl,_⟩:=hR'.fin.params;obtain ⟨U6c,u6c,w6c,rfl,_⟩:=hR'.fin.exprs;obtain ⟨U6d,u6d,w6d,rfl,_⟩:=hR'.fin.kids;obtain ⟨U7,u7,w7,rfl,j7⟩:=hR'.atStart;obtain ⟨U8,u8,w8,rfl,j8⟩:=hR'.atEnd;cases hx:setD a w v with
   | error c=>
    rw [hx] at hS hF;obtain ⟨rfl,hc⟩:=hS;rw [hF] at hM;rw [Yk hc];refine zW ?_;exact YN T (vs:=[.agg #[.string a2.name,.slice U2 u2 w2,Zk a2.duration,.string a2.start.op,.string a2.start.name,.slice U4a u4a w4a,.slice U4b u4b w4b,.slice U4c u4c w4c,.slice U4d u4d w4d,.string a2.over.op,.string a2.over.name,.slice U5a u5a w5a,.slice U5b u5b w5b,.slice U5c u5c w5c,.slice U5d u5d w5d,.string a2.fin.op,.string a2.fin.name,.slice U6a u6a w6a,.slice U6b u6b w6b,.slice U6c u6c w6c,.slice U6d u6d w6d,.slice U7 u7 w7,.slice U8 u8 w8],.iface 65 (Zk c)]) Zz ⟨⟨_,_,1,_,_,_,rfl,rfl,rfl,rfl,rfl,rfl⟩,rfl,trivial⟩ (fun fz3 hle3 hf3=>⟨rfl,ResL.err hM hc (durativeL.mono hle3 hA5)⟩)
   | ok b=>
    rw [hx] at hS hF;obtain ⟨rfl,rfl⟩:=hS;exact wP (h:=by exact ⟨k+1,a2,_,by omega,rfl,rfl,hle5,rfl,hA5,hF⟩)
  rw [List.drop_eq_nil_of_le Zi,Yda] at hF;rw [hF] at hM;refine zW ?_;cases hb:(prtM kwD (x.kids.drop 2)).2 with
  | true=>
   rw [hb] at hM hlv;subst hlv;exact YN T (vs:=[.agg #[.string a.name,.slice U2 u2 w2,Zk a.duration,.string a.start.op,.string a.start.name,.slice U4a u4a w4a,.slice U4b u4b w4b,.slice U4c u4c w4c,.slice U4d u4d w4d,.string a.over.op,.string a.over.name,.slice U5a u5a w5a,.slice U5b u5b w5b,.slice U5c u5c w5c,.slice U5d u5d w5d,.string a.fin.op,.string a.fin.name,.slice U6a u6a w6a,.slice U6b u6b w6b,.slice U6c u6c w6c,.slice U6d u6d w6d,.slice U7 u7 w7,.slice U8 u8 w8],.nilIface]) Zz ⟨⟨_,_,1,_,_,_,rfl,rfl,rfl,rfl,rfl,rfl⟩,rfl,trivial⟩ (fun fz3 hle3 hf3=>⟨rfl,ResL.fine hM (durativeL.mono hle3 hA)⟩)
  | false=>
   rw [hb] at hM hlv;subst hlv;exact YN T (vs:=[.agg #[.string a.name,.slice U2 u2 w2,Zk a.duration,.string a.start.op,.string a.start.name,.slice U4a u4a w4a,.slice U4b u4b w4b,.slice U4c u4c w4c,.slice U4d u4d w4d,.string a.over.op,.string a.over.name,.slice U5a u5a w5a,.slice U5b u5b w5b,.slice U5c u5c w5c,.slice U5d u5d w5d,.string a.fin.op,.string a.fin.name,.slice U6a u6a w6a,.slice U6b u6b w6b,.slice U6c u6c w6c,.slice U6d u6d w6d,.slice U7 u7 w7,.slice U8 u8 w8],.iface 65 (Zk 2)]) Zz ⟨⟨_,_,1,_,_,_,rfl,rfl,rfl,rfl,rfl,rfl⟩,rfl,trivial⟩ (fun fz3 hle3 hf3=>⟨rfl,ResL.err hM Zh (durativeL.mono hle3 hA)⟩)
def Ycj:Bs:=⟨#[58,114,101,113,117,105,114,101,109,101,110,116,115]⟩
theorem pred_one:OneC predicateL:=by
 intro fz d cs h u hu;obtain ⟨v1,rfl,hR⟩:=XK h;obtain ⟨A1,n1,c1,rfl,_⟩:=hR.params;simp at hu;rcases hu with rfl | rfl<;>rfl
theorem func_one:OneC functionL:=by
 intro fz d cs h u hu;obtain ⟨v1,rfl,hR⟩:=Y9 h;obtain ⟨A1,n1,c1,rfl,_⟩:=hR.params;simp at hu;rcases hu with rfl | rfl | rfl | rfl<;>rfl
theorem act_one:OneC actionL:=by
 intro fz d cs h u hu;obtain ⟨v1,v2,v3,v4,v5,v6,rfl,hR⟩:=Xq h;obtain ⟨A1,n1,c1,rfl,_⟩:=hR.params;obtain ⟨A2,n2,c2,rfl,_⟩:=hR.pre.args;obtain ⟨A3,n3,c3,rfl,_⟩:=hR.pre.params;obtain ⟨A4,n4,c4,rfl,_⟩:=hR.pre.exprs;obtain ⟨A5,n5,c5,rfl,_⟩:=hR.pre.kids;obtain ⟨A6,n6,c6,rfl,_⟩:=hR.changes;simp at hu;rcases hu with rfl | rfl | rfl | rfl | rfl | rfl | rfl | rfl | rfl | rfl<;>rfl
theorem dur_one:OneC durativeL:=by
 intro fz d cs h u hu;obtain ⟨v1,v2,v3,v4,v5,v6,v7,v8,v9,v10,v11,v12,v13,v14,v15,rfl,hR⟩:=Xg h;obtain ⟨A1,n1,c1,rfl,_⟩:=hR.params;obtain ⟨A2,n2,c2,rfl,_⟩:=hR.start.args;obtain ⟨A3,n3,c3,rfl,_⟩:=hR.start.params;obtain ⟨A4,n4,c4,rfl,_⟩:=hR.start.exprs;obtain ⟨A5,n5,c5,rfl,_⟩:=hR.start.kids;obtain ⟨A6,n6,c6,rfl,_⟩:=hR.over.args;obtain ⟨A7,n7,c7,rfl,_⟩:=hR.over.params;obtain ⟨A8,n8,c8,rfl,_⟩:=hR.over.exprs;obtain ⟨A9,n9,c9,rfl,_⟩:=hR.over.kids;obtain ⟨B1,m1,d1,rfl,_⟩:=hR.fin.args;obtain ⟨B2,m2,d2,rfl,_⟩:=hR.fin.params;obtain ⟨B3,m3,d3,rfl,_⟩:=hR.fin.exprs;obtain ⟨B4,m4,d4,rfl,_⟩:=hR.fin.kids;obtain ⟨B5,m5,d5,rfl,_⟩:=hR.atStart;obtain ⟨B6,m6,d6,rfl,_⟩:=hR.atEnd;simp at hu;rcases hu with rfl | rfl | rfl | rfl | rfl | rfl | rfl | rfl | rfl | rfl | rfl | rfl | rfl | rfl | rfl | rfl | rfl | rfl | rfl | rfl | rfl | rfl | rfl<;>rfl
def DomS (fz:FZ) (g:Nat) (d:Domain) (H:HP):Prop:=
 ∃ v1 v2 vp vf va vd Hp Hf Ha Hd,H.Perm ((g,.cells #[.string d.name,v1,v2,vp,vf,va,vd] 31 (0,0))::(Hp++(Hf++(Ha++Hd))))/\Short d.name/\IsSl paramL fz v1 d.types/\IsSl paramL fz v2 d.constants/\
  Grow predicateL 69 fz vp d.predicates.length Hp d.predicates/\Grow functionL 71 fz vf d.functions.length Hf d.functions/\Grow actionL 75 fz va d.actions.length Ha d.actions/\Grow durativeL 78 fz vd d.duratives.length Hd d.duratives
def secB (d:Domain) (w:Bs) (r:List Sexpr) (x:Sexpr):Except Int Domain:=
 if w=Ycj then .ok d
 else if w=W7 then (match parM false r [] [] with | .error c=>.error c | .ok l=>.ok {d with types:=l})
 else if w=Xn then (match parM false r [] [] with | .error c=>.error c | .ok l=>.ok {d with constants:=l})
 else if w=Xe then (match mapE Yhk r with | .error c=>.error c | .ok l=>.ok {d with predicates:=d.predicates++l})
 else if w=Xm then (match mapE funM r with | .error c=>.error c | .ok l=>.ok {d with functions:=d.functions++l})
 else if w=XO then (match actM x with | .error c=>.error c | .ok a=>.ok {d with actions:=d.actions++ [a]})
 else if w=Y1 then (match durM x with | .error c=>.error c | .ok a=>.ok {d with duratives:=d.duratives++ [a]})
 else .error 2
def SecR (g:Nat) (m:Except Int Domain) (v:Value) (fz:FZ) (H:HP):Prop:=match m with
 | .error c=>v=errV c/\c≠0/\H=[]
 | .ok d=>v=.nilIface/\DomS fz g d H
variable {g:Nat}
theorem Yb6 {m:Except Int Domain} {c:Int} (h:m=.error c) (hc:c≠0):SecR g m (.iface 65 (Zk c)) fz []:=by rw [h];exact ⟨(Yk hc).symm,hc,rfl⟩
section
variable {α:Type} {a b c d:List α}
theorem pm_f:(a++(b++(c++d))).Perm ((a++(c++d))++b):=by
 rw [List.append_assoc];exact List.Perm.append_left a Zq
theorem pm_a:(a++(b++(c++d))).Perm ((a++(b++d))++c):=by
 rw [List.append_assoc,List.append_assoc];exact List.Perm.append_left a (List.Perm.append_left b Zq)
theorem pm_d:(a++(b++(c++d))).Perm ((a++(b++c))++d):=by
 rw [List.append_assoc,List.append_assoc]
end
variable {H:HP} {d:Domain}
set_option maxHeartbeats 16000000 in
theorem Ymt {x:Sexpr} {w:Bs} {r:List Sexpr} (hh:Xw x=some (w,r)) (hs:XSm x) (hD:DomS fz g d H) (hR:YS fz x vk)
 (b1:d.predicates.length+r.length<=100000000) (b2:d.functions.length+r.length<=100000000) (b3:d.actions.length<=100000000) (b4:d.duratives.length<=100000000):
 GFn prog 39 [Zp g,.agg #[Zk x.kind,Zk x.value,Zk x.line,Zk x.column,.string x.text,vk]] fz H (fun v fz' H'=>Le fz fz'/\SecR g (secB d w r x) v fz' H'):=by
 obtain ⟨v1,v2,vp,vf,va,vd,Hp,Hf,Ha,Hd,hperm,hnm,ht,hcn,hgp,hgf,hga,hgd⟩:=hD;obtain ⟨y0,hk,rfl,hk3,hk1⟩:=XR hh;have hrs:=WA hs hh;have hRx:=hR;obtain ⟨A,n,c,rfl,ik⟩:=hR.kids;have hl:=ik.len;rw [hk,List.length_cons] at hl;have hk0:x.kids[0]?=some y0:=by rw [hk];rfl
 obtain ⟨Xp,xp,rfl,_,_⟩:=hgp.form;obtain ⟨Xf,xf,rfl,_,_⟩:=hgf.form;obtain ⟨Xa,xa,rfl,_,_⟩:=hga.form;obtain ⟨Xd,xd,rfl,_,_⟩:=hgd.form;obtain ⟨T1,t1,z1,rfl,it1⟩:=ht;obtain ⟨T2,t2,z2,rfl,it2⟩:=hcn;generalize hM:secB d y0.text r x=M;unfold secB at hM;refine zF Tryz.func39 Tryz.ntmps39 (fun w0=>?_);refine Wp.perm hperm.symm ?_;refine zW ?_;intros;rename_i g3;refine zG ?_;refine XC (j:=1) T Zz Zz Zz Zz Zz Zz ik Zi (fun A' hA'=>?_);rw [hk,List.drop_one,List.tail_cons] at hA';have hrl:=hA'.len;refine wI ik hk0 (fun p hp=>?_);refine wH hp.Sexpr_text (fun hst=>?_);refine wC (fun c0=>?_) (fun c0=>?_)
 ·rw [if_pos (show y0.text=Ycj from c0)] at hM;subst hM;refine zW ?_;exact ret1 (H':=(g,_)::(Hp++(Hf++(Ha++Hd)))) rfl rfl Zb ⟨Le.refl _,rfl,_,_,_,_,_,_,Hp,Hf,Ha,Hd,Zr _,hnm,⟨_,_,_,rfl,it1⟩,⟨_,_,_,rfl,it2⟩,hgp,hgf,hga,hgd⟩
 rw [if_neg (show ¬y0.text=Ycj from c0)] at hM;refine wC (fun c1=>?_) (fun c1=>?_)
 ·rw [if_pos (show y0.text=W7 from c1)] at hM;refine wK (q:=YaN (b:=false) hA' Zi) (h:=fun r5 fz5 H5 hle5 hR5=>?_);obtain ⟨rfl,hR5⟩:=hR5;rw [List.nil_append];cases hps:parM false r [] [] with
  | error c=>
   rw [hps] at hM hR5;obtain ⟨rfl,hc⟩:=hR5;subst hM;rw [Yk hc];refine wI (ik.mono hle5) hk0 (fun p2 hp2=>?_);refine wH hp2.Sexpr_text (fun hst2=>?_);exact wR (h:=by exact ⟨hle5,Yb6 rfl hc⟩)
  | ok l=>
   rw [hps] at hM hR5;obtain ⟨A5,n5,c5,rfl,il⟩:=hR5;subst hM;refine wI (ik.mono hle5) hk0 (fun p2 hp2=>?_);refine wH hp2.Sexpr_text (fun hst2=>?_);refine zW ?_;exact ret1 (H':=(g,_)::(Hp++(Hf++(Ha++Hd)))) rfl rfl Zb ⟨hle5,rfl,_,_,_,_,_,_,Hp,Hf,Ha,Hd,Zr _,hnm,⟨_,_,_,rfl,il⟩,⟨_,_,_,rfl,it2.mono hle5⟩,hgp.mono hle5,hgf.mono hle5,hga.mono hle5,hgd.mono hle5⟩
 rw [if_neg (show ¬y0.text=W7 from c1)] at hM;refine wC (fun c2=>?_) (fun c2=>?_)
 ·rw [if_pos (show y0.text=Xn from c2)] at hM;refine wK (q:=YaN (b:=false) hA' Zi) (h:=fun r5 fz5 H5 hle5 hR5=>?_);obtain ⟨rfl,hR5⟩:=hR5;rw [List.nil_append];cases hps:parM false r [] [] with
  | error c=>
   rw [hps] at hM hR5;obtain ⟨rfl,hc⟩:=hR5;subst hM;rw [Yk hc];refine wI (ik.mono hle5) hk0 (fun p2 hp2=>?_);refine wH hp2.Sexpr_text (fun hst2=>?_);exact wR (h:=by exact ⟨hle5,Yb6 rfl hc⟩)
  | ok l=>
   rw [hps] at hM hR5;obtain ⟨A5,n5,c5,rfl,il⟩:=hR5;subst hM;refine wI (ik.mono hle5) hk0 (fun p2 hp2=>?_);refine wH hp2.Sexpr_text (fun hst2=>?_);refine zW ?_;exact ret1 (H':=(g,_)::(Hp++(Hf++(Ha++Hd)))) rfl rfl Zb ⟨hle5,rfl,_,_,_,_,_,_,Hp,Hf,Ha,Hd,Zr _,hnm,⟨_,_,_,rfl,it1.mono hle5⟩,⟨_,_,_,rfl,il⟩,hgp.mono hle5,hgf.mono hle5,hga.mono hle5,hgd.mono hle5⟩
 rw [if_neg (show ¬y0.text=Xn from c2)] at hM;refine wC (fun c3=>?_) (fun c3=>?_)
 ·rw [if_pos (show y0.text=Xe from c3)] at hM;refine Seq.perm (List.Perm.cons _ (List.Perm.cons _ Zq.symm)) ?_;generalize hReq:Hf++(Ha++Hd)=R;have hRR:∀ Hs:HP,(R++Hs).Perm (Hs++(Hf++(Ha++Hd))):=fun Hs=>by rw [<- hReq];exact Zq.symm
  refine zW ?_;refine Ym (fun q σ fz' H'=>∃ (k:Nat) (v:Value) (Hs:HP) (out:List Predicate),k<=n - 1/\q=n - 1 - k/\σ=[(57,Zk k),(56,Zk (n - 1:Nat)),(55,.slice A' (n - 1) (c - 1)),(0,Zp g)]/\Le fz fz'/\H'=(g,.cells #[.string d.name,.slice T1 t1 z1,.slice T2 t2 z2,v,.slice Xf d.functions.length xf,.slice Xa d.actions.length xa,.slice Xd d.duratives.length xd] 31 (0,0))::(R++Hs)/\Grow predicateL 69 fz' v (d.predicates.length+k) Hs (d.predicates++out)/\mapE Yhk r=exA out (mapE Yhk (r.drop k))) ⟨0,_,_,[],Z0 _,rfl,rfl,Le.refl _,rfl,by rw [List.append_nil];exact hgp,by rw [YcL];rfl⟩ Zw Zb ?_;rintro q σ fz' H' ⟨k,v,Hs,out,hkn,rfl,rfl,hle,rfl,hG,hT⟩;obtain ⟨Av,cv,rfl,_,_⟩:=hG.form;refine wC (fun e1=>?_) (fun e1=>?_)
  ·obtain ⟨z,hz⟩:=Yl (l:=r) (k:=k) Zi;refine wI (hA'.mono hle) hz (fun p2 hp2=>?_);refine zL hp2 ?_;intro cs hcs;obtain ⟨vz,rfl,hRz⟩:=Yi hcs;have hRz':=hRz;obtain ⟨Az,nz,cz,rfl,iz⟩:=hRz.kids;refine zW ?_;intros;rename_i g9;refine wK (q:=YjJ (Wf hs hh (Zm hz)) hRz') (h:=fun r5 fz5 H5 hle5 hR5=>?_);obtain ⟨rfl,y,cs5,hy5,hR5⟩:=hR5;rw [List.nil_append];have hy5':=hy5;obtain ⟨x1,rfl,hY⟩:=XK hy5';obtain ⟨E1,e1,q1,rfl,_⟩:=hY.params;cases hx:Yhk z with
   | error c=>
    rw [hx] at hR5;obtain ⟨rfl,hc⟩:=hR5;have hm:=Ye0 hz hT hx;rw [hm] at hM;subst hM;rw [Yk hc];refine zW ?_;intros;exact wR (h:=by exact ⟨hle.trans hle5,Yb6 rfl hc⟩)
   | ok y2=>
    rw [hx] at hR5;obtain ⟨rfl,rfl⟩:=hR5;have hm:=Yhv hz hT hx;have hG:=hG.mono hle5;refine zWN ?_;intros;rename_i g10;refine Wp.drawP [8,9] (Hq:=[_,_,_]) T.mixed Zj Zj Zb ?_;refine zW ?_;refine Ye ?_;refine Ye ?_;refine PK.p Zz (fun fz'=>by first | exact WH Zz rfl | exact XE Zz rfl | exact YT T Zz Zz Zz Zz Zz Zz rfl | exact Yaz Zz Zz (XD Zi) rfl | exact YQ T Zz Zz Zz rfl) ?_;refine PK.p Zz (fun fz'=>by first | exact WH Zz rfl | exact XE Zz rfl | exact YT T Zz Zz Zz Zz Zz Zz rfl | exact Yaz Zz Zz (XD Zi) rfl | exact YQ T Zz Zz Zz rfl) ?_;refine Ye ?_;refine PK.done ⟨by kernel_rfl,?_⟩;refine Yc Zz Zz ?_;refine Yd (Yb T (cs:=[.string y2.name,.slice E1 e1 q1]) Zz Zz Zz Zz Zz Zz Zz Zz (fun gb=>⟨(⟨(Le.refl _),Zx⟩),?_⟩));refine Yc Zz Zz ?_;refine Yd (YP T (d:=y2) (cs:=[.string y2.name,.slice E1 e1 q1]) (Hr:=(gb,_)::(g10,_)::(g9,_)::(g,_)::R) Zz Zz Zz Zz Zz Zz Zz Zz (Zr _) hG pred_one (.head _) hy5 (by show _*40<=_;omega) Zi (fun v' Hs' hG'=>⟨(⟨(Le.refl _),Zx⟩),?_⟩));obtain ⟨Av',cv',rfl,_,_⟩:=hG'.form;refine Yc Zz Zz ?_;refine PoS.hard0 Zj (Wz T Zz Zz Zz Zz Zz Zz ?_);refine Po.done ?_;refine zW ?_;exact WO (H':=(g,_)::(R++Hs')) ⟨k+1,_,Hs',out++ [y2],by omega,rfl,rfl,hle.trans hle5,rfl,hG'.of (by rw [List.append_assoc]) Zi,hm⟩ Zi Zw Zb
  have hm:=Ye1 Zi hT;rw [hm] at hM;subst hM;refine zW ?_;have hlen:=hG.len;rw [<- hlen] at hG ⊢;exact ret1 (H':=(g,_)::(R++Hs)) rfl rfl Zb ⟨hle,rfl,_,_,_,_,_,_,Hs,Hf,Ha,Hd,List.Perm.cons _ (hRR Hs),hnm,⟨_,_,_,rfl,it1.mono hle⟩,⟨_,_,_,rfl,it2.mono hle⟩,hG,hgf.mono hle,hga.mono hle,hgd.mono hle⟩
 rw [if_neg (show ¬y0.text=Xe from c3)] at hM;refine wC (fun c4=>?_) (fun c4=>?_)
 ·rw [if_pos (show y0.text=Xm from c4)] at hM;refine Seq.perm (List.Perm.cons _ (List.Perm.cons _ (pm_f).symm)) ?_;generalize hReq:Hp++(Ha++Hd)=R;have hRR:∀ Hs:HP,(R++Hs).Perm (Hp++(Hs++(Ha++Hd))):=fun Hs=>by rw [<- hReq];exact (pm_f).symm
  refine zW ?_;refine Ym (fun q σ fz' H'=>∃ (k:Nat) (v:Value) (Hs:HP) (out:List Function),k<=n - 1/\q=n - 1 - k/\σ=[(84,Zk k),(83,Zk (n - 1:Nat)),(82,.slice A' (n - 1) (c - 1)),(0,Zp g)]/\Le fz fz'/\H'=(g,.cells #[.string d.name,.slice T1 t1 z1,.slice T2 t2 z2,.slice Xp d.predicates.length xp,v,.slice Xa d.actions.length xa,.slice Xd d.duratives.length xd] 31 (0,0))::(R++Hs)/\Grow functionL 71 fz' v (d.functions.length+k) Hs (d.functions++out)/\mapE funM r=exA out (mapE funM (r.drop k))) ⟨0,_,_,[],Z0 _,rfl,rfl,Le.refl _,rfl,by rw [List.append_nil];exact hgf,by rw [YcL];rfl⟩ Zw Zb ?_;rintro q σ fz' H' ⟨k,v,Hs,out,hkn,rfl,rfl,hle,rfl,hG,hT⟩;obtain ⟨Av,cv,rfl,_,_⟩:=hG.form;refine wC (fun e1=>?_) (fun e1=>?_)
  ·obtain ⟨z,hz⟩:=Yl (l:=r) (k:=k) Zi;refine wI (hA'.mono hle) hz (fun p2 hp2=>?_);refine zL hp2 ?_;intro cs hcs;obtain ⟨vz,rfl,hRz⟩:=Yi hcs;have hRz':=hRz;obtain ⟨Az,nz,cz,rfl,iz⟩:=hRz.kids;refine zW ?_;intros;rename_i g9;refine wK (q:=YlC (Wf hs hh (Zm hz)) hRz') (h:=fun r5 fz5 H5 hle5 hR5=>?_);obtain ⟨rfl,y,cs5,hy5,hR5⟩:=hR5;rw [List.nil_append];have hy5':=hy5;obtain ⟨x1,rfl,hY⟩:=Y9 hy5';obtain ⟨E1,e1,q1,rfl,_⟩:=hY.params;cases hx:funM z with
   | error c=>
    rw [hx] at hR5;obtain ⟨rfl,hc⟩:=hR5;have hm:=Ye0 hz hT hx;rw [hm] at hM;subst hM;rw [Yk hc];refine zW ?_;intros;exact wR (h:=by exact ⟨hle.trans hle5,Yb6 rfl hc⟩)
   | ok y2=>
    rw [hx] at hR5;obtain ⟨rfl,rfl⟩:=hR5;have hm:=Yhv hz hT hx;have hG:=hG.mono hle5;refine zWN ?_;intros;rename_i g10;refine Wp.drawP [8,9] (Hq:=[_,_,_]) T.mixed Zj Zj Zb ?_;refine zW ?_;refine Ye ?_;refine Ye ?_;refine PK.p Zz (fun fz'=>by first | exact WH Zz rfl | exact XE Zz rfl | exact YT T Zz Zz Zz Zz Zz Zz rfl | exact Yaz Zz Zz (XD Zi) rfl | exact YQ T Zz Zz Zz rfl) ?_;refine PK.p Zz (fun fz'=>by first | exact WH Zz rfl | exact XE Zz rfl | exact YT T Zz Zz Zz Zz Zz Zz rfl | exact Yaz Zz Zz (XD Zi) rfl | exact YQ T Zz Zz Zz rfl) ?_;refine Ye ?_;refine PK.done ⟨by kernel_rfl,?_⟩;refine Yc Zz Zz ?_;refine Yd (Yb T (cs:=[.string y2.name,.slice E1 e1 q1,Zk y2.lo,Zk y2.hi]) Zz Zz Zz Zz Zz Zz Zz Zz (fun gb=>⟨(⟨(Le.refl _),Zx⟩),?_⟩));refine Yc Zz Zz ?_;refine Yd (YP T (d:=y2) (cs:=[.string y2.name,.slice E1 e1 q1,Zk y2.lo,Zk y2.hi]) (Hr:=(gb,_)::(g10,_)::(g9,_)::(g,_)::R) Zz Zz Zz Zz Zz Zz Zz Zz (Zr _) hG func_one (.head _) hy5 (by show _*56<=_;omega) Zi (fun v' Hs' hG'=>⟨(⟨(Le.refl _),Zx⟩),?_⟩));obtain ⟨Av',cv',rfl,_,_⟩:=hG'.form;refine Yc Zz Zz ?_;refine PoS.hard0 Zj (Wz T Zz Zz Zz Zz Zz Zz ?_);refine Po.done ?_;refine zW ?_;exact WO (H':=(g,_)::(R++Hs')) ⟨k+1,_,Hs',out++ [y2],by omega,rfl,rfl,hle.trans hle5,rfl,hG'.of (by rw [List.append_assoc]) Zi,hm⟩ Zi Zw Zb
  have hm:=Ye1 Zi hT;rw [hm] at hM;subst hM;refine zW ?_;have hlen:=hG.len;rw [<- hlen] at hG ⊢;exact ret1 (H':=(g,_)::(R++Hs)) rfl rfl Zb ⟨hle,rfl,_,_,_,_,_,_,Hp,Hs,Ha,Hd,List.Perm.cons _ (hRR Hs),hnm,⟨_,_,_,rfl,it1.mono hle⟩,⟨_,_,_,rfl,it2.mono hle⟩,hgp.mono hle,hG,hga.mono hle,hgd.mono hle⟩
 rw [if_neg (show ¬y0.text=Xm from c4)] at hM;refine wC (fun c5=>?_) (fun c5=>?_)
 ·rw [if_pos (show y0.text=XO from c5)] at hM;refine Seq.perm (List.Perm.cons _ (List.Perm.cons _ (pm_a).symm)) ?_;generalize hReq:Hp++(Hf++Hd)=R;have hRR:∀ Hs:HP,(R++Hs).Perm (Hp++(Hf++(Hs++Hd))):=fun Hs=>by rw [<- hReq];exact (pm_a).symm
  refine wK (q:=action_f hs hRx) (h:=fun r5 fz5 H5 hle5 hR5=>?_);obtain ⟨rfl,y,cs5,hy5,hR5⟩:=hR5;rw [List.nil_append];have hy5':=hy5;obtain ⟨x1,x2,x3,x4,x5,x6,rfl,hY⟩:=Xq hy5';obtain ⟨E1,e1,q1,rfl,_⟩:=hY.params;obtain ⟨E2,e2,q2,rfl,_⟩:=hY.pre.args;obtain ⟨E3,e3,q3,rfl,_⟩:=hY.pre.params;obtain ⟨E4,e4,q4,rfl,_⟩:=hY.pre.exprs;obtain ⟨E5,e5,q5,rfl,_⟩:=hY.pre.kids;obtain ⟨E6,e6,q6,rfl,_⟩:=hY.changes;have hG:=hga.mono hle5;obtain ⟨ev,rfl,hev⟩:∃ ev,r5=.tuple #[.agg (List.toArray [.string y.name,.slice E1 e1 q1,Zk y.cost,.string y.pre.op,.string y.pre.name,.slice E2 e2 q2,.slice E3 e3 q3,.slice E4 e4 q4,.slice E5 e5 q5,.slice E6 e6 q6]),ev]/\(match actM x with | .error c=>ev=errV c/\c≠0 | .ok b=>b=y/\ev=.nilIface):=by
   cases hx:actM x with
   | error c=>rw [hx] at hR5;exact ⟨_,hR5.1,rfl,hR5.2⟩
   | ok b=>rw [hx] at hR5;exact ⟨_,hR5.2,hR5.1,rfl⟩
  refine zWN ?_;intros;rename_i g16;refine Wp.drawP [8,9] (Hq:=[_,_,_]) T.mixed Zj Zj Zb ?_;refine zW ?_;refine Ye ?_;refine Ye ?_;refine PK.p Zz (fun fz'=>by first | exact WH Zz rfl | exact XE Zz rfl | exact YT T Zz Zz Zz Zz Zz Zz rfl | exact Yaz Zz Zz (XD Zi) rfl | exact YQ T Zz Zz Zz rfl) ?_;refine PK.p Zz (fun fz'=>by first | exact WH Zz rfl | exact XE Zz rfl | exact YT T Zz Zz Zz Zz Zz Zz rfl | exact Yaz Zz Zz (XD Zi) rfl | exact YQ T Zz Zz Zz rfl) ?_;refine Ye ?_;refine PK.done ⟨by kernel_rfl,?_⟩;refine Yc Zz Zz ?_;refine Yd (Yb T (cs:=[.string y.name,.slice E1 e1 q1,Zk y.cost,.string y.pre.op,.string y.pre.name,.slice E2 e2 q2,.slice E3 e3 q3,.slice E4 e4 q4,.slice E5 e5 q5,.slice E6 e6 q6]) Zz Zz Zz Zz Zz Zz Zz Zz (fun gb=>⟨(⟨(Le.refl _),Zx⟩),?_⟩));refine Yc Zz Zz ?_;refine Yd (YP T (d:=y) (cs:=[.string y.name,.slice E1 e1 q1,Zk y.cost,.string y.pre.op,.string y.pre.name,.slice E2 e2 q2,.slice E3 e3 q3,.slice E4 e4 q4,.slice E5 e5 q5,.slice E6 e6 q6]) (Hr:=(gb,_)::(g16,_)::(g3,_)::(g,_)::R) Zz Zz Zz Zz Zz Zz Zz Zz (Zr _) hG act_one (.head _) hy5 (by show _*200<=_;omega) Zi (fun v' Hs' hG'=>⟨(⟨(Le.refl _),Zx⟩),?_⟩));obtain ⟨Av',cv',rfl,_,_⟩:=hG'.form;refine Yc Zz Zz ?_;refine PoS.hard0 Zj (Wz T Zz Zz Zz Zz Zz Zz ?_);refine Po.done ?_;refine zW ?_;cases hx:actM x with
  | error c=>
   rw [hx] at hev hM;obtain ⟨rfl,hc⟩:=hev;subst hM;exact wR (h:=by exact ⟨hle5,by rw [Yk hc];exact Yb6 rfl hc⟩)
  | ok b=>
   rw [hx] at hev hM;obtain ⟨rfl,rfl⟩:=hev;subst hM;have hlen:=hG'.len;rw [<- hlen] at hG' ⊢;exact ret1 (H':=(g,_)::(R++Hs')) rfl rfl Zb ⟨hle5,rfl,_,_,_,_,_,_,Hp,Hf,Hs',Hd,List.Perm.cons _ (hRR Hs'),hnm,⟨_,_,_,rfl,it1.mono hle5⟩,⟨_,_,_,rfl,it2.mono hle5⟩,hgp.mono hle5,hgf.mono hle5,hG',hgd.mono hle5⟩
 rw [if_neg (show ¬y0.text=XO from c5)] at hM;refine wC (fun c6=>?_) (fun c6=>?_)
 ·rw [if_pos (show y0.text=Y1 from c6)] at hM;refine Seq.perm (List.Perm.cons _ (List.Perm.cons _ (pm_d).symm)) ?_;generalize hReq:Hp++(Hf++Ha)=R;have hRR:∀ Hs:HP,(R++Hs).Perm (Hp++(Hf++(Ha++Hs))):=fun Hs=>by rw [<- hReq];exact (pm_d).symm
  refine wK (q:=YlI hs hRx) (h:=fun r5 fz5 H5 hle5 hR5=>?_);obtain ⟨rfl,y,cs5,hy5,hR5⟩:=hR5;rw [List.nil_append];have hy5':=hy5;obtain ⟨x1,x2,x3,x4,x5,x6,x7,x8,x9,x10,x11,x12,x13,x14,x15,rfl,hY⟩:=Xg hy5';obtain ⟨E1,e1,q1,rfl,_⟩:=hY.params;obtain ⟨E2,e2,q2,rfl,_⟩:=hY.start.args;obtain ⟨E3,e3,q3,rfl,_⟩:=hY.start.params;obtain ⟨E4,e4,q4,rfl,_⟩:=hY.start.exprs;obtain ⟨E5,e5,q5,rfl,_⟩:=hY.start.kids;obtain ⟨E6,e6,q6,rfl,_⟩:=hY.over.args;obtain ⟨E7,e7,q7,rfl,_⟩:=hY.over.params;obtain ⟨E8,e8,q8,rfl,_⟩:=hY.over.exprs;obtain ⟨E9,e9,q9,rfl,_⟩:=hY.over.kids;obtain ⟨E10,e10,q10,rfl,_⟩:=hY.fin.args;obtain ⟨E11,e11,q11,rfl,_⟩:=hY.fin.params;obtain ⟨E12,e12,q12,rfl,_⟩:=hY.fin.exprs;obtain ⟨E13,e13,q13,rfl,_⟩:=hY.fin.kids;obtain ⟨E14,e14,q14,rfl,_⟩:=hY.atStart;obtain ⟨E15,e15,q15,rfl,_⟩:=hY.atEnd;have hG:=hgd.mono hle5;obtain ⟨ev,rfl,hev⟩:∃ ev,r5=.tuple #[.agg (List.toArray [.string y.name,.slice E1 e1 q1,Zk y.duration,.string y.start.op,.string y.start.name,.slice E2 e2 q2,.slice E3 e3 q3,.slice E4 e4 q4,.slice E5 e5 q5,.string y.over.op,.string y.over.name,.slice E6 e6 q6,.slice E7 e7 q7,.slice E8 e8 q8,.slice E9 e9 q9,.string y.fin.op,.string y.fin.name,.slice E10 e10 q10,.slice E11 e11 q11,.slice E12 e12 q12,.slice E13 e13 q13,.slice E14 e14 q14,.slice E15 e15 q15]),ev]/\(match durM x with | .error c=>ev=errV c/\c≠0 | .ok b=>b=y/\ev=.nilIface):=by
   cases hx:durM x with
   | error c=>rw [hx] at hR5;exact ⟨_,hR5.1,rfl,hR5.2⟩
   | ok b=>rw [hx] at hR5;exact ⟨_,hR5.2,hR5.1,rfl⟩
  refine zWN ?_;intros;rename_i g16;refine Wp.drawP [8,9] (Hq:=[_,_,_]) T.mixed Zj Zj Zb ?_;refine zW ?_;refine Ye ?_;refine Ye ?_;refine PK.p Zz (fun fz'=>by first | exact WH Zz rfl | exact XE Zz rfl | exact YT T Zz Zz Zz Zz Zz Zz rfl | exact Yaz Zz Zz (XD Zi) rfl | exact YQ T Zz Zz Zz rfl) ?_;refine PK.p Zz (fun fz'=>by first | exact WH Zz rfl | exact XE Zz rfl | exact YT T Zz Zz Zz Zz Zz Zz rfl | exact Yaz Zz Zz (XD Zi) rfl | exact YQ T Zz Zz Zz rfl) ?_;refine Ye ?_;refine PK.done ⟨by kernel_rfl,?_⟩;refine Yc Zz Zz ?_;refine Yd (Yb T (cs:=[.string y.name,.slice E1 e1 q1,Zk y.duration,.string y.start.op,.string y.start.name,.slice E2 e2 q2,.slice E3 e3 q3,.slice E4 e4 q4,.slice E5 e5 q5,.string y.over.op,.string y.over.name,.slice E6 e6 q6,.slice E7 e7 q7,.slice E8 e8 q8,.slice E9 e9 q9,.string y.fin.op,.string y.fin.name,.slice E10 e10 q10,.slice E11 e11 q11,.slice E12 e12 q12,.slice E13 e13 q13,.slice E14 e14 q14,.slice E15 e15 q15]) Zz Zz Zz Zz Zz Zz Zz Zz (fun gb=>⟨(⟨(Le.refl _),Zx⟩),?_⟩));refine Yc Zz Zz ?_;refine Yd (YP T (d:=y) (cs:=[.string y.name,.slice E1 e1 q1,Zk y.duration,.string y.start.op,.string y.start.name,.slice E2 e2 q2,.slice E3 e3 q3,.slice E4 e4 q4,.slice E5 e5 q5,.string y.over.op,.string y.over.name,.slice E6 e6 q6,.slice E7 e7 q7,.slice E8 e8 q8,.slice E9 e9 q9,.string y.fin.op,.string y.fin.name,.slice E10 e10 q10,.slice E11 e11 q11,.slice E12 e12 q12,.slice E13 e13 q13,.slice E14 e14 q14,.slice E15 e15 q15]) (Hr:=(gb,_)::(g16,_)::(g3,_)::(g,_)::R) Zz Zz Zz Zz Zz Zz Zz Zz (Zr _) hG dur_one (.head _) hy5 (by show _*480<=_;omega) Zi (fun v' Hs' hG'=>⟨(⟨(Le.refl _),Zx⟩),?_⟩));obtain ⟨Av',cv',rfl,_,_⟩:=hG'.form;refine Yc Zz Zz ?_;refine PoS.hard0 Zj (Wz T Zz Zz Zz Zz Zz Zz ?_);refine Po.done ?_;refine zW ?_;cases hx:durM x with
  | error c=>
   rw [hx] at hev hM;obtain ⟨rfl,hc⟩:=hev;subst hM;exact wR (h:=by exact ⟨hle5,by rw [Yk hc];exact Yb6 rfl hc⟩)
  | ok b=>
   rw [hx] at hev hM;obtain ⟨rfl,rfl⟩:=hev;subst hM;have hlen:=hG'.len;rw [<- hlen] at hG' ⊢;exact ret1 (H':=(g,_)::(R++Hs')) rfl rfl Zb ⟨hle5,rfl,_,_,_,_,_,_,Hp,Hf,Ha,Hs',List.Perm.cons _ (hRR Hs'),hnm,⟨_,_,_,rfl,it1.mono hle5⟩,⟨_,_,_,rfl,it2.mono hle5⟩,hgp.mono hle5,hgf.mono hle5,hga.mono hle5,hG'⟩
 rw [if_neg (show ¬y0.text=Y1 from c6)] at hM;exact wR (h:=by exact ⟨Le.refl _,Yb6 hM.symm Zh⟩)
def titM (x:Sexpr):Except Int Bs:=match Xw x with
 | none=>.error 2
 | some (w,r)=>match r with
  | [y]=>if w=Y7/\y.kind=1 then (if YX y.text then .ok y.text else .error 8) else .error 2
  | _=>.error 2
theorem title_q {x:Sexpr} (h:YS fz x vk):QFn prog 37 [.agg #[Zk x.kind,Zk x.value,Zk x.line,Zk x.column,.string x.text,vk]] fz (strV (titM x)):=by
 have hbeg:=Ycp h;have hM:titM x=match Xw x with
 | none=>.error 2
 | some (w,r)=>match r with
  | [y]=>if w=Y7/\y.kind=1 then (if YX y.text then .ok y.text else .error 8) else .error 2
  | _=>.error 2:=rfl
 obtain ⟨A,n,c,rfl,ik⟩:=h.kids;have hl:=ik.len;refine GFn.quiet ?_;refine zF Tryz.func37 Tryz.ntmps37 (fun w0=>?_);refine zW ?_;intros;cases hh:Xw x with
 | none=>
  rw [hh] at hM hbeg;rw [hM];refine zc hbeg ?_;exact wS (h:=rfl)
 | some wr=>
  obtain ⟨w,r⟩:=wr;rw [hh] at hM hbeg;simp only at hM;obtain ⟨y,hk,rfl,hk3,hk1⟩:=XR hh;have hk0:x.kids[0]?=some y:=by rw [hk];rfl
  rw [hk,List.length_cons] at hl;refine zc hbeg ?_;refine wC (fun c1=>?_) (fun c1=>?_)
  ·have hM2:titM x=.error 2:=by
    rw [hM];split
    ·simp at hl;omega
    rfl
   rw [hM2];exact wS (h:=rfl)
  obtain ⟨u,rfl⟩:∃ u,r=[u]:=by
   have h3:r.length=1:=by omega
   match r,h3 with
   | [u],_=>exact ⟨u,rfl⟩
  simp only at hM;have hu:x.kids[1]?=some u:=by rw [hk];rfl
  refine wI ik hk0 (fun p hp=>?_);refine wH hp.Sexpr_text (fun hst=>?_);refine wC (fun c2=>?_) (fun c2=>?_)
  ·rw [if_neg (fun h=>c2 h.1)] at hM;rw [hM];exact wS (h:=rfl)
  refine wI ik hu (fun p2 hp2=>?_);refine zL hp2 ?_;intro cs hcs;obtain ⟨vu,rfl,hRu⟩:=Yi hcs;refine zb YdR (fun f1=>?_) (fun f1=>?_)
  ·rw [if_pos ⟨show y.text=Y7 from c2,Zt f1⟩] at hM;refine wI ik hu (fun p3 hp3=>?_);refine wH hp3.Sexpr_text (fun hst3=>?_);refine wb (Ww hst3) (fun f2=>?_) (fun f2=>?_)
   ·rw [if_pos (Zt f2)] at hM;rw [hM];refine wI ik hu (fun p4 hp4=>?_);refine wH hp4.Sexpr_text (fun hst4=>?_);exact wS (h:=rfl)
   rw [if_neg (Zf f2)] at hM;rw [hM];exact wS (h:=rfl)
  rw [if_neg (fun h=>Zf f1 h.2)] at hM;rw [hM];exact wS (h:=rfl)
theorem Yei {l:List Sexpr} {ps:List Param} {b:Bool} (h:parM b l [] []=.ok ps):ps.length<=l.length:=by
 have:=Yeh h;simpa using this
theorem YnT {v:Sexpr} {l:List Param} (hs:XSm v) (h:Yeu v=.ok l):l.length<=1000000:=by
 unfold Yeu at h;split at h
 ·have h1:v.kids.length<=1000000:=(Y2.1 hs).1;have:=Yei h;omega
 cases h
theorem YiX {α:Type} {S:α->Bs->Sexpr->Except Int α} {p:α->Prop}:∀ {l:List (Bs × Sexpr)} {a b:α},(∀ a w v b,(w,v)∈l->p a->S a w v=.ok b->p b)->p a->Yda S a l=.ok b->p b
 | [],a,b,_,ha,h=>by rw [Yda] at h;injection h with h;exact h ▸ ha
 | q::r,a,b,hS,ha,h=>by
  rw [Yda] at h;split at h
  ·cases h
  rename_i c hc;exact YiX (fun a w v b hm=>hS a w v b (List.mem_cons_of_mem _ hm)) (hS a q.1 q.2 c (by simp) ha hc) h
theorem Yk7 {α:Type} {S:α->Bs->Sexpr->Except Int α} {p:α->Prop} {kw:List Bs} {a b:α} {x:Sexpr} (hs:XSm x) (hS:∀ a w v b,XSm v->p a->S a w v=.ok b->p b) (ha:p a) (h:finS S kw a x=.ok b):p b:=by
 unfold finS at h;split at h
 ·cases h
 rename_i c hc;split at h
 ·injection h with h
  subst h;exact YiX (fun a w v b hm=>hS a w v b ((Y2.1 hs).2 _ (List.mem_of_mem_drop (Yhj hm)))) ha hc
 cases h
theorem YcV:FSm Y5:=Wc.2 ⟨⟨by show 0<=_;omega,by show 0<=_;omega,by show 0<=_;omega⟩,fun e he=>(by cases he),fun k hk=>by cases hk⟩
theorem setA_sm {a b:Action} {w:Bs} {v:Sexpr} (hs:XSm v) (ha:actSm a) (h:setA a w v=.ok b):actSm b:=by
 obtain ⟨h1,h2,h3⟩:=ha;rw [Yms] at h;split at h
 ·split at h
  ·cases h
  rename_i l hl;injection h with h;subst h
  exact ⟨Nat.le_trans (YnT hs hl) Zh,h2,h3⟩
 split at h
 ·split at h
  ·cases h
  split at h
  ·cases h
  injection h with h;subst h;exact ⟨h1,h2,h3⟩
 split at h
 ·split at h
  ·cases h
  rename_i f hf;injection h with h;subst h
  exact ⟨h1,YbP hf,h3⟩
 split at h
 ·cases h
 rename_i l hl;injection h with h;subst h
 exact ⟨h1,h2,Ydk hl⟩
theorem actM_sm {x:Sexpr} {a:Action} (hs:XSm x) (h:actM x=.ok a):actSm a:=by
 unfold actM at h;split at h
 ·cases h
 exact Yk7 hs (fun a w v b hv ha hb=>setA_sm hv ha hb) ⟨by show 0<=_;omega,YcV,by show 0<=_;omega,by intro c hc;cases hc⟩ h
theorem setD_sm {a b:Durative} {w:Bs} {v:Sexpr} (hs:XSm v) (ha:durSm a) (h:setD a w v=.ok b):durSm b:=by
 obtain ⟨h1,h2,h3,h4,h5,h6⟩:=ha;rw [Ymr] at h;split at h
 ·split at h
  ·cases h
  rename_i l hl;injection h with h;subst h
  exact ⟨Nat.le_trans (YnT hs hl) Zh,h2,h3,h4,h5,h6⟩
 split at h
 ·split at h
  ·cases h
  injection h with h;subst h;exact ⟨h1,h2,h3,h4,h5,h6⟩
 split at h
 ·split at h
  ·cases h
  rename_i f hf;injection h with h;subst h
  exact ⟨h1,YbP hf,h3,h4,h5,h6⟩
 split at h
 ·split at h
  ·cases h
  rename_i f hf;injection h with h;subst h
  exact ⟨h1,h2,YbP hf,h4,h5,h6⟩
 split at h
 ·split at h
  ·cases h
  rename_i f hf;injection h with h;subst h
  exact ⟨h1,h2,h3,YbP hf,h5,h6⟩
 split at h
 ·split at h
  ·cases h
  rename_i l hl;injection h with h;subst h
  exact ⟨h1,h2,h3,h4,Ydk hl,h6⟩
 split at h
 ·cases h
 rename_i l hl;injection h with h;subst h
 exact ⟨h1,h2,h3,h4,h5,Ydk hl⟩
theorem durM_sm {x:Sexpr} {a:Durative} (hs:XSm x) (h:durM x=.ok a):durSm a:=by
 unfold durM at h;split at h
 ·cases h
 exact Yk7 hs (fun a w v b hv ha hb=>setD_sm hv ha hb) ⟨by show 0<=_;omega,YcV,YcV,YcV,⟨by show 0<=_;omega,by intro c hc;cases hc⟩,by show 0<=_;omega,by intro c hc;cases hc⟩ h
structure DomT (k:Nat) (d:Domain):Prop where
 t:d.types.length<=1000000
 c:d.constants.length<=1000000
 p:d.predicates.length<=k*4096
 pp:∀ p∈d.predicates,p.params.length<=1000000
 f:d.functions.length<=k*4096
 fp:∀ p∈d.functions,p.params.length<=1000000
 a:d.actions.length<=k
 ac:∀ a∈d.actions,actSm a
 u:d.duratives.length<=k
 us:∀ a∈d.duratives,durSm a
variable {k:Nat}
theorem DomT.step {d':Domain} {w:Bs} {r:List Sexpr} {x:Sexpr} (h:DomT k d) (hs:XSm x) (hr:∀ y∈r,XSm y) (hl:r.length<=4096) (e:secB d w r x=.ok d'):DomT (k+1) d':=by
 have h1:k*4096+4096=(k+1)*4096:=(Nat.succ_mul _ _).symm;obtain ⟨t,c,p,pp,f,fp,a,ac,u,us⟩:=h;have cat:∀ {α:Type} {q:α->Prop} {l m:List α},(∀ x∈l,q x)->(∀ x∈m,q x)->∀ x∈l++m,q x:=fun h1 h2 x hx=>by
  rcases List.mem_append.1 hx with hx | hx
  ·exact h1 x hx
  exact h2 x hx
 unfold secB at e;split at e
 ·injection e with e;subst e;exact ⟨t,c,by omega,pp,by omega,fp,by omega,ac,by omega,us⟩
 split at e
 ·split at e
  ·cases e
  rename_i l hl2;have:=Yei hl2;injection e with e;subst e;exact ⟨by show l.length<=_;omega,c,by show d.predicates.length<=_;omega,pp,by show d.functions.length<=_;omega,fp,by show d.actions.length<=_;omega,ac,by show d.duratives.length<=_;omega,us⟩
 split at e
 ·split at e
  ·cases e
  rename_i l hl2;have:=Yei hl2;injection e with e;subst e;exact ⟨t,by show l.length<=_;omega,by show d.predicates.length<=_;omega,pp,by show d.functions.length<=_;omega,fp,by show d.actions.length<=_;omega,ac,by show d.duratives.length<=_;omega,us⟩
 split at e
 ·split at e
  ·cases e
  rename_i l hl2;obtain ⟨h2,h3⟩:=Yc2 hl2;injection e with e;subst e
  refine ⟨t,c,by show (d.predicates++l).length<=_;rw [List.length_append];omega,cat pp (fun y hy=>?_),by show d.functions.length<=_;omega,fp,by show d.actions.length<=_;omega,ac,by show d.duratives.length<=_;omega,us⟩;obtain ⟨z,h4,h5⟩:=h3 y hy;unfold Yhk at h5;split at h5
  ·cases h5
  rename_i w' r' hh;have:=WA (hr z h4) hh;split at h5
  ·split at h5
   ·cases h5
   rename_i l' hl';have:=Yei hl';injection h5 with h5;subst h5
   show l'.length<=_;omega
  cases h5
 split at e
 ·split at e
  ·cases e
  rename_i l hl2;obtain ⟨h2,h3⟩:=Yc2 hl2;injection e with e;subst e
  refine ⟨t,c,by show d.predicates.length<=_;omega,pp,by show (d.functions++l).length<=_;rw [List.length_append];omega,cat fp (fun y hy=>?_),by show d.actions.length<=_;omega,ac,by show d.duratives.length<=_;omega,us⟩;obtain ⟨z,h4,h5⟩:=h3 y hy;unfold funM at h5;split at h5
  ·cases h5
  rename_i w' r' hh;have:=WA (hr z h4) hh;split at h5
  ·unfold funB at h5;split at h5
   ·split at h5
    ·split at h5
     ·cases h5
     rename_i l' hl';have:=Yei hl';rw [List.length_take] at this;injection h5 with h5;subst h5
     show l'.length<=_;omega
    cases h5
   cases h5
  cases h5
 split at e
 ·split at e
  ·cases e
  rename_i y hy;injection e with e;subst e
  exact ⟨t,c,by show d.predicates.length<=_;omega,pp,by show d.functions.length<=_;omega,fp,by show (d.actions++ [y]).length<=_;rw [List.length_append];exact Nat.add_le_add_right a 1,cat ac (by intro z hz;simp at hz;subst hz;exact actM_sm hs hy),by show d.duratives.length<=_;omega,us⟩
 split at e
 ·split at e
  ·cases e
  rename_i y hy;injection e with e;subst e
  exact ⟨t,c,by show d.predicates.length<=_;omega,pp,by show d.functions.length<=_;omega,fp,by show d.actions.length<=_;omega,ac,by show (d.duratives++ [y]).length<=_;rw [List.length_append];exact Nat.add_le_add_right u 1,cat us (by intro z hz;simp at hz;subst hz;exact durM_sm hs hy)⟩
 cases e
theorem DomT.sm (h:DomT k d) (hk:k<=5000):DomSm d:=by
 obtain ⟨t,c,p,pp,f,fp,a,ac,u,us⟩:=h;have:k*4096<=5000*4096:=Nat.mul_le_mul_right _ hk;exact ⟨by omega,by omega,by omega,fun x hx=>Nat.le_trans (pp x hx) Zh,by omega,fun x hx=>Nat.le_trans (fp x hx) Zh,by omega,ac,by omega,us⟩
def Yde:List Bs:=[W7,Xn,Xe,Xm]
def secL:List Bs->Domain->List Sexpr->Except Int Domain
 | _,d,[]=>.ok d
 | s,d,x::r=>match Xw x with
  | none=>.error 2
  | some (w,t)=>if w∈Yde/\w∈s then .error 4 else match secB d w t x with
   | .error c=>.error c
   | .ok d'=>secL (if w∈Yde then s++ [w] else s) d' r
def dPar (x:Sexpr):Except Int Domain:=match Xw x with
 | none=>.error 2
 | some (w,r)=>if w=YB then (match r with
  | []=>.error 2
  | y::r'=>match titM y with
   | .error c=>.error c
   | .ok nm=>secL [] ⟨nm,[],[],[],[],[],[]⟩ r') else .error 2
def Yby (x:Sexpr):Except Int Domain:=if XVal x then (match dPar x with
 | .error c=>.error c
 | .ok d=>if Ybt d/\XVal (domX d) then .ok d else .error 5) else .error 2
def zeroD:Domain:=⟨⟨#[]⟩,[],[],[],[],[],[]⟩
theorem W4:Yev.rep fz zeroD [Ze,Zn,Zn,Zn,Zn,Zn,Zn]:=YcP (x:=zeroD) ⟨XV,IsSl.nil,IsSl.nil,IsSl.nil,IsSl.nil,IsSl.nil,IsSl.nil⟩
theorem DomS.new {nm:Bs} (h:Short nm):DomS fz g ⟨nm,[],[],[],[],[],[]⟩ [(g,.cells #[.string nm,Zn,Zn,Zn,Zn,Zn,Zn] 31 (0,0))]:=
 ⟨_,_,_,_,_,_,[],[],[],[],Zr _,h,IsSl.nil,IsSl.nil,Grow.nil _ _ _,Grow.nil _ _ _,Grow.nil _ _ _,Grow.nil _ _ _⟩
variable {fz':FZ}
theorem DomS.mono (h:DomS fz g d H) (hle:Le fz fz'):DomS fz' g d H:=by
 obtain ⟨v1,v2,vp,vf,va,vd,Hp,Hf,Ha,Hd,hperm,hdn,ht1,ht2,hgp,hgf,hga,hgd⟩:=h;exact ⟨v1,v2,vp,vf,va,vd,Hp,Hf,Ha,Hd,hperm,hdn,ht1.mono hle,ht2.mono hle,hgp.mono hle,hgf.mono hle,hga.mono hle,hgd.mono hle⟩
theorem titM_err {x:Sexpr} {c:Int} (h:titM x=.error c):c≠0:=by
 unfold titM at h;split at h
 ·injection h with h;omega
 split at h
 ·split at h
  ·split at h
   ·cases h
   injection h with h;omega
  injection h with h;omega
 injection h with h;omega
theorem titM_ok {x:Sexpr} {s:Bs} (h:titM x=.ok s) (hR:YS fz x vk):Short s:=by
 unfold titM at h;split at h
 ·cases h
 split at h
 ·split at h
  ·split at h
   ·rename_i hn;injection h with h
    subst h;have:=hn.2.2.1;unfold Short;omega
   cases h
  cases h
 cases h
variable {Hs:HP} {v:Value}
theorem Grow.fzv {α:Type} {L:Lay α} {e:Nat} {l:List α} (hg:Grow L e fz v l.length Hs l) (hle:Le fz fz') (hf:∀ p∈Hs,fz' p.1=some p.2) (hn:l.length<=140737488355328):IsSl L fz' v l:=by
 obtain ⟨A1,c1,hv,h⟩:=hg.sl hle hf hn;exact ⟨_,_,_,hv,h⟩
set_option maxHeartbeats 16000000 in
theorem dParse_f {x:Sexpr} (hR:YS fz x vk):
 GFn prog 16 [.agg #[Zk x.kind,Zk x.value,Zk x.line,Zk x.column,.string x.text,vk]] fz [] (fun r fz' H'=>H'=[]/\ResL Yev fz' (Yby x) r):=by
 have hRx:=hR;have hbeg:=Ycp hR;obtain ⟨A,n,c,rfl,ik⟩:=hR.kids;have hl:=ik.len;have hM:Yby x=if XVal x then (match dPar x with
 | .error c=>.error c
 | .ok d=>if Ybt d/\XVal (domX d) then .ok d else .error 5) else .error 2:=rfl
 have hP:dPar x=match Xw x with
 | none=>.error 2
 | some (w,r)=>if w=YB then (match r with
  | []=>.error 2
  | y::r'=>match titM y with
   | .error c=>.error c
   | .ok nm=>secL [] ⟨nm,[],[],[],[],[],[]⟩ r') else .error 2:=rfl
 refine zF Tryz.func16 Tryz.ntmps16 (fun w0=>?_);refine zW ?_;intros;refine zb (WZ hRx) (fun f1=>?_) (fun f1=>?_)
 ·have hv:=Zt f1;have hcx:=hv.2.2;have hsx:=hv.sm;rw [if_pos hv] at hM;have bad4:dPar x=.error 4->Yby x=.error 4:=fun e=>by rw [hM,e]
  have bad:dPar x=.error 2->Yby x=.error 2:=fun e=>by rw [hM,e]
  refine zW ?_;cases hh:Xw x with
  | none=>
   rw [hh] at hbeg hP;refine zc hbeg ?_;refine zW ?_;exact YN T (vs:=[.agg #[Ze,Zn,Zn,Zn,Zn,Zn,Zn],.iface 65 (Zk 2)]) Zz ⟨⟨_,_,0,_,_,_,rfl,rfl,rfl,rfl,rfl,rfl⟩,rfl,trivial⟩ (fun fz3 hle3 hf3=>⟨rfl,ResL.err (bad hP) Zh W4⟩)
  | some wr=>
   obtain ⟨w,r⟩:=wr;rw [hh] at hbeg hP;simp only at hP;obtain ⟨y0,hk,rfl,hk3,hk1⟩:=XR hh;have hk0:x.kids[0]?=some y0:=by rw [hk];rfl
   rw [hk,List.length_cons] at hl;have hcx2:=Y4 x;rw [hk,xcountL] at hcx2;refine zc hbeg ?_;refine wI ik hk0 (fun p hp=>?_);refine wH hp.Sexpr_text (fun hst=>?_);refine wC (fun c2=>?_) (fun c2=>?_)
   ·rw [if_neg (show ¬y0.text=YB from c2)] at hP;refine zW ?_;exact YN T (vs:=[.agg #[Ze,Zn,Zn,Zn,Zn,Zn,Zn],.iface 65 (Zk 2)]) Zz ⟨⟨_,_,0,_,_,_,rfl,rfl,rfl,rfl,rfl,rfl⟩,rfl,trivial⟩ (fun fz3 hle3 hf3=>⟨rfl,ResL.err (bad hP) Zh W4⟩)
   rw [if_pos (show y0.text=YB from c2)] at hP;refine wC (fun c3=>?_) (fun c3=>?_)
   ·have hr0:r=[]:=List.eq_nil_of_length_eq_zero Zi;rw [hr0] at hP;refine zW ?_;exact YN T (vs:=[.agg #[Ze,Zn,Zn,Zn,Zn,Zn,Zn],.iface 65 (Zk 2)]) Zz ⟨⟨_,_,0,_,_,_,rfl,rfl,rfl,rfl,rfl,rfl⟩,rfl,trivial⟩ (fun fz3 hle3 hf3=>⟨rfl,ResL.err (bad hP) Zh W4⟩)
   obtain ⟨u,r',rfl⟩:∃ u r',r=u::r':=by
    cases r with
    | nil=>simp at hl;omega
    | cons u r'=>exact ⟨u,r',rfl⟩
   simp only at hP;have hu:x.kids[1]?=some u:=by rw [hk];rfl
   rw [xcountL] at hcx2;refine zW ?_;intros;refine zI ik hu (fun p2 hp2=>?_);refine zL hp2 ?_;intro cs hcs;obtain ⟨vu,rfl,hRu⟩:=Yi hcs;have htit:=title_q hRu;cases ht:titM u with
   | error c'=>
    rw [ht] at hP htit;have hc:=titM_err ht;refine zc htit ?_;unfold strV;refine zW ?_;exact YN T (vs:=[.agg #[Ze,Zn,Zn,Zn,Zn,Zn,Zn],.iface 65 (Zk c')]) Zz ⟨⟨_,_,1,_,_,_,rfl,rfl,rfl,rfl,rfl,rfl⟩,rfl,trivial⟩ (fun fz3 hle3 hf3=>⟨rfl,ResL.err (by rw [hM,hP]) hc W4⟩)
   | ok nm=>
    rw [ht] at hP htit;have hnm:=titM_ok ht hRu;simp only at hP;refine zc htit ?_;unfold strV;refine zW ?_;refine Ya Zz (YaP (fun gm=>?_));refine wG ?_;refine XC (j:=2) T Zz Zz Zz Zz Zz Zz ik Zi (fun A' hA'=>?_);rw [hk,List.drop_succ_cons,List.drop_succ_cons,List.drop_zero] at hA';have hrl:=hA'.len;have hrc:=X9 (l:=r');refine zW ?_;rename_i g1 g2 g4;refine Wp.perm (List.Perm.cons _ (List.Perm.swap _ _ _)) ?_;refine Ym (fun q σ fz' H'=>∃ (k:Nat) (d:Domain) (HD:HP) (ms:List (Bs × Value)) (seen:List Bs),k<=n - 2/\q=n - 2 - k/\σ=[(55,Zk k),(54,Zk (n - 2:Nat)),(53,.slice A' (n - 2) (c - 2)),(6,.map (some gm)),(4,Zp g4),(2,Zp g2)]/\Le fz fz'/\H'=(gm,mapS ms)::(g2,.cells #[Ze,Zn,Zn,Zn,Zn,Zn,Zn] 31 (0,0))::HD/\DomS fz' g4 d HD/\Ycv ms seen/\DomT k d/\dPar x=secL seen d (r'.drop k)) ⟨0,_,_,[],[],Z0 _,rfl,rfl,Le.refl _,rfl,DomS.new hnm,Ycv.nil,⟨by show 0<=_;omega,by show 0<=_;omega,by show 0<=_;omega,by simp,by show 0<=_;omega,by simp,by show 0<=_;omega,by simp,by show 0<=_;omega,by simp⟩,hP⟩ Zw Zb ?_;rintro q σ fz' H' ⟨k,d,HD,ms,seen,hkn,rfl,rfl,hle,rfl,hD,hS,hT,hF⟩;refine wC (fun c4=>?_) (fun c4=>?_)
    ·obtain ⟨z,hz⟩:=Yl (l:=r') (k:=k) Zi;have hzm:=Zm hz;have hcz:=XX hzm;have hsz:XSm z:=(Y2.1 hsx).2 z (by rw [hk];simp [hzm]);rw [YbG hz,secL] at hF;refine wI (hA'.mono hle) hz (fun p3 hp3=>?_);refine zL hp3 ?_;intro cs3 hcs3;obtain ⟨vz,rfl,hRz⟩:=Yi hcs3;have hRz':=hRz;have hbz:=Ycp hRz;obtain ⟨Az,nz,cz,rfl,iz⟩:=hRz.kids;refine zW ?_;intros;rename_i g8;cases hhz:Xw z with
     | none=>
      rw [hhz] at hF hbz;refine zc hbz ?_;refine zW ?_;exact YN T (vs:=[.agg #[Ze,Zn,Zn,Zn,Zn,Zn,Zn],.iface 65 (Zk 2)]) Zz ⟨⟨_,_,2,_,_,_,rfl,rfl,rfl,rfl,rfl,rfl⟩,rfl,trivial⟩ (fun fz3 hle3 hf3=>⟨rfl,ResL.err (bad hF) Zh W4⟩)
     | some wt=>
      obtain ⟨w,t⟩:=wt;rw [hhz] at hF hbz;simp only at hF;obtain ⟨y1,hk5,rfl,hk6,hk7⟩:=XR hhz;have hk8:z.kids[0]?=some y1:=by rw [hk5];rfl
      have htl:t.length<=4096:=by
       have h1:=Y4 z;have h2:=X9 (l:=z.kids);rw [hk5,List.length_cons] at h2;rw [hk5] at h1;omega
      refine zc hbz ?_;refine zWX ?_;refine Yj ?_;refine zWX ?_;refine zI iz hk8 (fun p4 hp4=>?_);refine zWX ?_;refine zH hp4.Sexpr_text (fun hst4=>?_);refine zWX ?_;refine Yj (Wp.mid (fun σ fz5 H'=>∃ ms2:List (Bs × Value),σ=[(55,Zk k),(54,Zk (n - 2:Nat)),(53,.slice A' (n - 2) (c - 2)),(8,Zp g8),(6,.map (some gm)),(4,Zp g4),(2,Zp g2)]/\Le fz' fz5/\H'=(g8,.cells #[Zk z.kind,Zk z.value,Zk z.line,Zk z.column,.string z.text,.slice Az nz cz] 57 (0,0))::(gm,mapS ms2)::(g2,.cells #[Ze,Zn,Zn,Zn,Zn,Zn,Zn] 31 (0,0))::HD/\Ycv ms2 (if y1.text∈Yde then seen++ [y1.text] else seen)/\¬(y1.text∈Yde/\y1.text∈seen)) ?_ ?_)
      ·refine zW ?_;refine Ya Zz (Yb T (cs:=[.string W7,.string Xn,.string Xe,.string Xm]) Zz Zz Zz Zz Zz Zz Zz Zz (fun gb=>?_))
       first | refine Wp.freeze Zz (fun fz2 hle2 hg2=>?_) | refine Seq.freeze Zz (fun fz2 hle2 hg2=>?_)
       have hkw:Sl strL fz2 (some ⟨gb,0,none⟩) 4 4 Yde:=Xz (ys:=[(W7,[.string W7]),(Xn,[.string Xn]),(Xe,[.string Xe]),(Xm,[.string Xm])]) hg2 rfl rfl (by intro p hp;simp only [List.mem_cons,List.not_mem_nil,_root_.or_false] at hp;rcases hp with rfl | rfl | rfl | rfl<;>exact ⟨rfl,by show _<=_;decide⟩) rfl Zh;refine wb (Yds (x:=y1.text) hkw) (fun f2=>?_) (fun f2=>?_)
       ·have hin:=Zt f2;refine wG ?_;refine YaD T 1 Zz Zz Zz Zz Zz Zz Zz Zz hS.get ?_;refine zW ?_;by_cases hm:y1.text∈seen
        ·rw [if_pos ⟨hin,hm⟩] at hF;rw [decide_eq_true hm];refine zW ?_;exact YN T (vs:=[.agg #[Ze,Zn,Zn,Zn,Zn,Zn,Zn],.iface 65 (Zk 4)]) Zz ⟨⟨_,_,2,_,_,_,rfl,rfl,rfl,rfl,rfl,rfl⟩,rfl,trivial⟩ (fun fz3 hle3 hf3=>⟨rfl,ResL.err (bad4 hF) Zh W4⟩)
        rw [decide_eq_false hm];refine zW ?_;refine YF (Wl T (pre:=[_]) Zz Zz Zz Zz Zz Zz Zz (Zr _) ?_);exact wN (h:=by exact ⟨_,rfl,hle2,rfl,by rw [if_pos hin];exact hS.add y1.text,fun h=>hm h.2⟩)
       have hin:=Zf f2;exact wN (h:=by exact ⟨ms,rfl,hle2,rfl,by rw [if_neg hin];exact hS,fun h=>hin h.1⟩)
      rintro σ fz5 H' ⟨ms2,rfl,hle5,rfl,hS2,hnd⟩;rw [if_neg hnd] at hF;refine zW ?_;refine Ya Zz (Does.perm (Zq (l₁:=HD) (l₂:=[(g8,_),(gm,_),(g2,_)])) (Yx HD [(g8,_),(gm,_),(g2,_)] Zz Zz Zz (Ymt hhz hsz (hD.mono hle5) (hRz'.mono hle5) (by have:=hT.p;have:k*4096<=4096*4096:=Nat.mul_le_mul_right _ Zi;omega) (by have:=hT.f;have:k*4096<=4096*4096:=Nat.mul_le_mul_right _ Zi;omega) (by have:=hT.a;omega) (by have:=hT.u;omega)) (fun v6 fz6 H6 hle6 hR6=>?_)));obtain ⟨_,hR6⟩:=hR6;cases hx:secB d y1.text t z with
      | error c'=>
       rw [hx] at hR6 hF;obtain ⟨rfl,hc,rfl⟩:=hR6;rw [Yk hc,List.nil_append];refine zW ?_;exact YN T (vs:=[.agg #[Ze,Zn,Zn,Zn,Zn,Zn,Zn],.iface 65 (Zk c')]) Zz ⟨⟨_,_,2,_,_,_,rfl,rfl,rfl,rfl,rfl,rfl⟩,rfl,trivial⟩ (fun fz3 hle3 hf3=>⟨rfl,ResL.err (by rw [hM,hF]) hc W4⟩)
      | ok d2=>
       rw [hx] at hR6 hF;obtain ⟨rfl,hD6⟩:=hR6;refine Seq.perm (H':=[(g8,_),(gm,_),(g2,_)]++H6) Zq ?_;have hT2:=hT.step hsz (fun y hy=>Wf hsz hhz hy) htl hx;refine zW ?_;exact WO (H':=(gm,_)::(g2,_)::H6) ⟨k+1,d2,H6,ms2,_,by omega,rfl,rfl,hle.trans (hle5.trans hle6),rfl,hD6,hS2,hT2,hF⟩ Zi Zw Zb
    rw [List.drop_eq_nil_of_le Zi,secL] at hF;have hsm:=hT.sm Zi;rw [hF] at hM;simp only at hM;obtain ⟨v1,v2,vp,vf,va,vd,Hp,Hf,Ha,Hd,hperm,hdn,ht1,ht2,hgp,hgf,hga,hgd⟩:=hD;refine Seq.freezeAll (H1:=[(gm,_),(g2,_),(g4,_)]) (H2:=Hp++(Hf++(Ha++Hd))) (List.Perm.cons _ (List.Perm.cons _ hperm)) (fun fz5 hle5 hf5=>?_);have hDR:DomainR fz5 d v1 v2 vp vf va vd:=⟨hdn,ht1.mono hle5,ht2.mono hle5,
     Grow.fzv hgp hle5 (fun p hp=>hf5 p (by simp [hp])) (by have:=hsm.predicates;omega),Grow.fzv hgf hle5 (fun p hp=>hf5 p (by simp [hp])) (by have:=hsm.functions;omega),
     Grow.fzv hga hle5 (fun p hp=>hf5 p (by simp [hp])) (by have:=hsm.actions;omega),Grow.fzv hgd hle5 (fun p hp=>hf5 p (by simp [hp])) (by have:=hsm.duratives;omega)⟩
    have hDR':=hDR;obtain ⟨T1,t1,z1,rfl,_⟩:=hDR.types;obtain ⟨T2,t2,z2,rfl,_⟩:=hDR.constants;obtain ⟨T3,t3,z3,rfl,_⟩:=hDR.predicates;obtain ⟨T4,t4,z4,rfl,_⟩:=hDR.functions;obtain ⟨T5,t5,z5,rfl,_⟩:=hDR.actions;obtain ⟨T6,t6,z6,rfl,_⟩:=hDR.duratives;refine wK (q:=YhQ hDR' hsm) (h:=fun r6 fz6 H6 hle6 hR6=>?_);obtain ⟨rfl,u6,y6,rfl,⟨cs6,rfl,hr6⟩,hy6⟩:=hR6;obtain ⟨vk6,rfl,hX6⟩:=Yi hr6;obtain ⟨A6,n6,c6,rfl,_⟩:=hX6.kids;by_cases hOk:Ybt d/\XVal (domX d)
    ·rw [if_pos hOk] at hM ⊢;rw [show errV 0=.nilIface from rfl];refine zW ?_;intros;exact YN T (vs:=[.agg #[.string d.name,.slice T1 t1 z1,.slice T2 t2 z2,.slice T3 t3 z3,.slice T4 t4 z4,.slice T5 t5 z5,.slice T6 t6 z6],.nilIface]) Zz ⟨⟨_,_,2,_,_,_,rfl,rfl,rfl,rfl,rfl,rfl⟩,rfl,trivial⟩ (fun fz3 hle3 hf3=>⟨rfl,ResL.fine hM (YcP (hDR'.mono (hle6.trans hle3)))⟩)
    rw [if_neg hOk] at hM ⊢;rw [Yk Zh];refine zW ?_;intros;exact YN T (vs:=[.agg #[Ze,Zn,Zn,Zn,Zn,Zn,Zn],.iface 65 (Zk 5)]) Zz ⟨⟨_,_,2,_,_,_,rfl,rfl,rfl,rfl,rfl,rfl⟩,rfl,trivial⟩ (fun fz3 hle3 hf3=>⟨rfl,ResL.err (hM) Zh W4⟩)
 rw [if_neg (Zf f1)] at hM;refine zW ?_;exact YN T (vs:=[.agg #[Ze,Zn,Zn,Zn,Zn,Zn,Zn],.iface 65 (Zk 2)]) Zz ⟨⟨_,_,0,_,_,_,rfl,rfl,rfl,rfl,rfl,rfl⟩,rfl,trivial⟩ (fun fz3 hle3 hf3=>⟨rfl,ResL.err hM Zh W4⟩)
end Go.Proofs.YtfjopfinkdhmaaaGreatDoor
