/- The texts VB, WA, VD, Rcm, WB, VE, QLp, GOpenA, laid together. Conditions: none. -/
import Derived.Test.YtbdpaoikccabhaaGreatDoorEAV
import Derived.Deep.Slices
import Derived.SizedLaws
import Derived.Carry
set_option linter.all false
set_option maxHeartbeats 16000000
noncomputable section
set_option maxRecDepth 20000
open Go.Lx Go.RowKit
attribute [local instance 10] Classical.propDecidable
open Go.Proofs.Tryz (prog)
namespace Go.Proofs.YtbdpaoikccabhaaGreatDoor
variable {d:Domain} {p:Problem} {j k:Nat} {M:Mn} {W:Wd} {S:List Atom} {E:EnvM} {K:Kn}
theorem Yfc {α:Type} {E:α->Int}:∀ {l:List (Bs × α)},(Y9 E l).2=0->∀ p∈l,E p.2=0
 | [],_,p,hp=>by cases hp
 | q::l,h,p,hp=>by
  rw [Y9] at h;split at h
  ·rename_i h0;rcases List.mem_cons.1 hp with rfl | hp
   ·exact h0
   exact Yfc h p hp
  rename_i h0;exact absurd h h0
theorem Yh0 {α:Type} {E:α->Int}:∀ {l:List α},Yav E l=0->∀ p∈l,E p=0
 | [],_,p,hp=>by cases hp
 | q::l,h,p,hp=>by
  rw [Yav] at h;split at h
  ·rename_i h0;rcases List.mem_cons.1 hp with rfl | hp
   ·exact h0
   exact Yh0 h p hp
  rename_i h0;exact absurd h h0
theorem YlV (hc:(Y4 d p).2=0) {a:Action} (ha:a∈d.actions):(parN a.params).Nodup/\∀ c∈a.changes,(parN c.params).Nodup/\((c.kind=1\/c.kind=2)->chgK d c.name=true):=by
 have hok:=Yh5 hc;have s1:(Y9 (fun l=>if TwP [] (parN l) then 4 else 0) (YbE d [])).2=0:=hok.step 1 Zh;have s5:(Y9 idN (YaR d (objsM d p))).2=0:=hok.step 5 Zh;have t1:=Yfc s1 (Ww++a.name,a.params) (List.mem_append_right _ (List.mem_append_right _ (List.mem_append_right _ (List.mem_append_left _ (List.mem_map.2 ⟨a,ha,rfl⟩)))));refine ⟨Yl7 (o:=[]) (fun h=>by
  have t1:(if TwP [] (parN a.params) then (4:Int) else 0)=0:=t1;rw [if_pos h] at t1;cases t1),fun c hcm=>?_⟩
 have t5:X9 d (objsM d p) a.params a.changes false=0:=Yfc s5 ((Ww++a.name)++wEff,X9 d (objsM d p) a.params a.changes false) (List.mem_append_left _ (List.mem_flatMap.2 ⟨a,ha,.tail _ (.head _)⟩));have t6:YaO d (objsM d p) a.params c false=0:=Yh0 t5 c hcm;unfold YaO at t6;split at t6
 ·cases t6
 split at t6
 ·cases t6
 rename_i h2;split at t6
 ·cases t6
 split at t6
 ·rename_i h;exact absurd t6 h
 refine ⟨Yl7 h2,fun hk=>?_⟩;have hn:¬NumC c:=fun h=>by
  rcases hk with e | e
  ·exact h.1 e
  exact h.2 e
 rw [if_pos hn] at t6;unfold atomM at t6;split at t6
 ·cases t6
 rename_i q hq;unfold fstP at hq;have h3:∃ q∈d.predicates,q.name=c.name:=⟨q,List.mem_of_find?_eq_some hq,by simpa using List.find?_some hq⟩;have h4:∃ a∈d.actions,Ym9 c.name a:=⟨a,ha,c,hcm,hk,rfl⟩;unfold chgK chgM;rw [decide_eq_true h3,decide_eq_true (.inl h4)];rfl
theorem YpE {l:List Schema} {D:List (List Bool)} {i:Nat} {s:Schema} {b:List Bool} {a:List Bs} (hs:l[i]?=some s) (hb:D[i]?=some b) (ha:s.arguments[j]?=some a) (hx:b[j]?=some true):(s.name,a)∈YdN l D:=
 List.mem_flatMap.2 ⟨(s,b),Zm (List.getElem?_zip_eq_some.2 ⟨hs,hb⟩),List.mem_map.2 ⟨(a,true),List.mem_filter.2 ⟨Zm (List.getElem?_zip_eq_some.2 ⟨ha,hx⟩),rfl⟩,rfl⟩⟩
theorem Yi3 {a:Action} {as_:List Bs} {k:Int} {z:Atom} (h:z∈fireM M W a as_ k):∃ c∈a.changes,c.kind=k/\∃ l,Ydy M c.params l/\holdsW M W (nmC a c) (l++as_) (normV c.when_)=true/\z=⟨c.name,c.args.map (valN (nmC a c) (l++as_))⟩:=by
 obtain ⟨c,hcm,h⟩:=List.mem_flatMap.1 h;unfold Yfd at h;split at h
 ·rename_i hk;obtain ⟨l,hl,rfl⟩:=List.mem_map.1 h;obtain ⟨h1,h2⟩:=List.mem_filter.1 hl;exact ⟨c,hcm,hk,l,Yop h1,h2,rfl⟩
 cases h
theorem inv_step (hc:(Y4 d p).2=0) (hf:Fit14 d p) (hap:Apt d p) (hsch:schE (knM d p) d=0) {B D:List (List Bool)} (hS:S.length<=4096) (hB:FitR (schL (knM d p) d) B) (hD:FitR (schL (knM d p) d) D) (hfix:Xu (knM d p) (schL (knM d p) d) S B D=⟨S,B,D,false⟩) {W':Wd} {s:StepM} {a:Action} (hI:InvW (knM d p) S W) (ha:AppOk (mnM d p) W s a) (hw:StepW (mnM d p) W s a W'):InvW (knM d p) S W'/\s∈YdN (schL (knM d p) d) D:=by
 have ho:∀ t,ofN (mnM d p) t=ofK (knM d p) t:=fun t=>rfl
 have hos:(mnM d p).os.length<=6:=by show (d.constants++p.objects).length<=6;rw [List.length_append];exact hf.os
 have htyp:=ha.typ;have hmem:a∈d.actions:=htyp.mem;obtain ⟨k,hk,hname,_⟩:=htyp.fd;have hcmb:=mem_comb ho hos (hf.a a hmem).params (Yoq htyp.len htyp.typ);have hsk:(schL (knM d p) d)[k]?=some (YaF (knM d p) (schA a)):=by
  have hk':d.actions[k]?=some a:=hk;unfold schL schB;rw [List.getElem?_map,List.getElem?_append_left (by rw [List.length_map];exact (Zg hk').1),List.getElem?_map,hk'];rfl
 obtain ⟨j,hj⟩:=List.getElem?_of_mem hcmb;obtain ⟨b,dd,x,y,hb,hd,hx,hy,hn⟩:=YmG hB hD hfix hsk hj;have hssh:=hap.sh hsch _ (Zm hsk);obtain ⟨hnd,hch⟩:=YlV hc hmem;have hE:EqE (nmA a) s.2 (envA (YaF (knM d p) (schA a)) s.2):=by
  have:=EqE.ext (ns:=[]) (bs:=[]) (E:=fun _=>none) htyp.len hnd (fun x=>rfl);rw [List.append_nil,List.append_nil] at this;exact this
 obtain ⟨hy1,hadd⟩:=inst_act hn rfl rfl (relax ho hI _ (Zs _) hssh.all hE ha.pre);subst hy1;refine ⟨⟨fun z hz=>?_,fun z hz hch0=>(hw.mem z).2 (.inl ⟨hI.st z hz hch0,fun hz2=>?_⟩)⟩,?_⟩
 ·rcases (hw.mem z).1 hz with ⟨h1,_⟩ | h1
  ·exact hI.sub z h1
  obtain ⟨c,hcm,hk1,l,hT,hl,rfl⟩:=Yi3 h1;have hE2:=EqE.ext (ps:=c.params) hT.len (hch c hcm).1 hE;have hcn:{c with when_:=normV c.when_}∈normC a.changes:=List.mem_map.2 ⟨c,List.mem_filter.2 ⟨hcm,decide_eq_true hk1⟩,rfl⟩;have hfx:=Ym7 ho hS (YkS hadd _ hcn) hT (relax ho hI _ (Zs _) (hssh.late _ hcn).when_ hE2 hl);rw [hE2.bnd] at hfx;exact hfx
 ·obtain ⟨c,hcm,hk2,l,_,_,rfl⟩:=Yi3 hz2;have h1:chgK d c.name=false:=hch0;rw [(hch c hcm).2 (.inr hk2)] at h1;cases h1
 have h1:=YpE hsk hd hj hy;have e:s=(a.name,s.2):=by rw [hname]
 rw [e];exact h1
theorem YeQ {K:Kn} {al:Bool} {h1 h2:EnvM->Bool} (hh:∀ E,h1 E=true->h2 E=true):∀ (ps:List Param) {E:EnvM},quantV K al h1 ps E=true->quantV K al h2 ps E=true
 | [],E,g=>by rw [quantV] at g ⊢;exact hh E g
 | p::ps,_,g=>by
  rw [quantV] at g ⊢;cases al with
  | true=>
   rw [if_pos rfl,List.all_eq_true] at g ⊢;exact fun o hi=>YeQ hh ps (g o hi)
  | false=>
   rw [if_neg Zh,List.any_eq_true] at g ⊢;obtain ⟨o,hi,g⟩:=g;exact ⟨o,hi,YeQ hh ps g⟩
theorem Ye7 {K:Kn} {S T:List Atom} (h:∀ a∈T,a∈S):∀ (s:Nat) {f:Formula} {E:EnvM},SizeOf.sizeOf f<=s->holdsM K T E f=true->holdsM K S E f=true
 | 0,f,_,hs,_=>by cases f;simp at hs
 | s+1,f,E,hs,g=>by
  have hkid:∀ x∈f.kids,∀ {E},holdsM K T E x=true->holdsM K S E x=true:=fun x hx _ hh=>Ye7 h s (by have:=Formula.kids_lt hx;omega) hh
  rw [YS] at g ⊢;by_cases c1:f.op=kAtom
  ·rw [if_pos c1] at g ⊢;exact decide_eq_true (h _ (Zt g))
  rw [if_neg c1] at g ⊢;by_cases c2:f.op=kSame
  ·rw [if_pos c2] at g ⊢;exact g
  rw [if_neg c2] at g ⊢;by_cases c3:f.op=kNot
  ·rw [if_pos c3] at g ⊢;cases hk:f.kids with
   | nil=>rw [notH]
   | cons x r=>
    rw [hk,notH] at g;rw [notH];by_cases e:x.op=kSame
    ·have e2:¬x.op=kAtom:=by rw [e];decide+kernel
     rw [if_pos e,YS,if_neg e2,if_pos e] at g;rw [if_pos e,YS,if_neg e2,if_pos e];exact g
    rw [if_neg e] at g ⊢;exact g
  rw [if_neg c3] at g ⊢;by_cases c4:f.op=kAnd
  ·rw [if_pos c4,Yhg] at g ⊢;simp only [Bool.not_eq_true',decide_eq_false_iff_not] at g ⊢;exact fun ⟨x,hx,hn⟩=>g ⟨x,hx,fun hh=>hn (hkid x hx hh)⟩
  rw [if_neg c4] at g ⊢;by_cases c5:f.op=kOr
  ·rw [if_pos c5,Yhf] at g ⊢;obtain ⟨x,hx,hn⟩:=Zt g;exact decide_eq_true ⟨x,hx,hkid x hx hn⟩
  rw [if_neg c5] at g ⊢;by_cases c6:QuF f.op
  ·rw [if_pos c6] at g ⊢;refine YeQ (fun E g=>?_) _ g;cases hk:f.kids with
   | nil=>rw [headH]
   | cons x r=>
    rw [hk,headH] at g;rw [headH];exact hkid x (by rw [hk];simp) g
  rw [if_neg c6]
def Wi (S T:List Atom):Prop:=T.Nodup/\∀ a∈T,a∈S
theorem Yem {α β:Type} {P:α->Prop} {f:α->β->α}:∀ {l:List β} {r:α},P r->(∀ r x,x∈l->P r->P (f r x))->P (l.foldl f r)
 | [],_,h,_=>h
 | x::l,r,h,hf=>Yem (l:=l) (hf r x (by simp) h) (fun r y hy=>hf r y (by simp [hy]))
theorem Yqx {K:Kn} {c:Change} {S:List Atom} (hS:S.length<=4096):∀ {ps:List Param} {E:EnvM},(addM K c ps E S).2=false->∀ {T:List Atom},Wi S T->Wi S (addM K c ps E T).1
 | [],E,h,T,hT=>by
  rw [addM] at h ⊢;split
  ·rename_i hn;refine ⟨List.nodup_append.2 ⟨hT.1,by simp,fun x hx y hy e=>by simp at hy;subst hy;subst e;exact hn.1 hx⟩,fun a ha=>?_⟩;rcases List.mem_append.1 ha with h1 | h1
   ·exact hT.2 a h1
   simp at h1;subst h1;split at h
   ·cases h
   rename_i h2;exact Classical.byContradiction fun h1=>h2 ⟨h1,Ye7 hT.2 _ (Zs _) hn.2⟩
  exact hT
 | p::ps,E,h,T,hT=>by
  have h1:=YkT hS h;rw [addM];exact Yem (P:=fun r:List Atom × Bool=>Wi S r.1) hT (fun r o ho hr=>by
   split
   ·exact hr
   exact Yqx hS (h1 o ho) hr)
theorem Ym6 {l:List Change} (hS:S.length<=4096) (h:(X8 K l E S).2=false) {T:List Atom} (hT:Wi S T):Wi S (X8 K l E T).1:=by
 have h1:=YkS h;rw [X8];exact Yem (P:=fun r:List Atom × Bool=>Wi S r.1) hT (fun r c hc hr=>Yqx hS (h1 c hc) hr)
theorem instM_wi {s:Schema} {a:List Bs} {x y:Bool} (hS:S.length<=4096) (h:(Xq K s a S x y).n=false) {T:List Atom} {u v:Bool} (hT:Wi S T) (hu:u=true->x=true) (hv:v=true->y=true):
 Wi S (Xq K s a T u v).S/\((Xq K s a T u v).b=true->x=true)/\((Xq K s a T u v).d=true->y=true):=by
 have hm:=fun f E=>Ye7 (K:=K) hT.2 _ (f:=f) (E:=E) (Zs _)
 obtain ⟨_,_,_,_,g5⟩:=YhX K s a S x y;obtain ⟨_,e2,e3⟩:=g5 h;have hb:(Xq K s a T u v).b=true->x=true:=fun hb=>by
  rcases Bool.or_eq_true _ _ ▸ (show (u || holdsM K T (envA s a) s.start)=true from hb) with h1 | h1
  ·exact hu h1
  rw [<- e2];show (x || holdsM K S (envA s a) s.start)=true;rw [hm _ _ h1,Bool.or_true]
 have hd:(Xq K s a T u v).d=true->y=true:=fun hd=>by
  rcases Bool.or_eq_true _ _ ▸ (show (v || ((Xq K s a T u v).b && holdsM K T (envA s a) s.all))=true from hd) with h1 | h1
  ·exact hv h1
  obtain ⟨h1,h2⟩:=(Bool.and_eq_true _ _ ▸ h1:_/\_);rw [<- e3];show (y || ((Xq K s a S x y).b && holdsM K S (envA s a) s.all))=true;rw [e2,hb h1,hm _ _ h2];simp
 refine ⟨?_,hb,hd⟩;have hx:(Xq K s a S x y).b=true->(X8 K s.early (envA s a) S).2=false:=fun hb=>by
  have h':((if (Xq K s a S x y).d=true then X8 K s.late (envA s a) (if (Xq K s a S x y).b=true then X8 K s.early (envA s a) S else (S,false)).1 else ((if (Xq K s a S x y).b=true then X8 K s.early (envA s a) S else (S,false)).1,false)).2 || ((if (Xq K s a S x y).b=true then X8 K s.early (envA s a) S else (S,false)).2 || ((!y && (Xq K s a S x y).d) || (!x && (Xq K s a S x y).b))))=false:=h;rw [if_pos hb] at h';simp only [Bool.or_eq_false_iff] at h';exact h'.2.1
 have hy:(Xq K s a S x y).d=true->(X8 K s.late (envA s a) S).2=false:=fun hd=>by
  have h':((if (Xq K s a S x y).d=true then X8 K s.late (envA s a) (if (Xq K s a S x y).b=true then X8 K s.early (envA s a) S else (S,false)).1 else ((if (Xq K s a S x y).b=true then X8 K s.early (envA s a) S else (S,false)).1,false)).2 || ((if (Xq K s a S x y).b=true then X8 K s.early (envA s a) S else (S,false)).2 || ((!y && (Xq K s a S x y).d) || (!x && (Xq K s a S x y).b))))=false:=h;have e:(if (Xq K s a S x y).b=true then X8 K s.early (envA s a) S else (S,false)).1=S:=by
   split
   ·rename_i hb;exact (Yfk K s.early (envA s a) S).2.2 (hx hb)
   rfl
  rw [if_pos hd,e] at h';simp only [Bool.or_eq_false_iff] at h';exact h'.1
 have h1:Wi S (if (Xq K s a T u v).b=true then X8 K s.early (envA s a) T else (T,false)).1:=by
  split
  ·rename_i h1;exact Ym6 hS (hx (by rw [e2];exact hb h1)) hT
  exact hT
 show Wi S (if (Xq K s a T u v).d=true then X8 K s.late (envA s a) (if (Xq K s a T u v).b=true then X8 K s.early (envA s a) T else (T,false)).1 else ((if (Xq K s a T u v).b=true then X8 K s.early (envA s a) T else (T,false)).1,false)).1;split
 ·rename_i h2;exact Ym6 hS (hy (by rw [e3];exact hd h2)) h1
 exact h1
def MkL (b c:List Bool):Prop:=∀ j:Nat,b[j]?.getD false=true->c[j]?.getD false=true
theorem MkL.set {b c:List Bool} (h:MkL b c) {x:Bool} (hx:x=true->c[k]?.getD false=true):MkL (b.set k x) c:=fun j hj=>by
 rw [List.getElem?_set] at hj;by_cases e:k=j
 ·subst e;rw [if_pos rfl] at hj;split at hj
  ·exact hx hj
  cases hj
 rw [if_neg e] at hj;exact h j hj
theorem YoN {K:Kn} {s:Schema} {S:List Atom} {b c:List Bool} (hS:S.length<=4096) (hf:∀ (j:Nat) (a:List Bs),s.arguments[j]?=some a->(Xq K s a S (b[j]?.getD false) (c[j]?.getD false)).n=false):∀ (k:Nat) {st:RowS},Wi S st.S->MkL st.bs b->MkL st.ds c->Wi S (rowN K s k st).S/\MkL (rowN K s k st).bs b/\MkL (rowN K s k st).ds c
 | 0,_,h1,h2,h3=>⟨h1,h2,h3⟩
 | k+1,st,h1,h2,h3=>by
  obtain ⟨i1,i2,i3⟩:=YoN hS hf k h1 h2 h3;cases ha:s.arguments[k]? with
  | none=>rw [rowN,ha];exact ⟨i1,i2,i3⟩
  | some a=>
   rw [Yd1 ha];obtain ⟨j1,j2,j3⟩:=instM_wi hS (hf k a ha) i1 (i2 k) (i3 k);exact ⟨j1,i2.set j2,i3.set j3⟩
def MkB (B C:List (List Bool)):Prop:=∀ i:Nat,MkL (B[i]?.getD []) (C[i]?.getD [])
theorem MkB.set {B C:List (List Bool)} (h:MkB B C) {x:List Bool} (hx:MkL x (C[k]?.getD [])):MkB (B.set k x) C:=fun i=>by
 rw [List.getElem?_set];by_cases e:k=i
 ·subst e;rw [if_pos rfl];split
  ·exact hx
  intro j hj;cases hj
 rw [if_neg e];exact h i
theorem YoO {K:Kn} {l:List Schema} {S:List Atom} {B D:List (List Bool)} (hS:S.length<=4096) (hB:FitR l B) (hD:FitR l D) (hfix:Xu K l S B D=⟨S,B,D,false⟩):∀ (k:Nat) {w:RndS},Wi S w.S->MkB w.B B->MkB w.D D->Wi S (rndN K l k w).S/\MkB (rndN K l k w).B B/\MkB (rndN K l k w).D D
 | 0,_,h1,h2,h3=>⟨h1,h2,h3⟩
 | k+1,w,h1,h2,h3=>by
  obtain ⟨i1,i2,i3⟩:=YoO hS hB hD hfix k h1 h2 h3;cases hs:l[k]? with
  | none=>rw [rndN,hs];exact ⟨i1,i2,i3⟩
  | some s=>
   rw [Yd2 hs];obtain ⟨j1,j2,j3⟩:=YoN (b:=B[k]?.getD []) (c:=D[k]?.getD []) hS (fun j a ha=>by
    obtain ⟨b,c,x,y,hb,hd,hx,hy,hn⟩:=YmG hB hD hfix hs ha;rw [hb,hd];show (Xq K s a S (b[j]?.getD false) (c[j]?.getD false)).n=false;rw [hx,hy];exact hn) s.arguments.length (st:=⟨(rndN K l k w).S,(rndN K l k w).B[k]?.getD [],(rndN K l k w).D[k]?.getD [],(rndN K l k w).n⟩) i1 (i2 k) (i3 k)
   exact ⟨j1,i2.set j2,i3.set j3⟩
theorem Yp3 {K:Kn} {l:List Schema} {S:List Atom} {B D:List (List Bool)} (hS:S.length<=4096) (hB:FitR l B) (hD:FitR l D) (hfix:Xu K l S B D=⟨S,B,D,false⟩):∀ (f:Nat) {w:RndS},Wi S w.S->MkB w.B B->MkB w.D D->Wi S (exF K l f w).S
 | 0,_,h1,_,_=>h1
 | f+1,w,h1,h2,h3=>by
  obtain ⟨i1,i2,i3⟩:=YoO hS hB hD hfix l.length (w:=⟨w.S,w.B,w.D,false⟩) h1 h2 h3;by_cases hc:(Xu K l w.S w.B w.D).n=false\/4096<(Xu K l w.S w.B w.D).S.length
  ·rw [Yi8 hc];exact i1
  rw [Yeu hc];exact Yp3 hS hB hD hfix f i1 i2 i3
theorem Yi7 {l:List Schema} {D:List (List Bool)}:MkB (exN0 l) D:=fun i j hj=>by
 unfold exN0 at hj;rw [List.getElem?_map] at hj;cases h:l[i]? with
 | none=>rw [h] at hj;cases hj
 | some s=>
  rw [h] at hj;have hj:(List.replicate s.arguments.length false)[j]?.getD false=true:=hj;rw [List.getElem?_replicate] at hj;split at hj<;>cases hj
theorem Yp2 {S0:List Atom} (h:expE K d S0=0):schE K d=0/\(expM K d S0).S.length<=4096/\(∀ a∈S0,a∈(expM K d S0).S)/\FitR (schL K d) (expM K d S0).B/\FitR (schL K d) (expM K d S0).D/\Xu K (schL K d) (expM K d S0).S (expM K d S0).B (expM K d S0).D=⟨(expM K d S0).S,(expM K d S0).B,(expM K d S0).D,false⟩:=by
 unfold expE at h;split at h
 ·rename_i h1;exact absurd h h1
 rename_i h1;split at h
 ·cases h
 rename_i h2;obtain ⟨f1,f2,f3,f4⟩:=Yg3 (K:=K) (l:=schL K d) _ (w:=⟨S0,exN0 (schL K d),exN0 (schL K d),false⟩) (Nat.lt_succ_self _) (Yet _) (Yet _);exact ⟨Classical.not_not.1 h1,by omega,fun a ha=>f1.mem ha,f2,f3,f4.resolve_left h2⟩
end Go.Proofs.YtbdpaoikccabhaaGreatDoor
namespace Go.Proofs.YtbdpaoikccabhaaGreatDoor
variable {f:Formula} {fz:FZ} {va ve vk vp v1 v2 v3 v4 v5 v6:Value} {d:Domain}
mutual
def negF:Formula->Bool
 | .mk op _ _ _ exprs kids=>negFL kids || (decide (op=kNot) || decide (op=kImply)) || decide (0<exprs.length)
def negFL:List Formula->Bool
 | []=>false
 | x::r=>negF x || negFL r
end
theorem Yc2:∀ l:List Formula,negFL l=true↔∃ x∈l,negF x=true
 | []=>by simp [negFL]
 | x::r=>by rw [negFL,Bool.or_eq_true,Yc2 r];simp
theorem Yc1 (f:Formula):negF f=(negFL f.kids || (decide (f.op=kNot) || decide (f.op=kImply)) || decide (0<f.exprs.length)):=by cases f;rfl
theorem neg_f:∀ (s:Nat) {fz:FZ} {f:Formula} {va vp ve vk:Value},SizeOf.sizeOf f<=s->FormulaR fz f va vp ve vk->
 QFn prog 17 [.agg #[Zy f.op,Zy f.name,va,vp,ve,vk]] fz (Zo (negF f))
 | 0,_,e,_,_,_,_,hs,_=>by cases e;simp at hs
 | s+1,fz,f,va,vp,ve,vk,hs,h=>by
  obtain ⟨⟨A,n,ca,rfl,ha⟩,⟨B,m,cb,rfl,hp⟩,⟨C,r,cr,rfl,he⟩,⟨D,q0,cq,rfl,hk⟩⟩:=h.sls;refine GFn.quiet ?_;have lk:=hk.len;have sk:=hk.short;have le:=he.len;have se:=he.short;refine zF Tryz.func17 Tryz.ntmps17 (fun w0=>?_);refine pX (fun g0=>?_);refine zW ?_;intros;refine Yn (fun q σ fz' H'=>∃ (k:Nat),k<=q0/\q=q0 - k/\σ=[(3,Zk k),(1,Zp g0)]/\fz=fz'/\H'=[(g0,Zu #[Zy f.op,Zy f.name,Zc A n ca,Zc B m cb,Zc C r cr,Zc D q0 cq] 35)]/\(∀ i,i<k->∀ x,f.kids[i]?=some x->negF x=false)) ⟨0,Z0 _,rfl,rfl,rfl,rfl,fun i hi=>absurd hi Zi⟩ Zw Zb ?_;rintro q σ fz' H' ⟨k,hkm,rfl,rfl,rfl,rfl,hh⟩;refine zW ?_;intros;refine zC ?_ ?_<;>intro c1
  ·obtain ⟨x,hx⟩:=Yf (l:=f.kids) (k:=k) Zi;have hxm:=Zm hx;have hlt:=Formula.kids_lt hxm;refine zW ?_;intros;refine zI hk hx (fun p1 hp1=>?_);refine zL hp1 ?_;intro cs hcs;obtain ⟨v1,v2,v3,v4,rfl,hRx⟩:=Yu hcs;refine zW ?_;intros
   ((refine zG ?_);refine Yt (neg_f s Zi hRx) ?_);cases hb:negF x with
   | true=>
    refine zW ?_;intros;exact zR (h:=by rw [Yc1,(Yc2 _).2 ⟨x,hxm,hb⟩];rfl)
   | false=>
    refine zW ?_;intros;exact wM (h:=by exact fun i hi y hy=>(by rcases Nat.lt_or_ge i k with h1 | h1;exact hh i h1 y hy;obtain rfl:i=k:=Zi;rw [hx] at hy;cases hy;exact hb))
  have hn:negFL f.kids=false:=by
   cases hc:negFL f.kids with
   | false=>rfl
   | true=>
    obtain ⟨x,hx,hn⟩:=(Yc2 _).1 hc;obtain ⟨i,hi⟩:=List.getElem?_of_mem hx;have:=(Zg hi).1;rw [hh i Zi x hi] at hn;cases hn
  by_cases w1:f.op=kNot
  ·refine zW ?_;intros;exact zR (h:=by rw [Yc1,hn,w1];rfl)
  by_cases w2:f.op=kImply
  ·refine zW ?_;intros;exact zR (h:=by rw [Yc1,hn,w2];rfl)
  refine zW ?_;intros;refine zC ?_ ?_<;>intro c2
  ·refine zW ?_;intros;exact zR (h:=by rw [Yc1,hn,decide_eq_false w1,decide_eq_false w2,decide_eq_true Zi];rfl)
  refine zW ?_;intros;exact zR (h:=by rw [Yc1,hn,decide_eq_false w1,decide_eq_false w2,decide_eq_false Zi];rfl)
theorem neg_q (h:FormulaR fz f va vp ve vk):
 QFn prog 17 [.agg #[Zy f.op,Zy f.name,va,vp,ve,vk]] fz (Zo (negF f)):=neg_f _ (Zs _) h
structure PosD (d:Domain):Prop where
 fs:d.functions=[]
 ds:d.duratives=[]
 acts:∀ a∈d.actions,negF a.pre=false/\∀ c∈a.changes,c.kind=1/\negF c.when_=false
theorem Ynt (h:DomainR fz d v1 v2 v3 v4 v5 v6):
 GFn prog 7 [ZD d v1 v2 v3 v4 v5 v6] fz [] (fun r _ H'=>H'=[]/\∃ b,r=Zo b/\(b=true->PosD d)):=by
 obtain ⟨⟨A1,n1,b1,rfl,i1⟩,⟨A2,n2,b2,rfl,i2⟩,⟨A3,n3,b3,rfl,i3⟩,⟨A4,n4,b4,rfl,i4⟩,⟨A5,n5,b5,rfl,i5⟩,⟨A6,n6,b6,rfl,i6⟩⟩:=h.sls;have l4:=i4.len;have s4:=i4.short;have l5:=i5.len;have s5:=i5.short;have l6:=i6.len;have s6:=i6.short;refine zF Tryz.func7 Tryz.ntmps7 (fun w0=>?_);refine pX (fun g0=>?_);refine zW ?_;intros;refine zC ?_ ?_<;>intro c1
 ·refine zW ?_;intros;exact wR (h:=by exact ⟨rfl,false,rfl,Za⟩)
 refine zW ?_;intros;refine Yn (fun q σ fz' H'=>∃ (k:Nat),k<=n5/\q=n5 - k/\σ=[(3,Zk k),(1,Zp g0)]/\fz=fz'/\H'=[(g0,Zu #[Zy d.name,Zc A1 n1 b1,Zc A2 n2 b2,Zc A3 n3 b3,Zc A4 n4 b4,Zc A5 n5 b5,Zc A6 n6 b6] 28)]/\(∀ i,i<k->∀ x,d.actions[i]?=some x->negF x.pre=false/\∀ c∈x.changes,c.kind=1/\negF c.when_=false)) ⟨0,Z0 _,rfl,rfl,rfl,rfl,fun i hi=>absurd hi Zi⟩ Zw Zb ?_;rintro q σ fz' H' ⟨k,hkm,rfl,rfl,rfl,rfl,hfit⟩;refine zW ?_;intros;refine zC ?_ ?_<;>intro c2
 ·obtain ⟨x,hx⟩:=Yf (l:=d.actions) (k:=k) Zi;refine zW ?_;intros;refine zI i5 hx (fun pp1 hp1=>?_);refine zW ?_;intros;refine zL hp1.Action_pre ?_;intro cs1 hcs1;obtain ⟨w1,w2,w3,w4,rfl,hR⟩:=Yu hcs1;refine zW ?_;intros;refine zc (neg_q hR) ?_;refine zW ?_;intros;cases hb:negF x.pre with
  | true=>
   refine zW ?_;intros;exact wR (h:=by exact ⟨rfl,false,rfl,Za⟩)
  | false=>
   refine zW ?_;intros;obtain ⟨P2,pn2,pc2,ic⟩:∃ A n c,Sl changeL fz A n c x.changes:=by
    obtain ⟨cs,hcs,_⟩:=hp1;obtain ⟨_,_,_,_,_,_,_,hRa⟩:=Xd hcs;obtain ⟨A,n,c,_,hc⟩:=hRa.changes;exact ⟨A,n,c,hc⟩
   have lc:=ic.len;have sc:=ic.short;refine Yn (fun q σ fz' H'=>∃ (k':Nat),k'<=pn2/\q=pn2 - k'/\σ=[(4,Zk k'),(3,Zk k),(1,Zp g0)]/\fz=fz'/\H'=[(g0,Zu #[Zy d.name,Zc A1 n1 b1,Zc A2 n2 b2,Zc A3 n3 b3,Zc A4 n4 b4,Zc A5 n5 b5,Zc A6 n6 b6] 28)]/\(∀ i,i<k'->∀ c,x.changes[i]?=some c->c.kind=1/\negF c.when_=false)) ⟨0,Z0 _,rfl,rfl,rfl,rfl,fun i hi=>absurd hi Zi⟩ Zw Zb ?_;rintro q σ fz' H' ⟨k',hkm',rfl,rfl,rfl,rfl,hfc⟩;refine zW ?_;intros;refine zI i5 hx (fun pp2 hp2=>?_);refine zW ?_;intros
   ((refine zG ?_);refine Wy hp2.Action_changes (fun P3 pn3 pc3 ic3=>?_));have l3:=ic3.len;have e3:pn3=pn2:=by omega
   subst e3;refine zW ?_;intros;refine zC ?_ ?_<;>intro c3
   ·obtain ⟨ch,hch⟩:=Yf (l:=x.changes) (k:=k') Zi;refine zW ?_;intros;refine zI i5 hx (fun pp3 hp3=>?_);refine zW ?_;intros
    ((refine zG ?_);refine Wy hp3.Action_changes (fun P4 pn4 pc4 ic4=>?_));have l4':=ic4.len;have e4:pn4=pn3:=by omega
    subst e4;refine zW ?_;intros;refine zI ic4 hch (fun pp4 hp4=>?_);refine zW ?_;intros
    ((refine zG ?_);refine Ydj T Zz Zz Zz hp4.Change_kind (fun hk4=>?_));refine zW ?_;intros;refine zC ?_ ?_<;>intro c4
    ·refine zW ?_;intros;exact wR (h:=by exact ⟨rfl,false,rfl,Za⟩)
    refine zW ?_;intros;refine zI i5 hx (fun pp5 hp5=>?_);refine zW ?_;intros
    ((refine zG ?_);refine Wy hp5.Action_changes (fun P5 pn5 pc5 ic5=>?_));have l5':=ic5.len;have e5:pn5=pn4:=by omega
    subst e5;refine zW ?_;intros;refine zI ic5 hch (fun pp6 hp6=>?_);refine zW ?_;intros;refine zL hp6.Change_when_ ?_;intro cs6 hcs6;obtain ⟨x1,x2,x3,x4,rfl,hR6⟩:=Yu hcs6;refine zW ?_;intros;refine zc (neg_q hR6) ?_;refine zW ?_;intros;cases hb6:negF ch.when_ with
    | true=>
     refine zW ?_;intros;exact wR (h:=by exact ⟨rfl,false,rfl,Za⟩)
    | false=>
     refine zW ?_;intros;exact wP (h:=by exact ⟨k'+1,by omega,rfl,rfl,rfl,rfl,YH hfc hch ⟨by omega,hb6⟩⟩)
   refine zW ?_;intros;exact Ws ⟨k+1,by omega,rfl,rfl,rfl,rfl,YH hfit hx ⟨hb,fun c hc=>by
    obtain ⟨i,hi⟩:=List.getElem?_of_mem hc;exact hfc i (by have:=(Zg hi).1;omega) c hi⟩⟩ Zi Zw Zb
 refine zW ?_;intros;exact ret1 rfl rfl Zb ⟨rfl,true,rfl,fun _=>⟨List.eq_nil_of_length_eq_zero Zi,List.eq_nil_of_length_eq_zero Zi,fun a ha=>by
  obtain ⟨i,hi⟩:=List.getElem?_of_mem ha;exact hfit i (by have:=(Zg hi).1;omega) a hi⟩⟩
end Go.Proofs.YtbdpaoikccabhaaGreatDoor
namespace Go.Proofs.YtbdpaoikccabhaaGreatDoor
variable {f:Formula} {E:EnvM} {K:Kn} {S:List Atom} {j k:Nat} {d:Domain} {p:Problem} {M:Mn} {W:Wd}
theorem YiL (h:negF f=false) {x:Formula} (hx:x∈f.kids):negF x=false:=by
 rw [Yc1,Bool.or_eq_false_iff,Bool.or_eq_false_iff] at h;cases hn:negF x with
 | false=>rfl
 | true=>
  have:=(Yc2 f.kids).2 ⟨x,hx,hn⟩;rw [h.1.1] at this;cases this
theorem Ypd (h:negF f=false):f.op≠kNot/\f.op≠kImply/\f.exprs.length=0:=by
 rw [Yc1,Bool.or_eq_false_iff,Bool.or_eq_false_iff,Bool.or_eq_false_iff] at h;exact ⟨Zf h.1.2.1,Zf h.1.2.2,by have:=Zf h.2;omega⟩
theorem YiK {op name:Bs} {args:List Bs} {ps:List Param} {ks:List Formula} (h1:op≠kNot) (h2:op≠kImply) (hk:∀ k∈ks,negF k=false):negF (.mk op name args ps [] ks)=false:=by
 rw [Yc1];show (negFL ks || (decide (op=kNot) || decide (op=kImply)) || decide (0<([]:List Lx.Expr).length))=false;rw [decide_eq_false h1,decide_eq_false h2];cases hn:negFL ks with
 | false=>rfl
 | true=>
  obtain ⟨x,hx,hb⟩:=(Yc2 ks).1 hn;rw [hk x hx] at hb;cases hb
theorem Yka:∀ (s:Nat) {f:Formula},SizeOf.sizeOf f<=s->NSh f->negF f=false->negF (normM true f)=false
 | 0,f,hs,_,_=>by cases f;simp at hs
 | s+1,f,hs,hf,h=>by
  obtain ⟨o1,o2,o3⟩:=Ypd h;have hz:negF Yds=false:=YiK (by decide+kernel) (by decide+kernel) (fun k hk=>by cases hk);have hkid:∀ x∈f.kids.map (normM true),negF x=false:=fun x hx=>by
   obtain ⟨g,hg,rfl⟩:=List.mem_map.1 hx;exact Yka s (by have:=Formula.kids_lt hg;omega) (hf.kid hg) (YiL h hg)
  have hjoin:∀ op,op≠kNot->op≠kImply->negF (joinF op (f.kids.map (normM true)))=false:=fun op h1 h2=>YiK h1 h2 fun k hk=>by
   obtain ⟨n,hn,hk⟩:=List.mem_flatMap.1 hk;split at hk
   ·exact YiL (hkid n hn) hk
   rw [List.mem_singleton] at hk;rw [hk];exact hkid n hn
  rw [WG,if_neg o1,if_neg o2];by_cases c3:f.op=kAnd
  ·rw [if_pos c3];exact hjoin _ (by decide+kernel) (by decide+kernel)
  rw [if_neg c3];by_cases c4:f.op=kOr
  ·rw [if_pos c4];exact hjoin _ (by decide+kernel) (by decide+kernel)
  rw [if_neg c4];by_cases c5:QuF f.op
  ·rw [if_pos c5,if_pos rfl];refine YiK o1 o2 fun k hk=>?_
   simp at hk;subst hk;cases hks:f.kids with
   | nil=>exact hz
   | cons g r=>exact hkid _ (by rw [hks];exact .head _)
  rw [if_neg c5];by_cases c6:f.op=kLt
  ·exact absurd (hf.cmp (.inl c6)) Zi
  by_cases c7:f.op=kLe
  ·exact absurd (hf.cmp (.inr (.inl c7))) Zi
  by_cases c8:f.op=kEq
  ·exact absurd (hf.cmp (.inr (.inr c8))) Zi
  rw [if_neg c6,if_neg c7,if_neg c8,if_pos rfl];exact h
theorem YhS (hw:fW f<=100000000) (h:negF f=false):negF (normV f)=false:=by
 unfold normV;split
 ·rename_i hv;exact Yka _ (Zs _) (Yo8 _ (Zs _) hv.1 Zi) h
 exact YiK (by decide+kernel) (by decide+kernel) (fun k hk=>by cases hk)
theorem Ycs {K:Kn} {M:Mn} (ho:∀ t,ofN M t=ofK K t) {al:Bool} {hw:List Bs->List Bs->Bool} {he:EnvM->Bool} (hh:∀ ns bs E,EqE ns bs E->he E=true->hw ns bs=true):
 ∀ (ps:List Param) {ns bs:List Bs} {E:EnvM},EqE ns bs E->quantV K al he ps E=true->quantW M al hw ps ns bs=true
 | [],_,_,_,h,g=>by rw [quantV] at g;rw [quantW];exact hh _ _ _ h g
 | p::ps,_,_,_,h,g=>by
  rw [quantV,<- ho] at g;rw [quantW];cases al with
  | true=>
   rw [if_pos rfl,List.all_eq_true] at g ⊢;exact fun o hi=>Ycs ho hh ps (h.cons _ _) (g o hi)
  | false=>
   rw [if_neg Zh,List.any_eq_true] at g ⊢;obtain ⟨o,hi,g⟩:=g;exact ⟨o,hi,Ycs ho hh ps (h.cons _ _) g⟩
theorem Yk7 {K:Kn} {M:Mn} {S:List Atom} {W:Wd} (ho:∀ t,ofN M t=ofK K t) (hI:∀ a∈S,a∈W.atoms):∀ (s:Nat) {f:Formula} {ns bs:List Bs} {E:EnvM},SizeOf.sizeOf f<=s->WSh f->negF f=false->EqE ns bs E->holdsM K S E f=true->holdsW M W ns bs f=true
 | 0,f,_,_,_,hs,_,_,_,_=>by cases f;simp at hs
 | s+1,f,ns,bs,E,hs,hf,hn,hE,h=>by
  obtain ⟨o1,_,o3⟩:=Ypd hn;rw [YS] at h;rw [Yej];by_cases c1:f.op=kAtom
  ·rw [if_pos c1] at h ⊢;rw [hE.bnd] at h;exact decide_eq_true (hI _ (Zt h))
  rw [if_neg c1] at h ⊢;by_cases c2:f.op=kSame
  ·rw [if_pos c2] at h ⊢;rw [hE,hE];exact h
  rw [if_neg c2,if_neg o1] at h ⊢;have hkid:∀ g∈f.kids,∀ {ns bs E},EqE ns bs E->holdsM K S E g=true->holdsW M W ns bs g=true:=fun g hg _ _ _ hE hh=>
   Yk7 ho hI s (by have:=Formula.kids_lt hg;omega) (hf.kid hg) (YiL hn hg) hE hh
  by_cases c4:f.op=kAnd
  ·rw [if_pos c4] at h ⊢;rw [Yhg] at h;rw [Yf5];simp only [Bool.not_eq_true',decide_eq_false_iff_not] at h ⊢;exact fun ⟨g,hg,hn⟩=>h ⟨g,hg,fun hh=>hn (hkid g hg hE hh)⟩
  rw [if_neg c4] at h ⊢;by_cases c5:f.op=kOr
  ·rw [if_pos c5] at h ⊢;rw [Yhf] at h;rw [Yf4];obtain ⟨g,hg,hn⟩:=Zt h;exact decide_eq_true ⟨g,hg,hkid g hg hE hn⟩
  rw [if_neg c5] at h ⊢;by_cases c6:QuF f.op
  ·rw [if_pos c6] at h ⊢;refine Ycs ho (fun ns bs E hE hw=>?_) _ hE h;cases hk:f.kids with
   | nil=>rw [headW]
   | cons g r=>
    rw [hk,headH] at hw;rw [headW];exact hkid g (by rw [hk];simp) hE hw
  rcases hf.kinds with w | w | w | w | w | w | w
  ·exact absurd w c1
  ·exact absurd w c2
  ·exact absurd w o1
  ·exact absurd w c4
  ·exact absurd w c5
  ·exact absurd w c6
  exact absurd w.1 Zi
def CptS (l:List Atom):Prop:=l.Nodup/\Ydd l
theorem YkH {l:List Atom} (h:Ydd l):∀ i,(cpt l i).Nodup
 | 0=>List.nodup_nil
 | i+1=>by
  have ih:=YkH h i;rw [cpt];split
  ·exact ih
  rename_i x hx;split
  ·exact ih
  rename_i hc;refine List.nodup_append.2 ⟨ih,by simp,fun y hy z hz e=>?_⟩;simp at hz;subst hz;subst e;obtain ⟨j,hj⟩:=List.getElem?_of_mem ((YlJ i).1 hy);have hji:j<i:=by
   have:=(Zg hj).1;rw [List.length_take] at this;omega
  rw [List.getElem?_take_of_lt hji] at hj;have hlt:=(Zg hx).1;obtain ⟨w,hw⟩:=Yf (l:=l) (k:=i - 1) Zi;have h1:=h (i - 1) i w y Zi hw hx;have h2:¬cmpA w y<0:=by
   by_cases e:j=i - 1
   ·subst e;rw [hj] at hw;injection hw with hw;subst hw;exact h1
   exact h j (i - 1) y w Zi hj hw
  have h3:¬0<cmpA w y:=fun h3=>h1 ((ordA.anti y w).2 h3)
  have e:=ordA.eq0 w y Zi;subst e;exact hc ⟨by omega,hw⟩
theorem Yqe {l0:List Atom} (h:Ydd l0):CptS (cptM l0):=by
 refine ⟨YkH h _,?_⟩;have hs:(cptM l0).Sublist l0:=by have:=Yqd l0 l0.length;rwa [List.take_length] at this
 have hp:l0.Pairwise (fun a b=>¬cmpA b a<0):=List.pairwise_iff_getElem.2 fun i j hi hj hij=>h i j _ _ hij (List.getElem?_eq_getElem hi) (List.getElem?_eq_getElem hj)
 intro i j a b hij ha hb;obtain ⟨hi,rfl⟩:=Zg ha;obtain ⟨hj,rfl⟩:=Zg hb;exact List.pairwise_iff_getElem.1 (hp.sublist hs) i j hi hj hij
theorem CptS.eq {l r:List Atom} (hl:CptS l) (hr:CptS r) (h:∀ a,a∈l↔a∈r):l=r:=by
 have hp:l.Perm r:=(List.perm_ext_iff_of_nodup hl.1 hr.1).2 h;refine hp.eq_of_pairwise (le:=fun a b=>¬cmpA b a<0) (fun a b _ _ h1 h2=>?_) (List.pairwise_iff_getElem.2 fun i j hi hj hij=>hl.2 i j _ _ hij (List.getElem?_eq_getElem hi) (List.getElem?_eq_getElem hj)) (List.pairwise_iff_getElem.2 fun i j hi hj hij=>hr.2 i j _ _ hij (List.getElem?_eq_getElem hi) (List.getElem?_eq_getElem hj));have h3:¬0<cmpA b a:=fun h3=>h2 ((ordA.anti a b).2 h3)
 exact (ordA.eq0 b a Zi).symm
theorem CptS.same {l r:List Atom} (hl:CptS l) (hr:CptS r) (h:∀ a∈l,a∈r) (hn:r.length<=l.length):l=r:=
 hl.eq hr fun a=>⟨h a,fun ha=>Classical.byContradiction fun hn2=>by
  have:=Ybq (l:=a::l) (S:=r) (List.nodup_cons.2 ⟨hn2,hl.1⟩) (fun x hx=>by
   rcases List.mem_cons.1 hx with rfl | hx
   ·exact ha
   exact h x hx)
  rw [List.length_cons] at this;omega⟩
theorem Yh9 {K:Kn} {M:Mn} (ho:∀ t,ofN M t=ofK K t) {c:Change} {S:List Atom}:∀ {ps:List Param} {E:EnvM},(∀ l:List Bs,Ydy M ps l->holdsM K S (extE E ps l) c.when_=true->bndA (extE E ps l) c.name c.args∈S)->(addM K c ps E S).2=false
 | [],E,h=>by
  rw [addM];split
  ·rename_i hn;exact absurd (h [] trivial hn.2) hn.1
  rfl
 | p::ps,E,h=>by
  have h1:∀ o∈ofK K p.typ,(addM K c ps (setE E p.name o) S).2=false:=fun o hi=>Yh9 ho fun l hl=>h (o::l) ⟨by rw [ho];exact hi,hl⟩
  have h2:(addM K c (p::ps) E S)=(S,false):=by
   rw [addM];refine Yem (P:=fun r:List Atom × Bool=>r=(S,false)) rfl (fun r o hi hr=>?_);subst hr;split
   ·rfl
   have e:=h1 o hi;rw [e,(Ych K c ps (setE E p.name o) S).2.2 e];rfl
  rw [h2]
theorem YlT {l:List Change} (h:∀ c∈l,(addM K c c.params E S).2=false):(X8 K l E S).2=false:=by
 have h2:X8 K l E S=(S,false):=by
  rw [X8];refine Yem (P:=fun r:List Atom × Bool=>r=(S,false)) rfl (fun r c hc hr=>?_);subst hr;have e:=h c hc;show ((addM K c c.params E S).1,(addM K c c.params E S).2 || false)=_;rw [e,(Ych K c c.params E S).2.2 e];rfl
 rw [h2]
theorem YhE {K:Kn} {s:Schema}:∀ (k:Nat) {st:RowS},st.bs.length=s.arguments.length->st.ds.length=s.arguments.length->st.n=false->(∀ (j:Nat) (a:List Bs),s.arguments[j]?=some a->(Xq K s a st.S (st.bs[j]?.getD false) (st.ds[j]?.getD false)).n=false)->(rowN K s k st).n=false
 | 0,_,_,_,h,_=>h
 | k+1,st,hb,hd,h0,h=>by
  have ih:=YhE k hb hd h0 h;cases ha:s.arguments[k]? with
  | none=>rw [rowN,ha];exact ih
  | some a=>
   obtain ⟨_,_,_,_,_,g6⟩:=YcT K s k st hb hd;rw [Yd1 ha,g6 ih];show ((Xq K s a st.S (st.bs[k]?.getD false) (st.ds[k]?.getD false)).n || st.n)=false;rw [h k a ha,h0];rfl
theorem YhG {K:Kn} {l:List Schema}:∀ (k:Nat) {w:RndS},FitR l w.B->FitR l w.D->w.n=false->(∀ (i j:Nat) (s:Schema) (a:List Bs),l[i]?=some s->s.arguments[j]?=some a->(Xq K s a w.S ((w.B[i]?.getD [])[j]?.getD false) ((w.D[i]?.getD [])[j]?.getD false)).n=false)->(rndN K l k w).n=false
 | 0,_,_,_,h,_=>h
 | k+1,w,hB,hD,h0,h=>by
  have ih:=YhG k hB hD h0 h;cases hs:l[k]? with
  | none=>rw [rndN,hs];exact ih
  | some s=>
   obtain ⟨_,_,_,_,_,g6⟩:=YcU K l k w hB hD;have hlt:=(Zg hs).1;obtain ⟨b,hb⟩:=Yf (l:=w.B) (k:=k) (by rw [hB.1];exact hlt);obtain ⟨d,hd⟩:=Yf (l:=w.D) (k:=k) (by rw [hD.1];exact hlt);rw [Yd2 hs,g6 ih];exact YhE s.arguments.length (st:=⟨w.S,w.B[k]?.getD [],w.D[k]?.getD [],w.n⟩) (by rw [hb];exact hB.2 k s b hs hb) (by rw [hd];exact hD.2 k s d hs hd) h0 (fun j a ha=>h k j s a hs ha)
def marks (K:Kn) (A:List Atom) (g:Schema->Formula) (l:List Schema):List (List Bool):=l.map fun s=>s.arguments.map fun a=>holdsM K A (envA s a) (g s)
theorem Yb6 {A:List Atom} {g:Schema->Formula} {l:List Schema}:FitR l (marks K A g l):=by
 refine ⟨by unfold marks;rw [List.length_map],fun i s b hs hb=>?_⟩;unfold marks at hb;rw [List.getElem?_map,hs] at hb;injection hb with hb
 subst hb;rw [List.length_map]
theorem Ymw {A:List Atom} {g:Schema->Formula} {l:List Schema} {i:Nat} {s:Schema} {a:List Bs} (hs:l[i]?=some s) (ha:s.arguments[j]?=some a):((marks K A g l)[i]?.getD [])[j]?.getD false=holdsM K A (envA s a) (g s):=by
 unfold marks;rw [List.getElem?_map,hs];show (s.arguments.map _)[j]?.getD false=_;rw [List.getElem?_map,ha];rfl
def ClsS (d:Domain) (p:Problem) (A:List Atom) (s:StepM):Prop:=∀ a,TypOk (mnM d p) s a->holdsM (knM d p) A (envA (YaF (knM d p) (schA a)) s.2) (normV a.pre)=true->(X8 (knM d p) (normC a.changes) (envA (YaF (knM d p) (schA a)) s.2) A).2=false
theorem Yp7 (hc:(Y4 d p).2=0) {s:StepM} {a:Action} (h:TypOk (mnM d p) s a):EqE (nmA a) s.2 (envA (YaF (knM d p) (schA a)) s.2):=by
 have:=EqE.ext (ns:=[]) (bs:=[]) (E:=fun _=>none) h.len (YlV hc h.mem).1 (fun x=>rfl);rw [List.append_nil,List.append_nil] at this;exact this
theorem Yo4 (hp:PosD d) {a:Action} (ha:a∈d.actions):numL a.changes=[]:=
 List.filter_eq_nil_iff.2 fun c hc hd=>by
  have:=((hp.acts a ha).2 c hc).1;have h:=Zt hd;unfold numC at h;omega
theorem pos_fire (hp:PosD d) {a:Action} (ha:a∈d.actions) {as_:List Bs}:fireM M W a as_ 2=[]:=by
 refine List.eq_nil_iff_forall_not_mem.2 fun z hz=>?_
 obtain ⟨c,hc,hk,_⟩:=Yi3 hz;have:=((hp.acts a ha).2 c hc).1;omega
theorem cls_no (hc:(Y4 d p).2=0) (hp:PosD d) (hF:∀ a∈d.actions,ActF a) {s:StepM} (h:∀ a,¬AppOk (mnM d p) W s a):ClsS d p W.atoms s:=fun a ha hh=>by
 have hm:=ha.mem;refine absurd ⟨ha,?_,?_⟩ (h a)
 ·exact Yk7 (fun t=>rfl) (fun a h=>h) _ (Zs _) (hF a hm).c.pre.sh (YhS (hF a hm).c.pre.w (hp.acts a hm).1) (Yp7 hc ha) hh
 unfold ValC;rw [Yo4 hp hm];exact ⟨List.nodup_nil,fun c hc=>by cases hc⟩
theorem Yor {M:Mn}:∀ {ps:List Param} {l:List Bs},Ydy M ps l->¬∃ p∈ps,ofN M p.typ=[]
 | [],[],_,⟨_,h,_⟩=>by cases h
 | [],_::_,h,_=>h.elim
 | _::_,[],h,_=>h.elim
 | p::ps,x::l,h,⟨q,hq,e⟩=>by
  rcases List.mem_cons.1 hq with rfl | hq
  ·have:=h.1;rw [e] at this;cases this
  exact Yor h.2 ⟨q,hq,e⟩
theorem Ype {ps:List Param} {l:List Bs} (h:Ydy M ps l):l∈tupM M ps:=by
 unfold tupM;rw [if_neg (Yor h)];exact Yeb.2 ⟨[],by simp,l,h,rfl⟩
theorem cls_yes (hc:(Y4 d p).2=0) (hp:PosD d) (hF:∀ a∈d.actions,ActF a) {W':Wd} {s:StepM} {a:Action} (ha:AppOk (mnM d p) W s a) (hw:StepW (mnM d p) W s a W') (e:W.atoms=W'.atoms):ClsS d p W'.atoms s:=fun b hb _=>by
 obtain ⟨k1,h1,h2,h3⟩:=ha.typ.fd;obtain ⟨k2,g1,g2,g3⟩:=hb.fd;obtain rfl:=YgX (p:=fun y:Action=>y.name=s.1) h1 h2 h3 g1 g2 g3;have hm:=hb.mem;refine YlT fun c' hc'=>?_
 obtain ⟨c,hcm,rfl⟩:=List.mem_map.1 hc';obtain ⟨hcm,hk⟩:=List.mem_filter.1 hcm;have hk:=Zt hk;have hfc:=(hF a hm).f c hcm;refine Yh9 (M:=mnM d p) (fun t=>rfl) fun l hl hh=>?_
 have hE2:=EqE.ext (ps:=c.params) hl.len ((YlV hc hm).2 c hcm).1 (Yp7 hc hb);have hh2:holdsW (mnM d p) W (parN c.params++nmA a) (l++s.2) (normV c.when_)=true:=
  Yk7 (fun t=>rfl) (fun x hx=>by rw [e];exact hx) _ (Zs _) hfc.w.sh (YhS hfc.w.w ((hp.acts a hm).2 c hcm).2) hE2 hh
 rw [hE2.bnd];refine (hw.mem _).2 (.inr (List.mem_flatMap.2 ⟨c,hcm,?_⟩));unfold Yfd;rw [if_pos hk];exact List.mem_map.2 ⟨l,List.mem_filter.2 ⟨Ype hl,hh2⟩,rfl⟩
theorem YoQ:∀ {l:List Param} {seen:List Bs},repM seen l=none->(parN l).Nodup/\∀ x∈l,x.name ∉ seen
 | [],_,_=>⟨List.nodup_nil,fun x hx=>by cases hx⟩
 | x::r,seen,h=>by
  rw [repM] at h;split at h
  ·cases h
  rename_i hn;obtain ⟨h1,h2⟩:=YoQ h;refine ⟨List.nodup_cons.2 ⟨fun hx=>?_,h1⟩,fun y hy=>?_⟩
  ·obtain ⟨y,hy,e⟩:=List.mem_map.1 hx;exact h2 y hy (by simp [e])
  rcases List.mem_cons.1 hy with rfl | hy
  ·exact hn
  exact fun hs=>h2 y hy (by simp [hs])
theorem YqA (hc:(Y4 d p).2=0):(d.actions.map (·.name)).Nodup:=by
 have h0:(stepM d (objsM d p) p 0).2=0:=(Yh5 hc).step 0 Zh;have hn:YaX d (objsM d p)=none:=by
  cases h:YaX d (objsM d p) with
  | none=>rfl
  | some x=>rw [stepM,h] at h0;exact absurd (show (4:Int)=0 from h0) Zh
 have hn2:repM [] (Yfv d)=none:=by
  unfold YaX at hn;split at hn
  ·cases hn
  split at hn
  ·cases hn
  exact hn
 have h:=(YoQ hn2).1;unfold Yfv parN at h;rw [List.map_append,List.map_map,List.map_map] at h;exact (List.nodup_append.1 h).1
theorem Yos {M:Mn}:∀ {ps:List Param} {l:List Bs},Ydy M ps l->∀ (i:Nat) (x:Bs) (p:Param),l[i]?=some x->ps[i]?=some p->x∈ofN M p.typ
 | [],[],_,i,x,p,h,_=>by simp at h
 | [],_::_,h,_,_,_,_,_=>h.elim
 | _::_,[],h,_,_,_,_,_=>h.elim
 | q::ps,y::l,h,0,x,p,hx,hp=>by
  injection hx with hx;injection hp with hp
  subst hx;subst hp;exact h.1
 | q::ps,y::l,h,i+1,x,p,hx,hp=>Yos h.2 i x p (by simpa using hx) (by simpa using hp)
theorem typ_inst (hc:(Y4 d p).2=0) {a:Action} (hk:d.actions[k]?=some a) {l:List Bs} (hl:Ydy (mnM d p) a.params l):TypOk (mnM d p) (a.name,l) a:=by
 refine ⟨⟨k,hk,rfl,fun j hj y hy e=>?_⟩,hl.len,Yos hl⟩;have hn:=List.pairwise_iff_getElem.1 (List.nodup_iff_pairwise_ne.1 (YqA hc));obtain ⟨h1,h2⟩:=Zg hk;obtain ⟨h3,h4⟩:=Zg hy;refine hn j k (by rw [List.length_map];exact h3) (by rw [List.length_map];exact h1) hj ?_;rw [List.getElem_map,List.getElem_map];exact (congrArg Action.name h4).trans (e.trans (congrArg Action.name h2).symm)
theorem YpD {s:Schema} {a:List Bs} (he:s.early=[]) (hst:s.start=s.all) (h:holdsM K S (envA s a) s.all=true->(X8 K s.late (envA s a) S).2=false):(Xq K s a S (holdsM K S (envA s a) s.start) (holdsM K S (envA s a) s.all)).n=false:=by
 have e0:X8 K [] (envA s a) S=(S,false):=rfl;rw [hst];cases hx:holdsM K S (envA s a) s.all with
 | true=>simp only [Xq,he,hst,hx,e0,Bool.or_true,Bool.true_or,Bool.and_true,if_true,h hx,Bool.not_true,Bool.false_and,Bool.or_false,Bool.or_self]
 | false=>simp [Xq,he,hst,hx]
theorem pos_all (hc:(Y4 d p).2=0) (hf:Fit14 d p) (hp:PosD d) {A:List Atom} (hlen:A.length<=4096) (hcls:∀ s∈YfK (mnM d p) d.actions,ClsS d p A s) {S0:List Atom} (hS0:S0.Nodup) (hsub:∀ a∈S0,a∈A):∀ a∈(expM (knM d p) d S0).S,a∈A:=by
 have hos:(mnM d p).os.length<=6:=by show (d.constants++p.objects).length<=6;rw [List.length_append];exact hf.os
 generalize hK:knM d p=K at*;have hL:schL K d=(d.actions.map schA).map (YaF K):=by unfold schL schB;rw [hp.ds,List.map_nil,List.append_nil]
 have hfix:Xu K (schL K d) A (marks K A (·.start) (schL K d)) (marks K A (·.all) (schL K d))=⟨A,marks K A (·.start) (schL K d),marks K A (·.all) (schL K d),false⟩:=
  (YcU K (schL K d) _ ⟨A,marks K A (·.start) (schL K d),marks K A (·.all) (schL K d),false⟩ Yb6 Yb6).2.2.2.2.2 (YhG _ Yb6 Yb6 rfl fun i j s t hs ht=>by
   show (Xq K s t A (((marks K A (·.start) (schL K d))[i]?.getD [])[j]?.getD false) (((marks K A (·.all) (schL K d))[i]?.getD [])[j]?.getD false)).n=false;rw [Ymw hs ht,Ymw hs ht];rw [hL,List.getElem?_map,List.getElem?_map] at hs;cases ha:d.actions[i]? with
   | none=>rw [ha] at hs;cases hs
   | some a=>
    rw [ha] at hs;injection hs with hs
    subst hs;have hm:=Zm ha;have htc:t∈YcF K a.params 4096:=Zm ht;have ht2:Ydy (mnM d p) a.params t:=by
     unfold YcF at htc;rw [Yje (M:=mnM d p) (fun t=>by rw [<- hK];rfl) hos a.params [[]] 0 Zh (by have:=(hf.a a hm).params;omega)] at htc;obtain ⟨l0,h0,t',ht',rfl⟩:=Yeb.1 htc;simp at h0;subst h0;exact ht'
    have hs1:((a.name,t):StepM)∈YfK (mnM d p) d.actions:=List.mem_flatMap.2 ⟨a,hm,List.mem_map.2 ⟨t,Ype ht2,rfl⟩⟩;refine YpD rfl rfl fun hh=>?_
    have:=hcls _ hs1 a (typ_inst hc ha ht2);rw [hK] at this;exact this hh)
 have hw:Wi A (expM K d S0).S:=Yp3 hlen Yb6 Yb6 hfix _ (w:=⟨S0,exN0 (schL K d),exN0 (schL K d),false⟩) ⟨hS0,hsub⟩ Yi7 Yi7;exact hw.2
theorem exact_eq (hc:(Y4 d p).2=0) (hf:Fit14 d p) (hp:PosD d) {S0 A l:List Atom} (hS0:YnY S0 (YfL p.init)) (he:expE (knM d p) d S0=0) (hA:CptS A) (hl:l.Perm (expM (knM d p) d S0).S) (hls:Ydd l) (hin:∀ a∈p.init,a∈A) (hsub:∀ a∈A,a∈(expM (knM d p) d S0).S)
 (hcls:∀ s∈YfK (mnM d p) d.actions,ClsS d p A s):A=l:=by
 obtain ⟨e1,e2,e3,e4,e5,e6⟩:=Yp2 he;have hw:Wi (expM (knM d p) d S0).S (expM (knM d p) d S0).S:=Yp3 e2 e4 e5 e6 _ (w:=⟨S0,exN0 (schL (knM d p) d),exN0 (schL (knM d p) d),false⟩) ⟨hS0.1,e3⟩ Yi7 Yi7;have hlen:A.length<=4096:=Nat.le_trans (Ybq hA.1 hsub) e2;have hall:=pos_all hc hf hp hlen hcls hS0.1 (fun a ha=>hin a (Yei.1 ((hS0.2 a).1 ha)));exact hA.eq ⟨hl.nodup_iff.2 hw.1,hls⟩ fun a=>⟨fun h=>hl.mem_iff.2 (hsub a h),fun h=>hall a (hl.mem_iff.1 h)⟩
end Go.Proofs.YtbdpaoikccabhaaGreatDoor
namespace Go.Proofs.YtbdpaoikccabhaaGreatDoor
variable {a:Atom} {fz:FZ} {va vb u1 u2 u3 u4 u5 u6 u7 v1 v2 v3 v4 v5 v6:Value} {A B:Option Addr} {n:Nat} {d:Domain} {p:Problem} {S:List Atom} {W:Wd}
def cmpT:List Bs->List Bs->Int
 | [],l=> -(l.length:Int)
 | x::xs,[]=>((x::xs).length:Int)
 | x::xs,y::ys=>if ltB x y=true then -1 else if x=y then cmpT xs ys else 1
def cmpR (a b:Atom):Int:=if a.name=b.name then cmpT a.args b.args else if ltB a.name b.name=true then -1 else 1
theorem ltB_irr (a:Bs):ltB a a=false:=by
 cases h:ltB a a with
 | false=>rfl
 | true=>
  have:∀ l:List UInt8,Op.bytesLess l l=false:=fun l=>by
   induction l with
   | nil=>rfl
   | cons x r ih=>simp [Op.bytesLess,ih]
  unfold ltB at h;rw [this] at h;cases h
theorem YkK:∀ (l l':List Bs),cmpT l l'=0↔l=l'
 | [],[]=>by simp [cmpT]
 | [],_::_=>by simp [cmpT];omega
 | _::_,[]=>by simp [cmpT];omega
 | x::xs,y::ys=>by
  rw [cmpT];by_cases h:x=y
  ·subst h;rw [if_neg (by rw [ltB_irr];decide),if_pos rfl,YkK xs ys];simp
  rw [if_neg h];constructor
  ·intro h1;split at h1<;>simp at h1
  intro h1;exact absurd (List.cons.inj h1).1 h
theorem YkL (a b:Atom):cmpR a b=0↔a=b:=by
 unfold cmpR;by_cases h:a.name=b.name
 ·rw [if_pos h,YkK];cases a;cases b;simp at h ⊢;simp [h]
 rw [if_neg h];constructor
 ·intro h1;split at h1<;>simp at h1
 intro h1;exact absurd (by rw [h1]) h
theorem rcmp_q {b:Atom} (ha:AtomR fz a va) (hb:AtomR fz b vb):QFn prog 26 [.agg #[Zy a.name,va],.agg #[Zy b.name,vb]] fz (Zk (cmpR a b)):=by
 obtain ⟨A,n,c,rfl,ia⟩:=ha.args;obtain ⟨B,m,d,rfl,ib⟩:=hb.args;have la:=ia.len;have lb:=ib.len;have sa:=ia.short;have sb:=ib.short;refine qF Tryz.func26 Tryz.ntmps26 (fun w0=>?_);refine pX (fun g0=>?_);refine pY (fun g1=>?_);refine wC ?_ ?_<;>intro c1
 ·refine wG ?_;refine YeS (fun h1=>?_) (fun h1=>?_)
  ·exact wR (h:=by rw [cmpR,if_neg c1,if_pos h1])
  exact wR (h:=by rw [cmpR,if_neg c1,if_neg (by rw [h1];decide)])
 have hv:cmpR a b=cmpT a.args b.args:=by rw [cmpR,if_pos c1]
 refine zW ?_;refine WD n (fun k=>[(5,Zk k),(3,Zp g1),(2,Zp g0)]) [(g1,Zu #[Zy b.name,Zc B m d] 59),(g0,Zu #[Zy a.name,Zc A n c] 59)] (fun k=>k<=m/\cmpT (a.args.drop k) (b.args.drop k)=cmpT a.args b.args) ⟨Z0 _,rfl⟩ ?_;intro k hk hh;obtain ⟨hkm,hcm⟩:=hh;refine wC ?_ ?_<;>intro c2
 ·obtain ⟨x,hx⟩:=Yf (l:=a.args) (k:=k) Zi;have ex:a.args.drop k=x::a.args.drop (k+1):=by
   obtain ⟨h1,h2⟩:=Zg hx;rw [<- h2];exact List.drop_eq_getElem_cons h1
  refine wC ?_ ?_<;>intro c3
  ·obtain ⟨y,hy⟩:=Yf (l:=b.args) (k:=k) Zi;have ey:b.args.drop k=y::b.args.drop (k+1):=by
    obtain ⟨h1,h2⟩:=Zg hy;rw [<- h2];exact List.drop_eq_getElem_cons h1
   rw [ex,ey] at hcm;refine wI ia hx (fun p1 hp1=>?_);refine zH hp1 (fun hs1=>?_);refine wI ib hy (fun p2 hp2=>?_);refine zH hp2 (fun hs2=>?_);refine wG ?_;refine YeS (fun h1=>?_) (fun h1=>?_)
   ·exact wR (h:=by rw [hv,<- hcm,cmpT,if_pos h1])
   refine wI ia hx (fun p3 hp3=>?_);refine zH hp3 (fun hs3=>?_);refine wI ib hy (fun p4 hp4=>?_);refine zH hp4 (fun hs4=>?_);refine wG ?_;refine YhM (fun h2 h3=>?_) (fun h2=>?_)
   ·exact wR (h:=by rw [hv,<- hcm,cmpT,if_neg (by rw [h1];decide),if_neg h3])
   have h3:x=y:=h2.resolve_left (by rw [h1];decide);refine zW ?_;refine Ws ⟨k+1,by omega,rfl,rfl,rfl,rfl,by omega,?_⟩ Zi Zw Zb;rw [<- hcm,cmpT,if_neg (by rw [h1];decide),if_pos h3]
  have ey:b.args.drop k=[]:=List.drop_eq_nil_of_le Zi;have hkm2:k=m:=by omega
  rw [ex,ey,cmpT,<- ex,List.length_drop] at hcm;exact wR (h:=by rw [hv,<- hcm];exact congrArg (Value.int .i64) Zi)
 have hk2:k=n:=by omega
 subst hk2;rw [List.drop_eq_nil_of_le Zi,cmpT,List.length_drop] at hcm;exact wR (h:=by rw [hv,<- hcm];exact congrArg (Value.int .i64) Zi)
theorem Yle {c m d:Nat} {l r:List Atom} (hl:Sl atomL fz A n c l) (hr:Sl atomL fz B m d r):QFn prog 11 [Zc A n c,Zc B m d] fz (Zo (decide (l=r))):=by
 have l1:=hl.len;have s1:=hl.short;have l2:=hr.len;have s2:=hr.short;refine qF Tryz.func11 Tryz.ntmps11 (fun w0=>?_);refine zW ?_;intros;refine zC ?_ ?_<;>intro c1
 ·refine zW ?_;intros;exact wR (h:=by exact Yj (fun e=>by rw [e] at l1;omega))
 refine zW ?_;intros;refine WD n (fun k=>[(5,Zk k),(1,Zc B m d),(0,Zc A n c)]) [] (fun k=>l.take k=r.take k) rfl ?_;intro k hk hh;refine zW ?_;intros;refine zC ?_ ?_<;>intro c2
 ·obtain ⟨x,hx⟩:=Yf (l:=l) (k:=k) Zi;obtain ⟨y,hy⟩:=Yf (l:=r) (k:=k) Zi;refine zW ?_;intros;refine zI hl hx (fun p1 hp1=>?_);refine zL hp1 ?_;intro cs hcs;obtain ⟨vx,rfl,hR⟩:=Xy hcs;refine zW ?_;intros;refine zI hr hy (fun p2 hp2=>?_);refine zL hp2 ?_;intro cs2 hcs2;obtain ⟨vy,rfl,hR2⟩:=Xy hcs2;refine zW ?_;intros;refine zc (rcmp_q hR hR2) ?_;refine zW ?_;intros;refine zC ?_ ?_<;>intro c3
  ·refine zW ?_;intros;exact wR (h:=by exact Yj (fun e=>by subst e;rw [hx] at hy;cases hy;exact c3 ((YkL _ _).2 rfl)))
  have e:x=y:=(YkL _ _).1 Zi;refine zW ?_;intros;refine Ws ⟨k+1,by omega,rfl,rfl,rfl,rfl,?_⟩ Zi Zw Zb;rw [List.take_add_one,List.take_add_one,hx,hy,hh,e]
 rw [Zl Zi,Zl Zi] at hh;refine zW ?_;intros;exact wR (h:=by exact Ys hh)
theorem Yqt {S0:List Atom} (h:Yah d p S0=0):(Y4 d p).2=0/\expE (knM d p) d S0=0:=by
 unfold Yah at h;split at h
 ·rename_i h1;exact absurd h h1
 rename_i h1;exact ⟨Classical.not_not.1 h1,h⟩
structure LawW (d:Domain) (p:Problem) (S:List Atom) (W:Wd):Prop where
 c:CptS W.atoms
 b:WB 1300000 W
 i:InvW (knM d p) S W
 init:∀ a∈p.init,a∈W.atoms
theorem LawW.len (h:LawW d p S W) (hS:S.length<=4096):W.atoms.length<=4096:=Nat.le_trans (Ybq h.c.1 h.i.sub) hS
theorem LawW.step (hc:(Y4 d p).2=0) (hf:Fit14 d p) (hap:Apt d p) (hp:PosD d) {S0:List Atom} (he:expE (knM d p) d S0=0) {W':Wd} {s:StepM} {a:Action} (h:LawW d p (expM (knM d p) d S0).S W) (ha:AppOk (mnM d p) W s a) (hw:StepW (mnM d p) W s a W') (hb:WB (1300000+3000) W'):LawW d p (expM (knM d p) d S0).S W'/\∀ x∈W.atoms,x∈W'.atoms:=by
 obtain ⟨e1,e2,e3,e4,e5,e6⟩:=Yp2 he;have hm:=ha.typ.mem;have hi:=(inv_step hc hf hap e1 e2 e4 e5 e6 h.i ha hw).1;have hsub:∀ x∈W.atoms,x∈W'.atoms:=fun x hx=>(hw.mem x).2 (.inl ⟨hx,by rw [pos_fire hp hm];simp⟩)
 obtain ⟨l0,hl0,hW'⟩:=hw.srt;have hcs:CptS W'.atoms:=by rw [hW'];exact Yqe hl0
 have hl:W'.atoms.length<=4096:=Nat.le_trans (Ybq hcs.1 hi.sub) e2;have hnv:=hw.nv;rw [Yo4 hp hm] at hnv;exact ⟨⟨hcs,⟨by omega,by have:=h.b.nv;simp at hnv;omega,hb.a,hb.v⟩,hi,fun x hx=>hsub x (h.init x hx)⟩,hsub⟩
theorem lexact_q (hM:MaxF fz) (hD:DomainR fz d v1 v2 v3 v4 v5 v6) (hP:ProblemR fz p u1 u2 u3 u4 u5 u6 u7) (hd:domW d<=1300000) (hp:prbW p<=1300000)
 (hw:∀ fz:FZ,MaxF fz->QFn prog 5 [] fz (Zo true)):
 QFn prog 3 [ZD d v1 v2 v3 v4 v5 v6,ZP p u1 u2 u3 u4 u5 u6 u7] fz (Zo true):=by
 have hD0:=hD;have hP0:=hP;have hS:=Yqk hd hp;have hA:=fun hc=>apt_of (d:=d) (p:=p) hc hd hp
 obtain ⟨⟨A1,n1,b1,rfl,i1⟩,⟨A2,n2,b2,rfl,i2⟩,⟨A3,n3,b3,rfl,i3⟩,⟨A4,n4,b4,rfl,i4⟩,⟨A5,n5,b5,rfl,i5⟩,⟨A6,n6,b6,rfl,i6⟩⟩:=hD.sls;obtain ⟨⟨B1,m1,d1,rfl,j1⟩,⟨B2,m2,d2,rfl,j2⟩,⟨B3,m3,d3,rfl,j3⟩⟩:=hP.sls;obtain ⟨⟨B4,m4,d4,rfl,_⟩,⟨B5,m5,d5,rfl,_⟩,⟨B6,m6,d6,rfl,_⟩,⟨B7,m7,d7,rfl,_⟩⟩:=hP.goal.sls;refine qF Tryz.func3 Tryz.ntmps3 (fun w0=>?_);refine pX (fun g2=>?_);refine pY (fun g3=>?_);refine zW ?_;intros;refine wK (q:=Ypo hD0 hP0) (h:=fun v1 fz1 H1 hle1 hR1=>?_);obtain ⟨rfl,b,rfl,hfit⟩:=hR1;have hM1:MaxF fz1:=hM.mono hle1;cases b with
 | true=>
  refine zW ?_;intros
  ((refine zG ?_);refine Yt (hw _ hM1) ?_);refine zW ?_;intros;exact zR (h:=rfl)
 | false=>
  have hfit:=hfit rfl;have h6:(objsM d p).length<=6:=by unfold objsM;rw [List.length_append];exact hfit.os
  have h3:∀ a∈d.actions,a.params.length<=3:=fun a ha=>(hfit.a a ha).params
  have hF:=fun hc=>actsF_of (d:=d) (p:=p) hc hfit Zi
  have hWB:=wb_of hp;refine zW ?_;intros
  ((refine zG ?_);refine Yt (hw _ hM1) ?_);refine zW ?_;intros;refine Yd (Yk [] [_,_] Zz (YpF hM1 (hD0.mono hle1) (hP0.mono hle1) hS h6 hWB Zi) (fun v4 fz4 H4 hle4 hR4=>?_));obtain ⟨rfl,vw,W,rfl,hW,hWi⟩:=hR4;obtain ⟨Wa,wn,wc,Wv,wm,wd,rfl,hWa,hWv⟩:=hW;have hle:=hle1.trans hle4;by_cases hc:(Y4 d p).2=0;rotate_left 1
  ·rw [YD hc];refine zW ?_;intros;exact zR (h:=rfl)
  obtain ⟨hWB1,hWi,hsr⟩:=hWi hc;have hac:=hF hc;rw [hc,show errV 0=.nilIface from rfl];refine zW ?_;intros;rename_i g5;refine Wm (Yk [] [_,_,_] Zz (Ynt (hD0.mono hle)) (fun v5 fz5 H5 hle5 hR5=>?_));obtain ⟨rfl,b,rfl,hpos⟩:=hR5;cases b with
  | false=>
   refine zW ?_;intros;exact zR (h:=rfl)
  | true=>
   have hpos:=hpos rfl;have hle:=hle.trans hle5;refine zW ?_;intros;refine Yd (Yk [] [_,_,_] Zz (Yqs (hM.mono hle) (hD0.mono hle) (hP0.mono hle) hS hA) (fun v6 fz6 H6 hle6 hR6=>?_));obtain ⟨rfl,S0,hS0,v,rfl,hz1,hz2⟩:=hR6;have hle:=hle.trans hle6;generalize hev:errV (Yah d p S0)=ev;refine zW ?_;intros;refine Yd (Yk [] [_,_,_] Zz (sinst_f (hM.mono hle) (hD0.mono hle) (hP0.mono hle) hS h6 hfit.acts h3) (fun v8 fz8 H8 hle8 hR8=>?_));obtain ⟨vl,rfl,_,hgood⟩:=hR8;obtain ⟨nl,hnl,hGl⟩:=hgood hc;obtain ⟨Al,cl,rfl,_,_⟩:=hGl.form;rw [hc,show errV 0=.nilIface from rfl];by_cases he:Yah d p S0=0;rotate_left 1
   ·rw [YD he] at hev;subst hev;refine zW ?_;intros;exact zR (h:=rfl)
   rw [he,show errV 0=.nilIface from rfl] at hev;subst hev;obtain ⟨la,hla,hpm,hsa⟩:=hz2 he;obtain ⟨Ax,nx,cx,rfl,hsl⟩:=hla;obtain ⟨_,hx⟩:=Yqt he;obtain ⟨e1,e2,e3,e4,e5,e6⟩:=Yp2 hx;refine Seq.freezeAll (H1:=[_,_,_]) (H2:=H8) Zq (fun fz10 hle10 hf10=>?_);obtain ⟨Bl,dl,el,iL⟩:=hGl.sl hle10 hf10 Zi;injection el with w1 w2 w3
   subst w1;subst w3;have hle410:=hle5.trans (hle6.trans (hle8.trans hle10));have hle:=hle.trans (hle8.trans hle10);have hs3:∀ s∈YfK (mnM d p) d.actions,s.2.length<=3:=fun s hs=>YnG h3 hs
   have lL:=iL.len;have sL:=iL.short;have hL0:LawW d p (expM (knM d p) d S0).S W:=by
    obtain ⟨l0,hl0,eW⟩:=hsr;exact ⟨by rw [eW];exact Yqe hl0,hWB1,⟨fun a ha=>e3 a ((hS0.2 a).2 (Yei.2 ((hWi a).1 ha))),fun a ha _=>(hWi a).2 (Yei.1 ha)⟩,fun a ha=>(hWi a).2 ha⟩
   generalize hl:YfK (mnM d p) d.actions=l at*;refine zW ?_;intros;refine Yn (fun q σ fz' H'=>∃ (n:Int) (W:Wd) (Wa Wv:Option Addr) (wn wc wm wd:Nat),(-1<=n/\n<=4096)/\q=(if n=W.atoms.length then 0 else 5000 - W.atoms.length)/\σ=[(11,Zk n),(9,Zc Al nl cl),(7,Zc Ax nx cx),(5,Zp g5),(3,Zp g3),(2,Zp g2)]/\Le fz10 fz'/\
    H'=[(g5,Zu #[Zc Wa wn wc,Zc Wv wm wd] 41),(g3,Zu #[Zy p.name,Zy p.domain,Zc B1 m1 d1,Zc B2 m2 d2,Zc B3 m3 d3,Zy p.goal.op,Zy p.goal.name,Zc B4 m4 d4,Zc B5 m5 d5,Zc B6 m6 d6,Zc B7 m7 d7] 37),(g2,Zu #[Zy d.name,Zc A1 n1 b1,Zc A2 n2 b2,Zc A3 n3 b3,Zc A4 n4 b4,Zc A5 n5 b5,Zc A6 n6 b6] 28)]/\WdR fz' W (.agg #[Zc Wa wn wc,Zc Wv wm wd])/\LawW d p (expM (knM d p) d S0).S W/\(n=W.atoms.length->∀ s∈l,ClsS d p W.atoms s))
    ⟨-1,W,_,_,_,_,_,_,by omega,rfl,rfl,Zd,rfl,⟨_,_,_,_,_,_,rfl,hWa.mono hle410,hWv.mono hle410⟩,hL0,fun h=>absurd h Zi⟩ Zw (List.Sublist.refl _) ?_
   rintro q σ fz1' H' ⟨n,W,Wa,Wv,wn,wc,wm,wd,hn,rfl,rfl,hle1',rfl,hW,hLw,hcls⟩;obtain ⟨_,_,_,_,_,_,ew,hWa,hWv⟩:=id hW;injection ew with ew
   injection ew with ew
   simp only [List.cons.injEq,Value.slice.injEq,and_true] at ew;obtain ⟨⟨rfl,rfl,rfl⟩,rfl,rfl,rfl⟩:=ew;have lW:=hWa.len;have hlen:=hLw.len e2;refine zW ?_;intros;refine zC ?_ ?_<;>intro c1;rotate_left 1
   ·have hcls:=hcls Zi;have hfin:=exact_eq hc hfit hpos hS0 hx hLw.c hpm hsa hLw.init hLw.i.sub (by rw [hl];exact hcls);refine zW ?_;intros;refine zc (Yle hWa (hsl.mono ((hle8.trans hle10).trans hle1'))) ?_;refine zW ?_;intros;exact wR (h:=by exact (Ys hfin).symm)
   refine zW ?_;intros;refine Yn (fun q σ fz' H'=>∃ (i:Nat) (X:Wd) (Wa Wv:Option Addr) (xn wc wm wd:Nat),i<=nl/\q=nl - i/\σ=[(12,Zk i),(11,Zk wn),(9,Zc Al nl cl),(7,Zc Ax nx cx),(5,Zp g5),(3,Zp g3),(2,Zp g2)]/\Le fz1' fz'/\
    H'=[(g5,Zu #[Zc Wa xn wc,Zc Wv wm wd] 41),(g3,Zu #[Zy p.name,Zy p.domain,Zc B1 m1 d1,Zc B2 m2 d2,Zc B3 m3 d3,Zy p.goal.op,Zy p.goal.name,Zc B4 m4 d4,Zc B5 m5 d5,Zc B6 m6 d6,Zc B7 m7 d7] 37),(g2,Zu #[Zy d.name,Zc A1 n1 b1,Zc A2 n2 b2,Zc A3 n3 b3,Zc A4 n4 b4,Zc A5 n5 b5,Zc A6 n6 b6] 28)]/\WdR fz' X (.agg #[Zc Wa xn wc,Zc Wv wm wd])/\LawW d p (expM (knM d p) d S0).S X/\wn<=X.atoms.length/\(X.atoms.length=wn->∀ j,j<i->∀ s,l[j]?=some s->ClsS d p X.atoms s))
    ⟨0,W,_,_,_,_,_,_,Z0 _,rfl,rfl,Zd,rfl,hW,hLw,by omega,fun _ j hj=>absurd hj Zi⟩ Zw Zb ?_
   rintro q σ fz2' H' ⟨i,X,Xa,Xv,xn,xc,xm,xd,hi,rfl,rfl,hle2',rfl,hX,hLx,hwx,hcx⟩;have hlx:=hLx.len e2;refine zW ?_;intros;refine zC ?_ ?_<;>intro c2;rotate_left 1
   ·refine zW ?_;intros;refine Ws ⟨wn,X,_,_,_,_,_,_,by omega,rfl,rfl,hle1'.trans hle2',rfl,hX,hLx,fun h s hs=>?_⟩ ?_ Zw Zb
    ·obtain ⟨j,hj⟩:=List.getElem?_of_mem hs;exact hcx Zi j (by have:=(Zg hj).1;omega) s hj
    rw [if_neg (show ¬n=(W.atoms.length:Int) by omega)];split<;>omega
   obtain ⟨s,hs⟩:=Yf (l:=l) (k:=i) Zi;have hsm:=Zm hs;have hs3:=hs3 s hsm;have hle2:=hle1'.trans hle2';have hleX:=hle.trans hle2;refine zWX ?_;intros;refine YN (Yci (YN (Xe (fun σ fz' H'=>∃ (e:Int) (Y:Wd) (Ya Yv:Option Addr) (yn yc ym yd gv:Nat),σ=[(14,errV e),(13,Zp gv),(12,Zk i),(11,Zk wn),(9,Zc Al nl cl),(7,Zc Ax nx cx),(5,Zp g5),(3,Zp g3),(2,Zp g2)]/\Le fz2' fz'/\
    H'=[(gv,Zu #[Zc Ya yn yc,Zc Yv ym yd] 41),(g5,Zu #[Zc Xa xn xc,Zc Xv xm xd] 41),(g3,Zu #[Zy p.name,Zy p.domain,Zc B1 m1 d1,Zc B2 m2 d2,Zc B3 m3 d3,Zy p.goal.op,Zy p.goal.name,Zc B4 m4 d4,Zc B5 m5 d5,Zc B6 m6 d6,Zc B7 m7 d7] 37),(g2,Zu #[Zy d.name,Zc A1 n1 b1,Zc A2 n2 b2,Zc A3 n3 b3,Zc A4 n4 b4,Zc A5 n5 b5,Zc A6 n6 b6] 28)]/\WdR fz' Y (.agg #[Zc Ya yn yc,Zc Yv ym yd])/\(e≠0->∀ a,¬AppOk (mnM d p) X s a)/\(e=0->LawW d p (expM (knM d p) d S0).S Y/\(∀ x∈X.atoms,x∈Y.atoms)/\∃ a,AppOk (mnM d p) X s a/\StepW (mnM d p) X s a Y)) ?_ ?_)))
   ·refine Yay [] [_,_,_] ?_;refine zW ?_;intros;refine zI (iL.mono hle2) hs (fun p1 hp1=>?_);refine zL hp1 ?_;intro cs hcs;have hrow:=hcs;obtain ⟨va,rfl,hsn,S,m,d',rfl,isl⟩:=hcs;refine pT ?_;have hkey:∀ {e:Int} {Y:Wd},(e=0↔∃ a,AppOk (mnM d p) X s a)->(e=0->WB (1300000+3000) Y/\∃ a,AppOk (mnM d p) X s a/\StepW (mnM d p) X s a Y)->e=0->LawW d p (expM (knM d p) d S0).S Y/\(∀ x∈X.atoms,x∈Y.atoms)/\∃ a,AppOk (mnM d p) X s a/\StepW (mnM d p) X s a Y:=fun _ hstep h0=>by
     obtain ⟨hb,a,hap,hsw⟩:=hstep h0;obtain ⟨h1,h2⟩:=hLx.step hc hfit (hA hc) hpos hx hap hsw hb;exact ⟨h1,h2,a,hap,hsw⟩
    refine YB ?_ ?_
    ·refine Ye (Yk [] [_,_,_] Zz (Yqu (hM.mono hleX) (hD0.mono hleX) (hP0.mono hleX) hS h6 hc hac hX hrow Zi hLx.b Zi) (fun v9 fz9 H9 hle9 hR9=>?_));obtain ⟨rfl,vx,e,Y,rfl,hY,hiff,hstep⟩:=hR9;obtain ⟨Ya,yn,yc,Yv,ym,yd,rfl,hYa,hYv⟩:=id hY;refine ⟨⟨hle9,Zx⟩,?_⟩;refine Yia 8 (v:=.tuple #[.agg #[Zc Ya yn yc,Zc Yv ym yd],errV e]) Ye2 ⟨hle9,Zx⟩ (fun _ _=>?_) ?_
     ·exact Wo rfl
     refine Yia 9 (v:=.agg #[Zc Ya yn yc,Zc Yv ym yd]) Ye2 ⟨hle9,Zx⟩ (fun _ _=>?_) ?_
     ·exact Yq rfl
     refine Yia 10 (v:=errV e) Ye2 ⟨hle9,Zx⟩ (fun _ _=>?_) ?_
     ·exact Yq rfl
     refine Yb ?_;refine Ye (YU (fun gv=>⟨⟨hle9,Zx⟩,?_⟩));refine Yb ?_;refine PoS.hard0 (Yy ?_);refine pD ?_;exact wN (h:=by exact ⟨e,Y,Ya,Yv,yn,yc,ym,yd,gv,rfl,hle9,rfl,hY,fun h0 a ha=>h0 (hiff.2 ⟨a,ha⟩),hkey hiff hstep⟩)
    refine Ye (YU (fun gv=>⟨⟨Zd,Zx⟩,?_⟩));refine Yb ?_;refine Ye (Yk [] [_,_,_,_] Zz (Yqu (hM.mono hleX) (hD0.mono hleX) (hP0.mono hleX) hS h6 hc hac hX hrow Zi hLx.b Zi) (fun v9 fz9 H9 hle9 hR9=>?_));obtain ⟨rfl,vx,e,Y,rfl,hY,hiff,hstep⟩:=hR9;obtain ⟨Ya,yn,yc,Yv,ym,yd,rfl,hYa,hYv⟩:=id hY;refine ⟨⟨hle9,Zx⟩,?_⟩;refine Yia 8 (v:=.tuple #[.agg #[Zc Ya yn yc,Zc Yv ym yd],errV e]) Ye2 ⟨hle9,Zx⟩ (fun _ _=>?_) ?_
    ·exact Wo rfl
    refine Yia 9 (v:=.agg #[Zc Ya yn yc,Zc Yv ym yd]) Ye2 ⟨hle9,Zx⟩ (fun _ _=>?_) ?_
    ·exact Yq rfl
    refine Yia 10 (v:=errV e) Ye2 ⟨hle9,Zx⟩ (fun _ _=>?_) ?_
    ·exact Yq rfl
    refine Yb ?_;refine PoS.hard0 (Yy ?_);refine pD ?_;exact wN (h:=by exact ⟨e,Y,Ya,Yv,yn,yc,ym,yd,gv,rfl,hle9,rfl,hY,fun h0 a ha=>h0 (hiff.2 ⟨a,ha⟩),hkey hiff hstep⟩)
   rintro σ fz3' H' ⟨e,Y,Ya,Yv,yn,yc,ym,yd,gv,rfl,hle3',rfl,hY,hno,hyes⟩;by_cases he:e=0
   ·subst he;obtain ⟨hLy,hsub,a,hap,hsw⟩:=hyes rfl;have hlen2:=Ybq hLx.c.1 hsub;rw [show errV 0=.nilIface from rfl];refine zW ?_;intros;exact Ws ⟨i+1,Y,_,_,_,_,_,_,by omega,rfl,rfl,hle2'.trans hle3',rfl,hY,hLy,by omega,fun h j hj t ht=>by
     have ee:=hLx.c.same hLy.c hsub Zi;rcases Nat.lt_or_ge j i with h1 | h1
     ·rw [<- ee];exact hcx Zi j h1 t ht
     obtain rfl:j=i:=by omega
     rw [hs] at ht;injection ht with ht;subst ht
     exact cls_yes hc hpos hac hap hsw ee⟩ Zi Zw Zb
   rw [YD he];refine zW ?_;intros;exact Ws ⟨i+1,X,_,_,_,_,_,_,by omega,rfl,rfl,hle2'.trans hle3',rfl,hX.mono hle3',hLx,hwx,fun h j hj t ht=>by
    rcases Nat.lt_or_ge j i with h1 | h1
    ·exact hcx h j h1 t ht
    obtain rfl:j=i:=by omega
    rw [hs] at ht;injection ht with ht;subst ht
    exact cls_no hc hpos hac (hno he)⟩ Zi Zw Zb
end Go.Proofs.YtbdpaoikccabhaaGreatDoor
namespace Go.Lx
open Go.RowKit
section
variable {P:Program} {cx:Cx} {n:Nat} {σ:Env} {fz:FZ} {H:HP} {fn:Func} {R:Value->FZ->HP->Prop}
variable {X Y:Ty} {cs:List Value} {g j k:Nat} {t t':TypeId}
theorem Ynl (T:Tab P) {p q:Nat} {u u':TypeId} {i:Nat} {ds:List Value} {f f':Nat × Nat} (hres:fn.results=#[.cell p t,.cell q u]) (hT:T.inf t=some X) (hU:T.inf u=some Y) (hd:Wc X.desc=true) (he:Wc Y.desc=true)
 (hv:lk σ p=some (Zp g)) (hx:lk σ q=some (Zp k)) (hi:H[i]?=some (g,.cells cs.toArray t' f)) (hj:H[j]?=some (k,.cells ds.toArray u' f')) (hsz:X.size=cs.length) (hsy:Y.size=ds.length)
 (h:∀ fz',Le fz fz'->(∀ p∈H,fz' p.1=some p.2)->R (.tuple #[.agg cs.toArray,.agg ds.toArray]) fz' []):retQ P cx n fn R .ret σ fz H:=by
 unfold retQ;exact ⟨.tuple #[.agg cs.toArray,.agg ds.toArray],fun a w hs hw=>by
  have hc:∀ (g i:Nat) (cs:List Value) (t':TypeId) (f:Nat × Nat),H[i]?=some (g,.cells cs.toArray t' f)->∀ j v,cs[j]?=some v->w.cell? ((⟨g,0,none⟩:Addr).add j)=some v:=fun g i cs t' f hi j v hv=>by
   have hadd:(⟨g,0,none⟩:Addr).add j=⟨g,j,none⟩:=by unfold Addr.add;split<;>simp_all
   rw [hadd,hw.cellOwn hi];simpa using hv
  simp [results,hres,hs.slot p _ hv,hs.slot q _ hx,asAddr,YaT T hT hd hsz (hc g i cs t' f hi),YaT T hU he hsy (hc k j ds u' f' hj)],Ygl h⟩
end
end Go.Lx
namespace Go.Proofs.YtbdpaoikccabhaaGreatDoor
variable {fz:FZ} {s:Bs}
theorem alw_q {fz:FZ}:QFn prog 30 [] fz YbL:=by
 refine qF Tryz.func30 Tryz.ntmps30 (fun w0=>?_);refine zW ?_;intros;exact Wx (i:=0) rfl (fun _ hi=>⟨_,[],hi.forget (List.nil_sublist _),rfl⟩)
theorem atm_q:QFn prog 31 [Zy s,Zn] fz (.agg #[Zy kAtom,Zy s,Zn,Zn,Zn,Zn]):=by
 refine qF Tryz.func31 Tryz.ntmps31 (fun w0=>?_);refine zW ?_;intros;exact Wx (i:=0) rfl (fun _ hi=>⟨_,[],hi.forget (List.nil_sublist _),rfl⟩)
theorem atm_R (h:s.size<=1000):FormulaR fz (atmF s) Zn Zn Zn Zn:=⟨by show kAtom.size<=_;decide,by show s.size<=_;omega,IsSl.nil,IsSl.nil,IsSl.nil,IsSl.nil⟩
theorem nilE_R:ExprR fz nilE Zn Zn:=⟨Y5,Y5,XP,IsSl.nil,IsSl.nil⟩
theorem Yqy {k:Int} (hk:I64 k) (h:s.size<=1000):changeL.rep fz (addC k s) [Zk k,Zn,Zy kAnd,Ze,Zn,Zn,Zn,Zn,Zy s,Zn,Ze,Ze,Zk 0,Zn,Zn]:=
 YbJ (x:=addC k s) ⟨hk,IsSl.nil,Ycp,by show s.size<=_;omega,IsSl.nil,nilE_R⟩
def YnD (k:Int) (s:Bs):List Value:=[Zk k,Zn,Zy kAnd,Ze,Zn,Zn,Zn,Zn,Zy s,Zn,Ze,Ze,Zk 0,Zn,Zn]
def lampK (ga ge:Nat):List Value:=[Zy YlR,Zn,Zk 2,Zy kAnd,Ze,Zn,Zn,Zn,Zn,Zy kAtom,Zy bOn,Zn,Zn,Zn,Zn,Zy kAnd,Ze,Zn,Zn,Zn,Zn,Zv ga 1 1,Zv ge 2 2]
theorem lamp_f:GFn prog 13 [] fz [] (fun r fz' H'=>H'=[]/\∃ v3 v6,r=.tuple #[.agg #[Zy bD,Zn,Zn,v3,Zn,Zn,v6],.agg #[Zy bP,Zy bD,Zn,Zn,Zn,Zy kAtom,Zy WO,Zn,Zn,Zn,Zn]]/\
 DomainR fz' Xz Zn Zn v3 Zn Zn v6/\ProblemR fz' YaJ Zn Zn Zn Zn Zn Zn Zn):=by
 have ha:=@alw_q;unfold YbL at ha;refine zF Tryz.func13 Tryz.ntmps13 (fun w0=>?_);refine zWN ?_;intros;refine Yd (Yc (cs:=[Zy bOn,Zn,Zy WO,Zn,Zy bKey,Zn]) (fun gp=>?_));refine zWN ?_;refine zc ha ?_;refine zWN ?_;refine zc (atm_q (s:=bOn)) ?_;refine zWN ?_;refine zc ha ?_;refine zWN ?_;refine zc ha ?_;refine zWN ?_;refine Yd (Yc (cs:=YnD 1 bOn) (fun ga=>?_));refine zWN ?_;refine zc ha ?_;refine zWN ?_;refine zc ha ?_;refine zWN ?_;refine Yd (Yc (cs:=YnD 1 WO++YnD 2 bOn) (fun ge=>?_));refine zWN ?_;refine Yd (Yc (cs:=lampK ga ge) (fun gs=>?_));refine zWN ?_;intros;refine Yay [2] [_,_,_,_,_,_,_] ?_;refine wc (atm_q (s:=WO)) ?_;refine PK.p Zz (fun fz'=>XH rfl) ?_;refine pT ?_;refine Yb ?_;refine PoS.hard0 (WA (pre:=[_,_,_,_,_,_]) rfl ?_);refine Yb ?_;refine PoS.hard0 (WA (pre:=[_,_,_,_,_]) rfl ?_);refine Po.done ?_;refine zW ?_;refine Ynl T (i:=6) (j:=5) rfl Zz Zz Zz Zz Zz Zz Zz Zz Zz Zz (fun fz3 hle3 hf3=>⟨rfl,_,_,rfl,?_,?_⟩)
 ·have h1:=hf3 _ (.tail _ (.tail _ (.tail _ (.tail _ (.head _)))));have h2:=hf3 _ (.tail _ (.tail _ (.tail _ (.head _))));have h3:=hf3 _ (.tail _ (.tail _ (.head _)));have h4:=hf3 _ (.tail _ (.head _));have s1:Sl changeL fz3 (some ⟨ga,0,none⟩) 1 1 [addC 1 bOn]:=XC (ys:=[(addC 1 bOn,YnD 1 bOn)]) h2 rfl rfl (List.forall_mem_cons.2 ⟨Yqy (by unfold I64;omega) Zh,nilP⟩) rfl Zh;have s2:Sl changeL fz3 (some ⟨ge,0,none⟩) 2 2 [addC 1 WO,addC 2 bOn]:=XC (ys:=[(addC 1 WO,YnD 1 WO),(addC 2 bOn,YnD 2 bOn)]) h3 rfl rfl (List.forall_mem_cons.2 ⟨Yqy (by unfold I64;omega) Zh,List.forall_mem_cons.2 ⟨Yqy (by unfold I64;omega) Zh,nilP⟩⟩) rfl Zh;have s3:Sl predicateL fz3 (some ⟨gp,0,none⟩) 3 3 [⟨bOn,[]⟩,⟨WO,[]⟩,⟨bKey,[]⟩]:=XC (ys:=[(⟨bOn,[]⟩,[Zy bOn,Zn]),(⟨WO,[]⟩,[Zy WO,Zn]),(⟨bKey,[]⟩,[Zy bKey,Zn])]) h1 rfl rfl
   (List.forall_mem_cons.2 ⟨Ybo (x:=⟨bOn,[]⟩) ⟨by show bOn.size<=_;decide,IsSl.nil⟩,List.forall_mem_cons.2 ⟨Ybo (x:=⟨WO,[]⟩) ⟨by show WO.size<=_;decide,IsSl.nil⟩,List.forall_mem_cons.2 ⟨Ybo (x:=⟨bKey,[]⟩) ⟨by show bKey.size<=_;decide,IsSl.nil⟩,nilP⟩⟩⟩) rfl Zh
  have s4:Sl durativeL fz3 (some ⟨gs,0,none⟩) 1 1 [YdM]:=XC (ys:=[(YdM,lampK ga ge)]) h4 (List.append_nil _).symm rfl
   (List.forall_mem_cons.2 ⟨Yhv (x:=YdM) ⟨by show YlR.size<=_;decide,IsSl.nil,by show I64 2;unfold I64;omega,Ycp,atm_R Zh,Ycp,s1.is,s2.is⟩,nilP⟩) rfl Zh
  exact ⟨by show bD.size<=_;decide,IsSl.nil,IsSl.nil,s3.is,IsSl.nil,IsSl.nil,s4.is⟩
 exact ⟨by show bP.size<=_;decide,by show bD.size<=_;decide,IsSl.nil,IsSl.nil,IsSl.nil,atm_R Zh⟩
theorem step_nm {p:Addr} {x:StepM} (h:At YfG fz p x):At strL fz (p.add 1) x.1:=h.part 1 fun cs hr=>by
 obtain ⟨va,rfl,hs,_⟩:=hr;exact ⟨_,rfl,rfl,hs⟩
theorem Yqr (hM:MaxF fz):QFn prog 5 [] fz (Zo true):=by
 refine qF Tryz.func5 Tryz.ntmps5 (fun w0=>?_);refine wK (q:=lamp_f) (h:=fun v1 fz1 H1 hle1 hR1=>?_);obtain ⟨rfl,v3,v6,rfl,hD,hP⟩:=hR1;obtain ⟨A3,n3,b3,rfl,_⟩:=id hD.predicates;obtain ⟨A6,n6,b6,rfl,_⟩:=id hD.duratives;refine zW ?_;intros;rename_i gd gp;refine wK (q:=Yqs (hM.mono hle1) hD hP Ykg (fun _=>YmF)) (h:=fun v4 fz4 H4 hle4 hR4=>?_);obtain ⟨rfl,S0,hS0,v,rfl,_,hz⟩:=hR4;have e0:=Yps hS0;subst e0;rw [lamp_E] at hz ⊢;obtain ⟨l,hl,hp,hs⟩:=hz rfl;have el:=lamp_l hp hs;subst el;obtain ⟨A,n,c,rfl,hsl⟩:=hl;have hn:=hsl.len;rw [show errV 0=.nilIface from rfl];refine wK (q:=insts_f (hM.mono (hle1.trans hle4)) (hD.mono hle4) (hP.mono hle4) Ykg (fun _=>YmF)) (h:=fun v5 fz5 H5 hle5 hR5=>?_);obtain ⟨S1,hS1,v,rfl,_,hy⟩:=hR5;have e1:=Yps hS1;subst e1;rw [lamp_E] at hy ⊢;obtain ⟨m,hG⟩:=hy rfl;rw [lamp_i] at hG;obtain ⟨A5,c5,rfl,_,_⟩:=hG.form;have hm:=hG.len;simp at hm hn;subst hm;subst hn;refine Seq.freezeAll (H1:=[_,_]) (H2:=H5) Zq (fun fz6 hle6 hf6=>?_);obtain ⟨B5,d5,e5,hS5⟩:=hG.sl hle6 hf6 Zi;injection e5 with e51 e52 e53
 subst e51;subst e53;have hx:=hsl.mono (hle5.trans hle6);rw [show errV 0=.nilIface from rfl];refine vC ?_ ?_<;>intro c1;rotate_left 1
 ·exact absurd rfl c1
 refine vI hx rfl (fun p1 hp1=>?_);refine vH hp1.Atom_name (fun hs1=>?_);refine vC ?_ ?_<;>intro c2;rotate_left 1
 ·exact absurd rfl c2
 refine vC ?_ ?_<;>intro c3;rotate_left 1
 ·exact absurd rfl c3
 refine vI hS5 rfl (fun p2 hp2=>?_);refine vH (step_nm hp2) (fun hs2=>?_);refine vC ?_ ?_<;>intro c4;rotate_left 1
 ·exact absurd rfl c4
 exact vR (h:=rfl)
end Go.Proofs.YtbdpaoikccabhaaGreatDoor
namespace Go.Lx
open Go.RowKit Go.ChangeShapes Go.WideShapes Go.Deep
theorem Ypl {α:Type} {p:Nat->α->Prop}:∀ {n:Nat},(∀ i,i<n->∃ d,p i d)->∃ ds:List α,ds.length=n/\∀ i d,ds[i]?=some d->p i d
 | 0,_=>⟨[],rfl,by simp⟩
 | n+1,h=>by
  obtain ⟨ds,h1,h2⟩:=Ypl (n:=n) (fun i hi=>h i Zi);obtain ⟨d,hd⟩:=h n Zi;refine ⟨ds++ [d],by simp [h1],fun i e he=>?_⟩;by_cases hi:i<ds.length
  ·rw [List.getElem?_append_left hi] at he;exact h2 i e he
  have hl:=(Zg he).1;simp at hl;have:i=n:=by omega
  subst this;rw [List.getElem?_append_right Zi,h1] at he;simp at he;subst he;exact hd
section
variable {H:Type} {enc:TypeId × Value->H} {P:Program} {w:World} {base:Nat} {spare:Nat->Bool} {held:Bool}
variable {α:Type} {fz:FZ} {v:Value} {L:Lay α}
theorem XN {xs:List α} (h:(slL L).rep fz xs [v]):IsSl L fz v xs:=by
 obtain ⟨A,n,c,e,hs⟩:=h;injection e with e
 exact ⟨A,n,c,e,hs⟩
variable {s:Bs}
theorem Ybj (h:strL.rep fz s [v]):v=.string s/\Short s:=by
 obtain ⟨e,hs⟩:=h;injection e with e
 exact ⟨e,hs⟩
theorem YgJ {n:Int} (h:intL.rep fz n [v]):v=Zk n/\I64 n:=by
 obtain ⟨e,hs⟩:=h;injection e with e
 exact ⟨e,hs⟩
end
end Go.Lx
