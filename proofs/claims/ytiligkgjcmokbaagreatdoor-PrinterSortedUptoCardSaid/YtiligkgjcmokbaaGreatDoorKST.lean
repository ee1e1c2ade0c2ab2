/- The texts RD, RE, RF, RG, RH, RI, RJ, RK, laid together. Conditions: none. -/
import Derived.Test.YtiligkgjcmokbaaGreatDoorKSS
set_option linter.all false
set_option maxHeartbeats 8000000
noncomputable section
set_option maxRecDepth 20000
open Go.Lx Go.RowKit
attribute [local instance 10] Classical.propDecidable
open Go.Proofs.Tryz (prog)
namespace Go.Lx
open Go.RowKit
variable {α:Type} {fz:FZ} {g j n:Nat} {v:Value} {L:Lay α}
section
variable {P:Program} {cx:Cx} {r:Operand->Option Value} {fz:FZ} {H:HP} {V:Value->Prop} {dst:Option Nat} {ty:TypeId} {pos:String} {af:Array Edge} {gd:Option (Nat × Bool)}
variable {X:Ty} {s:Bs} {t:TypeId}
theorem Ypc (T:Tab P) {x lo hi:Operand} {a b:Nat} (hT:T.inf t=some X) (hd:X.desc=.string) (hx:r x=some (Zy s)) (hl:r lo=some (Zk a)) (hh:r hi=some (Zk b))
 (hab:a<=b) (hb:b<=s.size) (h:V (.string (s.extract a b))):DoesQ P cx ⟨dst,.slice t x (some lo) (some hi) none,ty,pos,af,gd⟩ r fz H V:=
 YC (fun ρ w hr=>by
  have hu:=run_underlying (und_plain T hT hd rfl) w;simp [execOp,hr _ _ hx,hr _ _ hl,hr _ _ hh,Instr.sliceAt,Instr.slice,Instr.sliceBounds,Instr.sliceBound,asIntOf,hu,hab,hb]) h
end
theorem Yp3 {e:Nat} {cap:Nat} {cur:List Value} {l:List α} (h:GrowB L e fz g n cap cur l) {d:α} (hj:l[j]?=some d):∃ cs,L.rep fz d cs/\∀ i u,cs[i]?=some u->cur[j*L.size+i]?=some u:=by
 obtain ⟨xs,h1,h2,h3⟩:=h.pairs;rw [<- h1,List.getElem?_map] at hj;cases hx:xs[j]? with
 | none=>rw [hx] at hj;cases hj
 | some p=>
  rw [hx] at hj;simp at hj;subst hj;refine ⟨p.2,h2 p (Zm hx),fun i u hu=>?_⟩;have h5:=Ye3 (fun p hp=>L.len (h2 p hp)) hx hu;rw [<- h3,List.getElem?_take] at h5;split at h5
  ·exact h5
  cases h5
theorem GrowB.pop {e:Nat} {cap:Nat} {cur:List Value} {l:List α} {d:α} (h:GrowB L e fz g (n+1) cap cur (l++ [d])):GrowB L e fz g n cap cur l:=by
 obtain ⟨xs,h1,h2,h3⟩:=h.pairs;have hl:=h.len;have hcap:=h.capn;rw [List.length_append] at hl;simp at hl;have hxl:xs.length=n+1:=by rw [<- List.length_map (f:=Prod.fst),h1,List.length_append];simp [hl]
 have hz:∀ p∈xs.take n,p.2.length=L.size:=fun p hp=>L.len (h2 p (List.mem_of_mem_take hp))
 refine ⟨⟨xs.take n,by rw [List.map_take,h1,<- hl,List.take_left],fun p hp=>h2 p (List.mem_of_mem_take hp),?_⟩,hl,by omega,h.max,h.size⟩;have e1:(xs.take n++xs.drop n).flatMap Prod.snd=xs.flatMap Prod.snd:=by rw [List.take_append_drop]
 rw [List.flatMap_append] at e1;have e2:=Ya1 hz;rw [List.length_take,hxl,Nat.min_eq_left Zi] at e2;have e3:cur.take (n*L.size)=(cur.take ((n+1)*L.size)).take (n*L.size):=by rw [List.take_take,Nat.min_eq_left (Nat.mul_le_mul_right _ Zi)]
 rw [e3,h3,<- e1,<- e2,List.take_left]
theorem GrowB.cell {e:Nat} {cap o:Nat} {cur:List Value} {l:List α} {d d':α} (h:GrowB L e fz g (n+1) cap cur (l++ [d])) (ho:o<L.size) (hr:∀ cs,L.rep fz d cs->L.rep fz d' (cs.set o v)):GrowB L e fz g (n+1) cap (cur.set (n*L.size+o) v) (l++ [d']):=by
 have hp:=h.pop;obtain ⟨xs,h1,h2,h3⟩:=hp.pairs;have hl:=hp.len;obtain ⟨cs,h4,h5⟩:=Yp3 h (j:=n) (d:=d) (by rw [List.getElem?_append_right Zi,hl,Nat.sub_self];rfl);have hxl:xs.length=n:=by rw [<- List.length_map (f:=Prod.fst),h1,hl]
 have hcl:=L.len h4;have hsz:=h.size;have hcap:=h.capn;have e0:(n+1)*L.size=n*L.size+L.size:=Nat.succ_mul _ _;have hnc:(n+1)*L.size<=cap*L.size:=Nat.mul_le_mul_right _ hcap;have e1:(xs.flatMap Prod.snd).length=n*L.size:=by rw [Ya1 (fun p hp=>L.len (h2 p hp)),hxl]
 refine ⟨⟨xs++ [(d',cs.set o v)],by rw [List.map_append,h1];rfl,fun p hp=>?_,?_⟩,by rw [List.length_append,hl];rfl,hcap,h.max,by rw [List.length_set];exact hsz⟩
 ·rcases List.mem_append.1 hp with hp | hp
  ·exact h2 p hp
  simp at hp;subst hp;exact hr cs h4
 rw [List.flatMap_append,<- h3];refine List.ext_getElem? fun i=>?_
 simp only [List.flatMap_cons,List.flatMap_nil,List.append_nil];by_cases hi:i<n*L.size
 ·rw [List.getElem?_take_of_lt Zi,List.getElem?_append_left (by rw [List.length_take];omega),List.getElem?_take_of_lt hi,List.getElem?_set_ne Zi]
 have e2:(cur.take (n*L.size)).length=n*L.size:=by rw [List.length_take];omega
 rw [List.getElem?_append_right Zi,e2];by_cases hi2:i<(n+1)*L.size
 ·rw [List.getElem?_take_of_lt hi2];by_cases h7:i=n*L.size+o
  ·subst h7;rw [List.getElem?_set_self Zi,Nat.add_sub_cancel_left,List.getElem?_set_self Zi]
  rw [List.getElem?_set_ne Zi,List.getElem?_set_ne Zi];have hlt:i - n*L.size<cs.length:=by omega
  rw [List.getElem?_eq_getElem hlt];have:=h5 (i - n*L.size) _ (List.getElem?_eq_getElem hlt);rw [show n*L.size+(i - n*L.size)=i by omega] at this;exact this
 rw [List.getElem?_eq_none (by rw [List.length_take];omega),List.getElem?_eq_none (by rw [List.length_set];omega)]
def rawL:Lay (List Value) where
 size:=6
 rep:=fun _ d cs=>cs=d/\d.length=6/\∀ u∈d,u.oneCell'=true
 len:=fun h=>by rw [h.1];exact h.2.1
 mono:=fun _ h=>h
theorem YiU:OneC rawL:=fun _ _ _ h u hu=>h.2.2 u (h.1 ▸ hu)
end Go.Lx
namespace Go.Proofs.YtiligkgjcmokbaaGreatDoor
variable {fz fz':FZ} {H:HP} {n:Nat} {s:Bs}
structure Lev where
 k:Int
 l:Int
 c:Int
 kids:List Sexpr
def Lev.x (e:Lev):Sexpr:=.mk e.k 0 e.l e.c ⟨#[]⟩ e.kids
def Lev.add (e:Lev) (x:Sexpr):Lev:={e with kids:=e.kids++ [x]}
def lvC (e:Lev) (v:Value):List Value:=[Zk e.k,Zk 0,Zk e.l,Zk e.c,Ze,v]
def lvN:List Lev->Nat
 | []=>0
 | e::r=>e.kids.length+1+lvN r
def LvS (fz:FZ):List Lev->List (List Value)->HP->Prop
 | [],ls,H=>ls=[]/\H=[]
 | e::st,ls,H=>∃ ls' H' v Hl,ls=ls'++ [lvC e v]/\H=H'++Hl/\LvS fz st ls' H'/\Grow YE 86 fz v e.kids.length Hl e.kids/\I64 e.k/\I64 e.l/\I64 e.c
theorem LvS.mono (hle:Le fz fz'):∀ {st:List Lev} {ls:List (List Value)} {H:HP},LvS fz st ls H->LvS fz' st ls H
 | [],_,_,h=>h
 | _::_,_,_,⟨ls',H',v,Hl,h1,h2,h3,h4,h5⟩=>⟨ls',H',v,Hl,h1,h2,h3.mono hle,h4.mono hle,h5⟩
theorem LvS.len:∀ {st:List Lev} {ls:List (List Value)} {H:HP},LvS fz st ls H->ls.length=st.length
 | [],_,_,h=>by rw [h.1];rfl
 | _::_,_,_,⟨ls',H',v,Hl,h1,h2,h3,h4,h5⟩=>by rw [h1,List.length_append,h3.len];rfl
def RdS (fz:FZ) (gr:Nat) (t:Bs) (a n:Nat) (st:List Lev) (H:HP):Prop:=
 ∃ go cap cur ls Hk,H=(gr,rdO t a n (Zv go st.length cap))::(go,Zu (List.toArray cur) 86)::Hk/\GrowB rawL 86 fz go st.length cap cur ls/\LvS fz st ls Hk
theorem YpH:∀ {st:List Lev} {e:Lev},e∈st->e.kids.length<=lvN st
 | [],_,h=>by cases h
 | e::r,x,h=>by
  rcases List.mem_cons.1 h with rfl | h
  ·rw [lvN];omega
  have:=YpH h;rw [lvN];omega
theorem add_s {gr a:Nat} {t:Bs} {e:Lev} {st:List Lev} {X:Sexpr} {vx:Value} (h:RdS fz gr t a n (e::st) H) (hX:YT fz X vx) (hk:e.kids.length<=1000000) (hst:st.length<=900):
 GFn prog 237 [Zp gr,.agg #[Zk X.kind,Zk X.value,Zk X.line,Zk X.column,Zy X.text,vx]] fz H
  (fun r fz' H'=>fz'=fz/\r=.tuple #[]/\RdS fz gr t a n (e.add X::st) H'):=by
 obtain ⟨go,cap,cur,ls,Hk,rfl,hB,ls',H',v,Hl,rfl,rfl,h3,h4,h5⟩:=h;have hl:=h3.len;have hcap:=hB.capn;rw [List.length_cons] at hB hcap ⊢;obtain ⟨cs,hc1,hc2⟩:=Yp3 hB (j:=st.length) (d:=lvC e v) (by rw [List.getElem?_append_right Zi,hl,Nat.sub_self];rfl);have hcur:cur[(st.length+1 - 1)*6+5]?=some v:=by
  rw [Nat.add_sub_cancel];exact hc2 5 v (by rw [hc1.1];rfl)
 refine (add_f (Hb:=H') Zi hcap Zi hcur h4 hX hk).mono (fun r fz' H2 hr=>?_);obtain ⟨rfl,rfl,v',Hl',rfl,hG⟩:=hr;refine ⟨rfl,rfl,go,cap,_,ls'++ [lvC (e.add X) v'],H'++Hl',rfl,?_,ls',H',v',Hl',rfl,rfl,h3,by rw [show (e.add X).kids=e.kids++ [X] from rfl,List.length_append];exact hG,h5⟩;rw [Nat.add_sub_cancel];obtain ⟨Av,cv,rfl,_,_⟩:=hG.form;exact hB.cell (o:=5) Zh (fun cs hcs=>⟨by rw [hcs.1];rfl,rfl,by intro u hu;simp [lvC] at hu;rcases hu with rfl | rfl | rfl | rfl | rfl | rfl<;>rfl⟩)
def StopP (b:UInt8):Prop:=SepP b.toNat\/b=40\/b=41\/b=59
def tokL:List UInt8->Nat
 | []=>0
 | b::r=>if StopP b then 0 else 1+tokL r
def tokE (t:Bs) (a:Nat):Nat:=a+tokL (t.data.toList.drop a)
theorem Yj4 {t:Bs} {a:Nat} {b:UInt8} (h:t[a]?=some b) (hb:StopP b):tokE t a=a:=by
 unfold tokE;rw [Ya3 h,tokL,if_pos hb];rfl
theorem YoJ {t:Bs} {a:Nat} {b:UInt8} (h:t[a]?=some b) (hb:¬StopP b):tokE t a=tokE t (a+1):=by
 unfold tokE;rw [Ya3 h,tokL,if_neg hb];omega
theorem tokE_end {t:Bs} {a:Nat} (h:t.size<=a):tokE t a=a:=by
 have:t.data.toList.drop a=[]:=List.drop_eq_nil_of_le (by rw [YbG];omega);unfold tokE;rw [this];rfl
theorem Yly:∀ (l:List UInt8),tokL l<=l.length
 | []=>by simp [tokL]
 | b::r=>by
  have:=Yly r;rw [tokL,List.length_cons];split<;>omega
def tokX (s:Bs) (p:Int × Int):Except Int Sexpr:=
 if NumP s then match numS s with
  | none=>.error 1
  | some v=>.ok (.mk 2 v p.1 p.2 ⟨#[]⟩ [])
 else if LowP s then .ok (.mk 1 0 p.1 p.2 (lowS s) []) else .error 8
def addM (a n:Nat) (X:Sexpr):List Lev->Except Int (Nat × Nat × List Lev)
 | []=>.error 0
 | e::r=>.ok (a,n,e.add X::r)
def tokM (t:Bs) (a n:Nat) (st:List Lev):Except Int (Nat × Nat × List Lev):=
 match tokX (t.extract a (tokE t a)) (posA t a) with
 | .error c=>.error c
 | .ok X=>if n=4096 then .error 5 else addM (tokE t a) (n+1) X st
def RdR (fz:FZ) (gr:Nat) (t:Bs) (a n:Nat) (st:List Lev) (x:Except Int (Nat × Nat × List Lev)) (v:Value) (H:HP):Prop:=
 match x with
 | .error c=>v=errV c/\RdS fz gr t a n st H
 | .ok (a',n',st')=>v=.nilIface/\RdS fz gr t a' n' st' H
def kPar:Bs:=⟨#[40,41,59]⟩
theorem Ym1 {b:UInt8} (h:¬SepP b.toNat):0<=Lib.indexByte kPar.data.toList ((b.toNat:Int).toNat).toUInt8↔StopP b:=by
 rw [Yez,XT];show b∈ [40,41,59]↔_;unfold StopP;simp [h]
theorem YoB:∀ (l:List UInt8) (n m:Nat),n<=1099511627776->valD l n=some m->m<=1099511627776
 | [],n,m,h,e=>by rw [valD] at e;injection e with e;omega
 | b::r,n,m,h,e=>by
  rw [valD] at e;split at e
  ·cases e
  exact YoB r _ m Zi e
theorem valS_le {v:Int} (h:numS s=some v): -1099511627776<=v/\v<=1099511627776:=by
 unfold numS at h;cases hd:valD (Ya6 s YaB).data.toList 0 with
 | none=>rw [hd] at h;cases h
 | some m=>
  rw [hd] at h;have:=YoB _ _ _ Zh hd;have h:(if PreP s YaB then -(m:Int) else m)=v:=by simpa using h
  split at h<;>omega
theorem token_f {gr a:Nat} {t:Bs} {e:Lev} {st:List Lev} (h:RdS fz gr t a n (e::st) H) (ht:t.size<=1000000) (ha:a<=t.size) (hn:n<=4096) (hN:lvN (e::st)<=n+1) (hst:st.length<=900):
 GFn prog 238 [Zp gr] fz H (fun r fz' H'=>fz'=fz/\RdR fz gr t a n (e::st) (tokM t a n (e::st)) r H'):=by
 have hbd:=YgT t a;have hek:e.kids.length<=1000000:=by have:=YpH (st:=e::st) (e:=e) (by simp);omega
 have h':=h;obtain ⟨go,cap,cur,ls,Hk,hH,hB,hL⟩:=h';subst hH;have hunf:=rdO.eq_1 t a n (.slice (some (.mk go 0 none)) (e::st).length cap);have hX0:tokM t a n (e::st)=match tokX (t.extract a (tokE t a)) (posA t a) with
  | .error c=>.error c
  | .ok X=>if n=4096 then .error 5 else addM (tokE t a) (n+1) X (e::st):=rfl
 have hEs:tokE t a<=t.size:=by
  have:=Yly (t.data.toList.drop a);rw [List.length_drop,YbG] at this;unfold tokE;omega
 have hEa:a<=tokE t a:=by unfold tokE;omega
 generalize hrest:((go,Obj.cells (List.toArray cur) 86 (0,0))::Hk)=Hr at*;generalize hv0:(.slice (some (.mk go 0 none)) (e::st).length cap:Value)=v0 at*;rw [hunf];refine zF Tryz.func238 Tryz.ntmps238 (fun w0=>?_);refine zW ?_;refine XF ((gr,_)::Hr) ?_;refine zW ?_;refine pU ?_;refine Yj (Y7 (fun g3=>⟨⟨Zd,Zp3⟩,?_⟩));refine Ch.hard0 (YG ?_);refine Ch.done ?_;refine zWX ?_;refine Yr ?_;refine zWX ?_;refine Yr ?_;refine zWX ?_;refine Yr (YY (fun σ fz' H'=>σ=[(5,Zk (tokE t a)),(4,Zk a),(3,Zp g3),(0,Zp gr)]/\fz=fz'/\H'=(g3,Zu #[Zk 0,Zk 0,Zk (posA t a).1,Zk (posA t a).2,Ze,Zn] 86)::(gr,rdO t a n v0)::Hr) ?_ ?_)
 ·refine zW ?_;refine Yi (fun q σ fz' H'=>∃ k:Nat,k<=t.size/\q=t.size - k/\σ=[(5,Zk k),(4,Zk a),(3,Zp g3),(0,Zp gr)]/\fz=fz'/\H'=(g3,Zu #[Zk 0,Zk 0,Zk (posA t a).1,Zk (posA t a).2,Ze,Zn] 86)::(gr,rdO t a n v0)::Hr/\tokE t k=tokE t a) ⟨a,ha,rfl,rfl,rfl,rfl,rfl⟩ Zw Zb ?_;rintro q σ fz' H' ⟨k,hk,rfl,rfl,rfl,rfl,hE⟩;rw [hunf];refine wC ?_ ?_<;>intro c1
  ·obtain ⟨b,hb,hb2⟩:=WC (s:=t) (k:=k) Zi;refine wG ?_;refine Xq ?_ (hb:=by rw [Int.toNat_natCast];exact hb);refine wb (sep_q (n:=b.toNat)) (fun f1=>?_) (fun f1=>?_)
   ·rw [Yj4 hb (.inl (Zt f1))] at hE;subst hE;exact wN (h:=by exact ⟨rfl,rfl,rfl⟩)
   have hns:=Zf f1;refine wG ?_;refine Xq ?_ (hb:=by rw [Int.toNat_natCast];exact hb);refine wc (ibs_q (s:=kPar) (n:=b.toNat)) ?_;refine wC ?_ ?_<;>intro c2
   ·have hst:¬StopP b:=fun h=>by have:=(Ym1 hns).2 h;omega
    exact wM (h:=by rw [<- YoJ hb hst];exact hE)
   rw [Yj4 hb ((Ym1 hns).1 Zi)] at hE;subst hE;exact wN (h:=by exact ⟨rfl,rfl,rfl⟩)
  rw [tokE_end Zi] at hE;subst hE;exact wN (h:=by exact ⟨rfl,rfl,rfl⟩)
 rintro σ fz' H' ⟨rfl,rfl,rfl⟩;generalize hE:tokE t a=E at*;rw [hunf];refine Yr ?_;refine zWX ?_;refine zG ?_;refine Ypc T Zz Zz Zz Zz Zz hEa hEs ?_;refine zWX ?_;generalize hs:t.extract a E=s at*;have hsz:s.size<=1000000:=by rw [<- hs,ByteArray.size_extract];omega
 have hsh:Short s:=by unfold Short;omega
 refine Yr (YY (fun σ fz' H'=>∃ X:Sexpr,σ=[(5,Zk E),(3,Zp g3),(0,Zp gr)]/\fz=fz'/\H'=(g3,Zu #[Zk X.kind,Zk X.value,Zk X.line,Zk X.column,Zy X.text,Zn] 86)::(gr,rdO t a n v0)::Hr/\tokX s (posA t a)=.ok X/\YT fz' X Zn) ?_ ?_)
 ·refine wb (YkC hsh) (fun f1=>?_) (fun f1=>?_)
  ·have hnum:=Zt f1;have hX1:tokX s (posA t a)=match numS s with
    | none=>.error 1
    | some v=>.ok (.mk 2 v (posA t a).1 (posA t a).2 ⟨#[]⟩ []):=by unfold tokX;exact if_pos hnum
   have hcall:=value_q (fz:=fz) hsz hnum;cases hv:numS s with
   | none=>
    rw [hv] at hX1 hcall;have hX2:tokX s (posA t a)=.error 1:=hX1;rw [hX2] at hX0;refine wc hcall ?_;refine zW ?_;exact ret1 (H':=(gr,rdO t a n v0)::Hr) rfl rfl Zb ⟨rfl,by rw [hX0];exact ⟨(Yg Zh).symm,h⟩⟩
   | some v=>
    rw [hv] at hX1 hcall;have hvb:=valS_le hv;refine wc hcall ?_;exact wN (h:=by exact ⟨.mk 2 v (posA t a).1 (posA t a).2 ⟨#[]⟩ [],rfl,rfl,rfl,hX1,⟨by unfold I64;show _/\_;simp [Sexpr.kind],by show I64 v;unfold I64;omega,by show I64 (posA t a).1;unfold I64;omega,by show I64 (posA t a).2;unfold I64;omega,by show (ByteArray.mk #[]).size<=_;decide,IsSl.nil⟩⟩)
  have hnum:=Zf f1;have hX1:tokX s (posA t a)=if LowP s then .ok (.mk 1 0 (posA t a).1 (posA t a).2 (lowS s) []) else .error 8:=by unfold tokX;rw [if_neg hnum]
  have hcall:=YlY (fz:=fz) (s:=s);by_cases hl:LowP s
  ·rw [if_pos hl,decide_eq_true hl] at hcall;rw [if_pos hl] at hX1;refine wc hcall ?_;exact wN (h:=by exact ⟨.mk 1 0 (posA t a).1 (posA t a).2 (lowS s) [],rfl,rfl,rfl,hX1,⟨by unfold I64;show _/\_;simp [Sexpr.kind],by unfold I64;show _/\_;simp [Sexpr.value],by show I64 (posA t a).1;unfold I64;omega,by show I64 (posA t a).2;unfold I64;omega,by show (lowS s).size<=_;rw [YkH];exact hsh,IsSl.nil⟩⟩)
  rw [if_neg hl,decide_eq_false hl] at hcall;rw [if_neg hl] at hX1;rw [hX1] at hX0;refine wc hcall ?_;refine zW ?_;exact ret1 (H':=(gr,rdO t a n v0)::Hr) rfl rfl Zb ⟨rfl,by rw [hX0];exact ⟨(Yg Zh).symm,h⟩⟩
 rintro σ fz' H' ⟨X,rfl,rfl,rfl,hX1,hXR⟩;rw [hX1] at hX0;rw [hunf];refine wC ?_ ?_<;>intro c4
 ·have hn4:n=4096:=by omega
  refine zW ?_;exact ret1 (H':=(gr,rdO t a n v0)::Hr) rfl rfl Zb ⟨rfl,by rw [hX0];simp only [hn4,if_true];exact ⟨(Yg Zh).symm,hn4 ▸ h⟩⟩
 have hn4:¬n=4096:=by omega
 have hX3:tokM t a n (e::st)=.ok (E,n+1,e.add X::st):=by rw [hX0];simp only [hn4,if_false];rfl
 have h1:RdS fz gr t a (n+1) (e::st) ((gr,rdO t a (n+1:Nat) v0)::Hr):=by
  rw [<- hv0,<- hrest];exact ⟨go,cap,cur,ls,Hk,rfl,hB,hL⟩
 have hunf1:=rdO.eq_1 t a (n+1:Nat) v0;rw [hunf1] at h1;refine zW ?_;refine Ya (Does.perm (Zq (l₁:=(gr,_)::Hr) (l₂:=[(g3,_)])) (Ym ((gr,_)::Hr) [(g3,_)] Zz (add_s h1 hXR hek hst) (fun r1 fz1 H1 hle1 hR1=>?_)));obtain ⟨rfl,rfl,hR1⟩:=hR1;have hR2:=hR1;obtain ⟨go1,cap1,cur1,ls1,Hk1,rfl,hB1,hL1⟩:=hR1;generalize hrest1:((go1,Obj.cells (List.toArray cur1) 86 (0,0))::Hk1)=Hr1 at*;generalize hv1:(.slice (some (.mk go1 0 none)) (e.add X::st).length cap1:Value)=v1 at*;rw [List.cons_append];refine zW ?_;refine Yi (fun q σ fz' H'=>∃ k:Nat,k<=E/\q=E - k/\σ=[(5,Zk E),(0,Zp gr)]/\fz1=fz'/\H'=(gr,rdO t k (n+1:Nat) v1)::Hr1) ⟨a,hEa,rfl,rfl,rfl,rfl⟩ Zw (List.Sublist.cons_cons _ (List.sublist_append_left _ _)) ?_;rintro q σ fz' H' ⟨k,hk,rfl,rfl,rfl,rfl⟩;have hunf2:=rdO.eq_1 t k (n+1:Nat) v1;rw [hunf2];refine wC ?_ ?_<;>intro c5
 ·refine zW ?_;refine Ya (Ym [(gr,rdO t k (n+1:Nat) v1)] Hr1 Zz (YmN ht Zi) (fun r2 fz2 H2 hle2 hR3=>?_));obtain ⟨rfl,rfl,rfl⟩:=hR3;exact wP (h:=by exact ⟨k+1,by omega,rfl,rfl,rfl,rfl⟩)
 have hkE:k=E:=by omega
 subst hkE;refine zW ?_;exact ret1 (H':=(gr,rdO t k (n+1:Nat) v1)::Hr1) rfl rfl Zb ⟨rfl,by rw [hX3];exact ⟨rfl,go1,cap1,cur1,ls1,Hk1,by rw [<- hv1,<- hrest1],hB1,hL1⟩⟩
end Go.Proofs.YtiligkgjcmokbaaGreatDoor
namespace Go.Lx
open Go.RowKit
variable {α:Type} {fz:FZ} {g j n:Nat} {L:Lay α}
section
variable {P:Program} {cx:Cx} {r:Operand->Option Value} {fz:FZ} {H:HP} {V:Value->Prop} {dst:Option Nat} {ty:TypeId} {pos:String} {af:Array Edge} {gd:Option (Nat × Bool)}
variable {A:Option Addr} {X Y:Ty} {e t:TypeId} {j n:Nat}
theorem Ykk (T:Tab P) {x i:Operand} {c:Nat} (hT:T.inf t=some X) (hd:X.desc=.slice e) (hY:T.inf e=some Y)
 (hx:r x=some (.slice A n c)) (hi:r i=some (Zk j)) (hj:j<=c) (h:V (.slice A j c)):DoesQ P cx ⟨dst,.slice t x none (some i) none,ty,pos,af,gd⟩ r fz H V:=
 YC (fun ρ w hr=>by
  have hu:=run_underlying (und_plain T hT hd rfl) w;have hs:=Lx.run_sizeOf T hY w;simp [execOp,hr _ _ hx,hr _ _ hi,Instr.sliceAt,Instr.slice,Instr.sliceBounds,Instr.sliceBound,asIntOf,hu,hs,hj];intro _;cases A<;>simp [Addr.add]) h
end
theorem gB_cut {e:Nat} {cap:Nat} {cur:List Value} {l:List α} (h:GrowB L e fz g n cap cur l) {d:α} (hj:l[j]?=some d):∃ cs,L.rep fz d cs/\(cur.drop (j*L.size)).take L.size=cs:=by
 obtain ⟨cs,h1,h2⟩:=Yp3 h hj;have hl:=L.len h1;refine ⟨cs,h1,List.ext_getElem? fun i=>?_⟩;by_cases hi:i<L.size
 ·rw [List.getElem?_take_of_lt hi,List.getElem?_drop,List.getElem?_eq_getElem (by omega:i<cs.length)];exact h2 i _ (List.getElem?_eq_getElem Zi)
 rw [List.getElem?_eq_none (by rw [List.length_take];omega),List.getElem?_eq_none Zi]
end Go.Lx
namespace Go.Proofs.YtiligkgjcmokbaaGreatDoor
variable {α β:Type} {H:HP} {fz:FZ} {n:Nat} {vk va:Value} {A:Option Addr} {cs:List Value} {L:Lay α}
def Yd9 (t:Bs) (a n:Nat) (st:List Lev):Except Int (Nat × Nat × List Lev):=
 match t[a]? with
 | none=>.error 0
 | some b=>
  if b=40 then if 32<st.length\/n=4096 then .error 5 else .ok (a+1,n+1,⟨3,(posA t a).1,(posA t a).2,[]⟩::st)
  else if b=41 then match st with
   | e::e2::r=>.ok (a+1,n,e2.add e.x::r)
   | _=>.error 2
  else tokM t a n st
theorem next_f {gr a:Nat} {t:Bs} {e:Lev} {st:List Lev} (h:RdS fz gr t a n (e::st) H) (ht:t.size<=1000000) (ha:a<t.size) (hn:n<=4096) (hN:lvN (e::st)<=n+1) (hst:st.length<=40):
 GFn prog 175 [Zp gr] fz H (fun r fz' H'=>Le fz fz'/\RdR fz' gr t a n (e::st) (Yd9 t a n (e::st)) r H'):=by
 have hbd:=YgT t a;have h0:=h;obtain ⟨b,hb,hb2⟩:=WC ha;have hM:Yd9 t a n (e::st)=if b=40 then if 32<(e::st).length\/n=4096 then .error 5 else .ok (a+1,n+1,⟨3,(posA t a).1,(posA t a).2,[]⟩::e::st)
  else if b=41 then (match e::st with
   | e::e2::r=>.ok (a+1,n,e2.add e.x::r)
   | _=>.error 2)
  else tokM t a n (e::st):=by
   unfold Yd9;rw [hb]
 have hlen:(e::st).length=st.length+1:=List.length_cons;obtain ⟨go,cap,cur,ls,Hk,rfl,hB,hL⟩:=h;have hcap:=hB.capn;have hunf:=rdO.eq_1 t a n (Zv go (e::st).length cap);rw [hunf];refine zF Tryz.func175 Tryz.ntmps175 (fun w0=>?_);refine wG ?_;refine Xq ?_ (hb:=by rw [Int.toNat_natCast];exact hb);refine QL.done ?_;refine Yds ?_;refine YY (fun σ fz' H'=>∃ (n':Nat) (st':List Lev),σ=[(0,Zp gr)]/\Le fz fz'/\RdS fz' gr t a n' st' H'/\Yd9 t a n (e::st)=.ok (a+1,n',st')) ?_ ?_
 ·refine wC ?_ ?_<;>intro c1
  ·have hb1:b=40:=by rw [<- UInt8.toNat_inj];show b.toNat=40;omega
   rw [if_pos hb1] at hM;refine wC ?_ ?_<;>intro c2
   ·refine zW ?_;exact ret1 (H':=(gr,rdO t a n _)::(go,_)::Hk) rfl rfl Zb ⟨Zd,by rw [hM,if_pos (.inl (by rw [List.length_cons] at c2 ⊢;omega))];exact ⟨(Yg Zh).symm,h0⟩⟩
   refine wC ?_ ?_<;>intro c3
   ·refine zW ?_;exact ret1 (H':=(gr,rdO t a n _)::(go,_)::Hk) rfl rfl Zb ⟨Zd,by rw [hM,if_pos (.inr Zi)];exact ⟨(Yg Zh).symm,h0⟩⟩
   rw [if_neg (by rintro (h | h);rw [List.length_cons] at c2 h;omega;omega)] at hM;refine zW ?_;refine WP [18,19] ((gr,_)::Hk) ?_;refine zW ?_;refine Yn (Yn (Yn (Yn ?_)));refine PK.p Zz (fun fz'=>by first | exact XC rfl | exact YU Zz rfl | exact Yt rfl | exact W4 Zz Zz (YQ Zi) rfl | exact Yw rfl) ?_;refine PK.p Zz (fun fz'=>by first | exact XC rfl | exact YU Zz rfl | exact Yt rfl | exact W4 Zz Zz (YQ Zi) rfl | exact Yw rfl) ?_;refine pT ?_;refine Yh ?_;refine Yd (Yb (cs:=zroC) (fun gb=>⟨⟨Zd,fun p hp=>by rcases List.mem_cons.1 hp with rfl | hp<;>simp [*]⟩,?_⟩));refine Yh ?_;refine Yd (YkN (Hr:=(gb,_)::(gr,_)::Hk) (ys:=[(zroC,zroC)]) (l2:=[zroC]) (m:=1) (((Zq (l₁:=[_]) (l₂:=Hk)).cons _).cons _) hB.grow YiU (.head _) (List.append_nil _).symm rfl rfl (fun v' Hs' hO'=>⟨⟨Zd,fun p hp=>by rcases List.mem_cons.1 hp with rfl | hp<;>simp [*]⟩,?_⟩) (hys:=by intro p hp;simp at hp;subst hp;exact ⟨rfl,rfl,by decide⟩));obtain ⟨gk,cap2,cur1,rfl,rfl,hB1⟩:=hO'.b Zi;have hfin:∀ cur2,GrowB rawL 86 fz gk ((e::st).length+1) cap2 cur2 ((ls++ [zroC]).set (e::st).length (lvC ⟨3,(posA t a).1,(posA t a).2,[]⟩ Zn))->
    RdS fz gr t a (n+1) (⟨3,(posA t a).1,(posA t a).2,[]⟩::e::st) ((gr,rdO t a (n+1:Nat) (Zv gk ((e::st).length+1) cap2))::(gk,Zu (List.toArray cur2) 86)::Hk):=by
    intro cur2 h2;rw [YiO hB.len] at h2;exact ⟨gk,cap2,cur2,_,Hk,rfl,h2,ls,Hk,Zn,[],rfl,(List.append_nil _).symm,hL,Grow.nil _ _ _,by unfold I64;show _/\_;simp,by unfold I64;show _/\_;constructor<;>(simp only [];omega),by unfold I64;show _/\_;constructor<;>(simp only [];omega)⟩
   have hraw:rawL.rep fz (lvC ⟨3,(posA t a).1,(posA t a).2,[]⟩ Zn) [Zk 3,Zk 0,Zk (posA t a).1,Zk (posA t a).2,Ze,Zn]:=⟨rfl,rfl,by intro u hu;simp [lvC] at hu;rcases hu with rfl | rfl | rfl | rfl | rfl | rfl<;>rfl⟩;refine XD ?_ ?_
   ·refine PoS.hard (DoesQ.does (Yq rfl ?_));refine XD ?_ ?_
    ·refine PoS.hard0 (YI (pre:=(gb,_)::(gr,_)::Hk) (L:=rawL) (j:=(e::st).length) rfl rfl YiU hraw hB1 (fun cur2 hB2=>?_));refine Yh ?_;refine PoS.hard0 (Y9 ?_);refine Po.done ?_;refine zW ?_;exact midP (((Zq (l₁:=[_]) (l₂:=Hk)).cons _).cons _) ⟨n+1,_,rfl,Zd,hfin cur2 hB2,hM⟩ Zw Zb
    refine PoS.hard0 (Y9 ?_);refine Yh ?_;refine PoS.hard0 (YI (pre:=(gb,_)::(gr,_)::Hk) (L:=rawL) (j:=(e::st).length) rfl rfl YiU hraw hB1 (fun cur2 hB2=>?_));refine Po.done ?_;refine zW ?_;exact midP (((Zq (l₁:=[_]) (l₂:=Hk)).cons _).cons _) ⟨n+1,_,rfl,Zd,hfin cur2 hB2,hM⟩ Zw Zb
   refine PoS.hard0 (Y9 ?_);refine Yh ?_;refine PoS.hard (DoesQ.does (Yq rfl ?_));refine Yh ?_;refine PoS.hard0 (YI (pre:=(gb,_)::(gr,_)::Hk) (L:=rawL) (j:=(e::st).length) rfl rfl YiU hraw hB1 (fun cur2 hB2=>?_));refine Po.done ?_;refine zW ?_;exact midP (((Zq (l₁:=[_]) (l₂:=Hk)).cons _).cons _) ⟨n+1,_,rfl,Zd,hfin cur2 hB2,hM⟩ Zw Zb
  have hb1:¬b=40:=fun h=>c1 (by rw [h];rfl)
  rw [if_neg hb1] at hM;refine wC ?_ ?_<;>intro c2
  ·have hb2:b=41:=by rw [<- UInt8.toNat_inj];show b.toNat=41;omega
   rw [if_pos hb2] at hM;refine wC ?_ ?_<;>intro c3
   ·have hst0:st=[]:=List.eq_nil_of_length_eq_zero (by rw [List.length_cons] at c3;omega);subst hst0;refine zW ?_;exact ret1 (H':=(gr,rdO t a n _)::(go,_)::Hk) rfl rfl Zb ⟨Zd,by rw [hM];exact ⟨(Yg Zh).symm,h0⟩⟩
   obtain _ | ⟨e2,st2⟩:=st
   ·exact absurd rfl c3
   obtain ⟨ls',H',v,Hl,rfl,rfl,hL',hG,hI⟩:=hL;obtain ⟨Av,cv,rfl,_,_⟩:=hG.form;have hl':=hL'.len;obtain ⟨cs,hc1,hc2⟩:=gB_cut hB (j:=(e2::st2).length) (d:=lvC e (Zc Av e.kids.length cv)) (by rw [List.getElem?_append_right Zi,hl',Nat.sub_self];rfl);have hc3:=hc1.1;subst hc3;have e1:(((e::e2::st2).length:Nat):Int) - 1=((e2::st2).length:Nat):=by omega
   rw [e1];have hek:e.kids.length<=1000000:=by have:=YpH (st:=e::e2::st2) (e:=e) (by simp);omega
   have hek2:e2.kids.length<=1000000:=by have:=YpH (st:=e::e2::st2) (e:=e2) (by simp);omega
   have hln2:st2.length<=900:=by rw [List.length_cons] at hst;omega
   refine wG ?_;refine Yq rfl ?_;refine zG ?_;refine Yc (vs:=lvC e (Zc Av e.kids.length cv)) 1 ?_ (hv:=hc2);refine zW ?_;intros;refine zG ?_;refine Ykk T Zz Zz Zz Zz Zz Zi ?_;refine zW ?_;refine Seq.freezeAll (H1:=(_,_)::(gr,_)::(go,_)::H') (H2:=Hl) (Zr _) (fun fz1 hle1 hf1=>?_);rename_i g4;obtain ⟨A1,c1',hv1,hS1⟩:=hG.sl hle1 hf1 Zi;injection hv1 with hv1 hv2 hv3
   subst hv1 hv3;have hXR:YT fz1 e.x (Zc Av e.kids.length cv):=⟨hI.1,by unfold I64;show _/\_;simp [Lev.x,Sexpr.value],hI.2.1,hI.2.2,by show (ByteArray.mk #[]).size<=_;decide,⟨_,_,_,rfl,hS1⟩⟩;have h1:RdS fz1 gr t a n (e2::st2) ((gr,rdO t a n (Zv go (e2::st2).length cap))::(go,Zu (List.toArray cur) 86)::H'):=⟨go,cap,cur,ls',H',rfl,hB.pop.mono hle1,hL'.mono hle1⟩;refine Ya (Does.perm (Zq (l₁:=(gr,_)::(go,_)::H') (l₂:=[(g4,_)])) (Ym ((gr,_)::(go,_)::H') [(g4,_)] Zz (add_s h1 hXR hek2 hln2) (fun r1 fz2 H2 hle2 hR1=>?_)));obtain ⟨rfl,rfl,hR1⟩:=hR1;refine zW ?_;exact midN ⟨n,_,rfl,hle1,hR1,hM⟩ Zw (List.sublist_append_left _ _)
  have hb2:¬b=41:=fun h=>c2 (by rw [h];rfl)
  rw [if_neg hb2] at hM;refine zW ?_;refine Ya (Ym ((gr,_)::(go,_)::Hk) [] ((List.append_nil _).symm) (token_f h0 ht Zi hn hN Zi) (fun r1 fz1 H1 hle1 hR1=>?_));obtain ⟨rfl,hR1⟩:=hR1;refine zW ?_;exact ret1 (H':=H1) rfl rfl (List.sublist_append_left _ _) ⟨Zd,by rw [hM];exact hR1⟩
 rintro σ fz' H' ⟨n',st',rfl,hle,hR,hM2⟩;obtain ⟨go1,cap1,cur1,ls1,Hk1,rfl,hB1,hL1⟩:=hR;refine zW ?_;refine Ya (Ym [(gr,rdO t a n' _)] ((go1,_)::Hk1) Zz (YmN ht ha) (fun r2 fz2 H2 hle2 hR3=>?_));obtain ⟨rfl,rfl,rfl⟩:=hR3;refine zW ?_;exact ret1 (H':=(gr,rdO t (a+1) n' _)::(go1,_)::Hk1) rfl rfl Zb ⟨hle,by rw [hM2];exact ⟨rfl,go1,cap1,cur1,ls1,Hk1,rfl,hB1,hL1⟩⟩
def LevI (n:Nat) (st:List Lev):Prop:=st≠ []/\lvN st<=n+1/\st.length<=33/\n<=4096
theorem Ydt:∀ (l:List UInt8) (m:Bool) (b:UInt8) (r:List UInt8),l.drop (Ycv m l)=b::r->¬SepP b.toNat/\b≠59
 | [],m,b,r,h=>by simp at h
 | x::l,true,b,r,h=>by
  rw [Ycv] at h;split at h
  ·rw [Nat.add_comm,List.drop_succ_cons] at h;exact Ydt l false b r h
  rw [Nat.add_comm,List.drop_succ_cons] at h;exact Ydt l true b r h
 | x::l,false,b,r,h=>by
  rw [Ycv] at h;split at h
  ·rw [Nat.add_comm,List.drop_succ_cons] at h;exact Ydt l false b r h
  rename_i h1;split at h
  ·rw [Nat.add_comm,List.drop_succ_cons] at h;exact Ydt l true b r h
  rename_i h2;rw [List.drop_zero] at h;injection h with h3 h4
  subst h3;exact ⟨h1,h2⟩
theorem YnU {t:Bs} {a:Nat} {b:UInt8} (h:t[Wv false t a]?=some b):¬SepP b.toNat/\b≠59:=by
 have h1:=Ya3 h;rw [Wv,<- List.drop_drop] at h1;exact Ydt _ false b _ h1
theorem skipA_ge {m:Bool} {t:Bs} {a:Nat}:a<=Wv m t a:=by unfold Wv;omega
theorem tokE_le {t:Bs} {a:Nat} (h:a<=t.size):tokE t a<=t.size:=by
 have:=Yly (t.data.toList.drop a);rw [List.length_drop,YbG] at this;unfold tokE;omega
theorem next_ok {t:Bs} {a a' n':Nat} {st st':List Lev} (h:Yd9 t a n st=.ok (a',n',st')) (ha:a<t.size) (hs:∀ b,t[a]?=some b->¬SepP b.toNat/\b≠59) (hI:LevI n st):a<a'/\a'<=t.size/\LevI n' st':=by
 obtain ⟨b,hb,hb2⟩:=WC ha;obtain ⟨i1,i2,i3,i4⟩:=hI;have hs:=hs b hb;unfold Yd9 at h;rw [hb] at h;simp only at h;split at h
 ·split at h
  ·cases h
  rename_i h1;injection h with h
  injection h with h2 h3
  injection h3 with h3 h4
  subst h2 h3 h4;rw [not_or] at h1;exact ⟨by omega,by omega,by simp,by rw [lvN];simp only [List.length_nil];omega,by rw [List.length_cons];omega,by omega⟩
 rename_i h40;split at h
 ·split at h
  ·rename_i e e2 r _;injection h with h
   injection h with h2 h3
   injection h3 with h3 h4
   subst h2 h3 h4;simp only [lvN,Lev.add,List.length_append,List.length_cons,List.length_nil] at i2 i3 ⊢;exact ⟨by omega,by omega,by simp,by simp only [lvN,List.length_append,List.length_cons,List.length_nil];omega,by simp only [List.length_cons];omega,by omega⟩
  cases h
 rename_i h41;have hst:¬StopP b:=by
  rintro (h5 | h5 | h5 | h5)
  ·exact hs.1 h5
  ·exact h40 h5
  ·exact h41 h5
  exact hs.2 h5
 unfold tokM at h;split at h
 ·cases h
 split at h
 ·cases h
 unfold addM at h;split at h
 ·cases h
 rename_i e r;injection h with h
 injection h with h2 h3
 injection h3 with h3 h4
 subst h2 h3 h4;have h6:a+1<=tokE t a:=by rw [YoJ hb hst];unfold tokE;omega
 simp only [lvN,Lev.add,List.length_cons] at i2 i3;exact ⟨by omega,tokE_le Zi,by simp,by simp only [lvN,Lev.add,List.length_append,List.length_cons,List.length_nil];omega,by simp only [List.length_cons];omega,by omega⟩
theorem next_err {t:Bs} {a:Nat} {st:List Lev} {c:Int} (h:Yd9 t a n st=.error c) (ha:a<t.size) (hst:st≠ []):c≠0:=by
 obtain ⟨b,hb,hb2⟩:=WC ha;unfold Yd9 at h;rw [hb] at h;simp only at h;split at h
 ·split at h
  ·injection h with h;subst h;decide
  cases h
 split at h
 ·split at h
  ·cases h
  injection h with h;subst h;decide
 unfold tokM at h;split at h
 ·rename_i h1;injection h with h
  subst h;unfold tokX at h1;split at h1
  ·split at h1
   ·injection h1 with h1;subst h1;decide
   cases h1
  split at h1
  ·cases h1
  injection h1 with h1;subst h1;decide
 split at h
 ·injection h with h;subst h;decide
 unfold addM at h;split at h
 ·exact absurd rfl hst
 cases h
def endM:List Lev->Except (Int × Int × Int) (List Sexpr)
 | []=>.error (0,0,0)
 | [e]=>.ok e.kids
 | e::_::_=>.error (e.l,e.c,2)
def Ydv (t:Bs):Nat->Nat->Nat->List Lev->Except (Int × Int × Int) (List Sexpr)
 | 0,_,_,_=>.error (0,0,0)
 | f+1,a,n,st=>
  if t.size<=Wv false t a then endM st
  else match Yd9 t (Wv false t a) n st with
   | .error c=>.error ((posA t (Wv false t a)).1,(posA t (Wv false t a)).2,c)
   | .ok (a',n',st')=>Ydv t f a' n' st'
theorem YbM {t:Bs} {f a:Nat} {st:List Lev}:Ydv t (f+1) a n st=if t.size<=Wv false t a then endM st
 else match Yd9 t (Wv false t a) n st with
  | .error c=>.error ((posA t (Wv false t a)).1,(posA t (Wv false t a)).2,c)
  | .ok (a',n',st')=>Ydv t f a' n' st':=rfl
def Ygb (t:Bs):Except (Int × Int × Int) (List Sexpr):=
 if 65536<t.size then .error (0,0,5) else Ydv t (t.size+1) 0 0 [⟨0,0,0,[]⟩]
def ReadR (fz:FZ) (x:Except (Int × Int × Int) (List Sexpr)) (v:Value):Prop:=
 match x with
 | .error (l,c,e)=>v=.tuple #[.slice none 0 0,.int .i64 l,.int .i64 c,errV e]/\e≠0/\I64 l/\I64 c
 | .ok xs=>∃ A n c,v=.tuple #[.slice A n c,.int .i64 0,.int .i64 0,.nilIface]/\Sl YE fz A n c xs
theorem read_f {t:Bs}:GFn prog 115 [Zy t] fz [] (fun r fz' H'=>H'=[]/\ReadR fz' (Ygb t) r):=by
 have hM:Ygb t=if 65536<t.size then .error (0,0,5) else Ydv t (t.size+1) 0 0 [⟨0,0,0,[]⟩]:=rfl
 refine zF Tryz.func115 Tryz.ntmps115 (fun w0=>?_);refine wC ?_ ?_<;>intro c1
 ·rw [if_pos Zi] at hM;refine zW ?_;exact YS T (vs:=[Zn,Zk 0,Zk 0,.iface 89 (Zk 5)]) ⟨rfl,rfl,rfl,rfl,trivial⟩ (fun fz3 hle3 hf3=>⟨rfl,by rw [hM];exact ⟨rfl,by decide,i64z,i64z⟩⟩)
 rw [if_neg Zi] at hM;refine zW ?_;refine Ya (Yl2 (l:=1) (c:=1) Zh (fun go=>?_) (hb:=by decide) (hc:=by decide));refine zW ?_;intros;rename_i gr;have ht:t.size<=1000000:=by omega
 refine Ya (Ym [(gr,rdO t 0 0 (Zv go 1 1))] [(go,_)] Zz (skip_f (n:=0) ht (Z0 _)) (fun r1 fz1 H1 hle1 hR1=>?_));obtain ⟨rfl,rfl,rfl⟩:=hR1;have h1:RdS fz1 gr t (Wv false t 0) 0 [⟨0,0,0,[]⟩] ((gr,rdO t (Wv false t 0) 0 (Zv go 1 1))::(go,Zu zroC.toArray 86):: []):=by
  exact ⟨go,1,zroC,[zroC],[],rfl,⟨⟨[(zroC,zroC)],rfl,by intro p hp;simp at hp;subst hp;exact ⟨rfl,rfl,by decide⟩,rfl⟩,rfl,by decide,by decide,rfl⟩,[],[],Zn,[],rfl,rfl,⟨rfl,rfl⟩,Grow.nil _ _ _,i64z,i64z,i64z⟩
 refine zW ?_;refine Yi (fun q σ fz' H'=>∃ (f a n:Nat) (st:List Lev),q=f/\σ=[(6,Zp gr),(0,Zy t)]/\Le fz1 fz'/\RdS fz' gr t (Wv false t a) n st H'/\a<=t.size/\LevI n st/\t.size - a<f/\Ygb t=Ydv t f a n st) ⟨t.size+1,0,0,_,rfl,rfl,Zd,h1,Z0 _,⟨by simp,by simp [lvN],by simp,by decide⟩,by omega,hM⟩ Zw Zb ?_;rintro q σ fz' H' ⟨f,a,n,st,rfl,rfl,hle,hR,ha,hI,hf,hG⟩;obtain _ | q:=q
 ·omega
 have hR0:=hR;obtain ⟨g2,cap,cur,ls,Hk,rfl,hB,hL⟩:=hR;have hunf:=rdO.eq_1 t (Wv false t a) n (Zv g2 st.length cap);have hbd:=YgT t (Wv false t a);have hcap:=hB.capn;rw [hunf];rw [YbM] at hG;obtain ⟨i1,i2,i3,i4⟩:=hI;obtain _ | ⟨e,st⟩:=st
 ·exact absurd rfl i1
 refine wC ?_ ?_<;>intro c2
 ·rw [if_neg Zi] at hG;refine zW ?_;refine Ya (Ym ((gr,_)::(g2,_)::Hk) [] ((List.append_nil _).symm) (next_f hR0 ht Zi i4 i2 (by rw [List.length_cons] at i3;omega)) (fun r1 fz2 H1 hle1 hR1=>?_));obtain ⟨_,hR1⟩:=hR1;cases hN:Yd9 t (Wv false t a) n (e::st) with
  | error c=>
   rw [hN] at hG hR1;have hc:=next_err hN Zi (by simp);obtain ⟨rfl,go3,cap3,cur3,ls3,Hk3,rfl,hB3,hL3⟩:=hR1;have hunf3:=rdO.eq_1 t (Wv false t a) n (Zv go3 (e::st).length cap3);rw [hunf3,Yg hc];refine zW ?_;exact YS T (vs:=[Zn,Zk (posA t (Wv false t a)).1,Zk (posA t (Wv false t a)).2,.iface 89 (Zk c)]) ⟨rfl,rfl,rfl,rfl,trivial⟩ (fun fz3 hle3 hf3=>⟨rfl,by rw [hG];exact ⟨by rw [Yg hc],hc,by unfold I64;omega,by unfold I64;omega⟩⟩)
  | ok x=>
   obtain ⟨a',n',st'⟩:=x;rw [hN] at hG hR1;obtain ⟨rfl,hR2⟩:=hR1;obtain ⟨j1,j2,j3⟩:=next_ok hN Zi (fun b hb=>YnU hb) ⟨i1,i2,i3,i4⟩;obtain ⟨go3,cap3,cur3,ls3,Hk3,rfl,hB3,hL3⟩:=hR2;have hag:=skipA_ge (m:=false) (t:=t) (a:=a);rw [List.append_nil];refine zW ?_;refine Ya (Ym [(gr,rdO t a' n' (Zv go3 st'.length cap3))] ((go3,_)::Hk3) Zz (skip_f ht j2) (fun r4 fz4 H4 hle4 hR4=>?_));obtain ⟨rfl,rfl,rfl⟩:=hR4;exact wP (h:=by exact ⟨q,a',n',st',rfl,rfl,hle.trans hle1,⟨go3,cap3,cur3,ls3,Hk3,rfl,hB3,hL3⟩,j2,j3,by omega,hG⟩)
 rw [if_pos Zi] at hG;refine wC ?_ ?_<;>intro c3
 ·obtain _ | ⟨e2,st⟩:=st
  ·exact absurd c3 (by rw [show [e].length=1 from rfl];decide)
  obtain ⟨ls',H',v,Hl,rfl,rfl,hL',hG',hI'⟩:=hL;obtain ⟨Av,cv,rfl,_,_⟩:=hG'.form;have hl':=hL'.len;obtain ⟨cs,hc1,hc2⟩:=Yp3 hB (j:=(e2::st).length) (d:=lvC e (Zc Av e.kids.length cv)) (by rw [List.getElem?_append_right Zi,hl',Nat.sub_self];rfl);have hc3:=hc1.1;subst hc3;have e1:(((e::e2::st).length:Nat):Int) - 1=((e2::st).length:Nat):=by simp only [List.length_cons];push_cast;omega
  have hln:(e::e2::st).length=(e2::st).length+1:=List.length_cons;refine wG ?_;refine Yq rfl ?_;rw [show ((((e::e2::st).length:Nat):Int) - 1).toNat=(e2::st).length by omega];refine wG ?_;refine Yx 1 ?_ (hv:=hc2 2 _ rfl);refine wG ?_;refine Yq rfl ?_;rw [show ((((e::e2::st).length:Nat):Int) - 1).toNat=(e2::st).length by omega];refine wG ?_;refine Yx 1 ?_ (hv:=hc2 3 _ rfl);refine zW ?_;exact YS T (vs:=[Zn,Zk e.l,Zk e.c,.iface 89 (Zk 2)]) ⟨rfl,rfl,rfl,rfl,trivial⟩ (fun fz3 hle3 hf3=>⟨rfl,by rw [hG];exact ⟨rfl,by decide,hI'.2.1,hI'.2.2⟩⟩)
 have hst:st=[]:=List.eq_nil_of_length_eq_zero (by rw [List.length_cons] at c3;omega);subst hst;obtain ⟨ls',H',v,Hl,rfl,rfl,hL',hG',hI'⟩:=hL;obtain ⟨Av,cv,rfl,_,_⟩:=hG'.form;have hl':=hL'.len;obtain ⟨cs,hc1,hc2⟩:=Yp3 hB (j:=0) (d:=lvC e (Zc Av e.kids.length cv)) (by rw [List.getElem?_append_right (by rw [hl'];exact Z0 _),hl'];rfl);have hc3:=hc1.1;subst hc3;refine wG ?_;refine Yq rfl ?_ (h0:=by decide) (hn:=by rw [List.length_cons];omega);refine wG ?_;refine Yx 1 ?_ (hv:=hc2 5 _ rfl);refine zW ?_;refine YS T (vs:=[Zc Av e.kids.length cv,Zk 0,Zk 0,.nilIface]) ⟨rfl,rfl,rfl,rfl,trivial⟩ (fun fz3 hle3 hf3=>⟨rfl,?_⟩);obtain ⟨A1,c1',hv1,hS1⟩:=hG'.sl hle3 (fun p hp=>hf3 p (by simp [hp])) (by have:=YpH (st:=[e]) (e:=e) (by simp);omega);injection hv1 with hv1 hv2 hv3
 subst hv1 hv3;rw [hG];exact ⟨_,_,_,rfl,hS1⟩
theorem Ycn {l:List α} {k:Nat} {x:α} (h:l[k]?=some x):l.drop k=x::l.drop (k+1):=by
 obtain ⟨h1,h2⟩:=Zg h;rw [List.drop_eq_getElem_cons h1,h2]
theorem YdW:OneC strL:=by
 intro fz d cs h u hu;obtain ⟨rfl,_⟩:=h;simp at hu;subst hu;rfl
def ResS {α:Type} (L:Lay α) (fz:FZ) (x:Except Int (List α)) (v:Value):Prop:=
 match x with
 | .error c=>v=.tuple #[.slice none 0 0,errV c]/\c≠0
 | .ok l=>∃ A n c,v=.tuple #[.slice A n c,.nilIface]/\Sl L fz A n c l
def exA {α:Type} (o:List α):Except Int (List α)->Except Int (List α)
 | .error c=>.error c
 | .ok l=>.ok (o++l)
theorem YdL {x:Except Int (List α)}:exA [] x=x:=by cases x<;>rfl
theorem Yhn {a b:List α} {x:Except Int (List α)}:exA a (exA b x)=exA (a++b) x:=by cases x<;>simp [exA]
def XP (x:Sexpr):Option (Bs × List Sexpr):=match x.kids with
 | []=>none
 | w::r=>if x.kind=3/\w.kind=1 then some (w.text,r) else none
def YeB (fz:FZ) (x:Sexpr) (v:Value):Prop:=match XP x with
 | none=>v=.tuple #[.string ⟨#[]⟩,.slice none 0 0,.bool false]
 | some (w,r)=>∃ A n c,v=.tuple #[.string w,.slice A n c,.bool true]/\Sl YE fz A n c r/\Short w
theorem head_f {x:Sexpr} (h:YT fz x vk):GFn prog 308 [.agg #[Zk x.kind,Zk x.value,Zk x.line,Zk x.column,Zy x.text,vk]] fz [] (fun r fz' H'=>fz'=fz/\H'=[]/\YeB fz x r):=by
 obtain ⟨A,n,c,rfl,ik⟩:=h.kids;have hl:=ik.len;have no:XP x=none->YeB fz x (.tuple #[Ze,Zn,Zo false]):=fun e=>by unfold YeB;rw [e]
 have hM:XP x=match x.kids with
  | []=>none
  | w::r=>if x.kind=3/\w.kind=1 then some (w.text,r) else none:=rfl
 refine zF Tryz.func308 Tryz.ntmps308 (fun w0=>?_);refine zW ?_;intros;refine zC ?_ ?_<;>intro c1
 ·refine zW ?_;exact retN T (H':=[]) (vs:=[Ze,Zn,Zo false]) ⟨rfl,rfl,rfl,trivial⟩ Zb ⟨rfl,rfl,no (by rw [hM];split;rfl;rw [if_neg (fun h=>c1 h.1)])⟩
 refine wC ?_ ?_<;>intro c2
 ·have hk:x.kids=[]:=List.eq_nil_of_length_eq_zero Zi;refine zW ?_;exact retN T (H':=[]) (vs:=[Ze,Zn,Zo false]) ⟨rfl,rfl,rfl,trivial⟩ Zb ⟨rfl,rfl,no (by rw [hM,hk])⟩
 obtain ⟨w,r,hk⟩:∃ w r,x.kids=w::r:=by
  cases hx:x.kids with
  | nil=>rw [hx] at hl;simp at hl;omega
  | cons w r=>exact ⟨w,r,rfl⟩
 have hk0:x.kids[0]?=some w:=by rw [hk];rfl
 rw [hk] at hM hl;rw [List.length_cons] at hl;refine wI ik hk0 (fun p hp=>?_);refine wG ?_;refine Xz T Zz Zz Zz hp.Sexpr_kind (fun i1=>?_);refine zC ?_ ?_<;>intro c3
 ·refine zW ?_;exact retN T (H':=[]) (vs:=[Ze,Zn,Zo false]) ⟨rfl,rfl,rfl,trivial⟩ Zb ⟨rfl,rfl,no (by rw [hM];exact if_neg (fun h=>c3 h.2))⟩
 have c1':x.kind=3:=by omega
 have c3':w.kind=1:=by omega
 have hM':XP x=some (w.text,r):=hM.trans (if_pos ⟨c1',c3'⟩);refine wI ik hk0 (fun p hp=>?_);refine wH hp.Sexpr_text (fun hs=>?_);refine wG ?_;refine Xy (j:=1) ik (fun A' hA'=>?_);refine zW ?_;exact retN T (H':=[]) (vs:=[Zy w.text,Zc A' (n - 1) (c - 1),Zo true]) ⟨rfl,rfl,rfl,trivial⟩ Zb ⟨rfl,rfl,by unfold YeB;rw [hM'];exact ⟨A',n - 1,c - 1,rfl,by rw [hk] at hA';exact hA',hs⟩⟩
theorem YgV {x:Sexpr} (h:YT fz x vk):GFn prog 184 [.agg #[Zk x.kind,Zk x.value,Zk x.line,Zk x.column,Zy x.text,vk]] fz [] (fun r fz' H'=>fz'=fz/\H'=[]/\YeB fz x r):=by
 obtain ⟨A,n,c,rfl,ik⟩:=h.kids;have hl:=ik.len;have no:XP x=none->YeB fz x (.tuple #[Ze,Zn,Zo false]):=fun e=>by unfold YeB;rw [e]
 have hM:XP x=match x.kids with
  | []=>none
  | w::r=>if x.kind=3/\w.kind=1 then some (w.text,r) else none:=rfl
 refine zF Tryz.func184 Tryz.ntmps184 (fun w0=>?_);refine zW ?_;intros;refine zC ?_ ?_<;>intro c1
 ·refine zW ?_;exact retN T (H':=[]) (vs:=[Ze,Zn,Zo false]) ⟨rfl,rfl,rfl,trivial⟩ Zb ⟨rfl,rfl,no (by rw [hM];split;rfl;rw [if_neg (fun h=>c1 h.1)])⟩
 refine wC ?_ ?_<;>intro c2
 ·have hk:x.kids=[]:=List.eq_nil_of_length_eq_zero Zi;refine zW ?_;exact retN T (H':=[]) (vs:=[Ze,Zn,Zo false]) ⟨rfl,rfl,rfl,trivial⟩ Zb ⟨rfl,rfl,no (by rw [hM,hk])⟩
 obtain ⟨w,r,hk⟩:∃ w r,x.kids=w::r:=by
  cases hx:x.kids with
  | nil=>rw [hx] at hl;simp at hl;omega
  | cons w r=>exact ⟨w,r,rfl⟩
 have hk0:x.kids[0]?=some w:=by rw [hk];rfl
 rw [hk] at hM hl;rw [List.length_cons] at hl;refine wI ik hk0 (fun p hp=>?_);refine wG ?_;refine Xz T Zz Zz Zz hp.Sexpr_kind (fun i1=>?_);refine zC ?_ ?_<;>intro c3
 ·refine zW ?_;exact retN T (H':=[]) (vs:=[Ze,Zn,Zo false]) ⟨rfl,rfl,rfl,trivial⟩ Zb ⟨rfl,rfl,no (by rw [hM];exact if_neg (fun h=>c3 h.2))⟩
 have c1':x.kind=3:=by omega
 have c3':w.kind=1:=by omega
 have hM':XP x=some (w.text,r):=hM.trans (if_pos ⟨c1',c3'⟩);refine wI ik hk0 (fun p hp=>?_);refine wH hp.Sexpr_text (fun hs=>?_);refine wG ?_;refine Xy (j:=1) ik (fun A' hA'=>?_);refine zW ?_;exact retN T (H':=[]) (vs:=[Zy w.text,Zc A' (n - 1) (c - 1),Zo true]) ⟨rfl,rfl,rfl,trivial⟩ Zb ⟨rfl,rfl,by unfold YeB;rw [hM'];exact ⟨A',n - 1,c - 1,rfl,by rw [hk] at hA';exact hA',hs⟩⟩
def Ybk:List Sexpr->Except Int (List Bs)
 | []=>.ok []
 | x::r=>if x.kind≠1 then .error 2 else if ¬YfW x.text then .error 8 else exA [x.text] (Ybk r)
theorem Ylz {c:Nat} {l:List Sexpr} (h:Sl YE fz A n c l) (hn:n<=1000000000):
 GFn prog 312 [Zc A n c] fz [] (fun r fz' H'=>H'=[]/\ResS strL fz' (Ybk l) r):=by
 have hl:=h.len;refine zF Tryz.func312 Tryz.ntmps312 (fun w0=>?_);refine zW ?_;refine Yi (fun q σ fz' H'=>∃ (k:Nat) (v:Value) (Hs:HP) (out:List Bs),k<=n/\q=n - k/\σ=[(9,Zk k),(8,Zk n),(7,Zc A n c),(4,v)]/\fz=fz'/\H'=Hs/\Grow strL 9 fz v k Hs out/\Ybk l=exA out (Ybk (l.drop k))) ⟨0,_,[],[],Z0 _,rfl,rfl,rfl,rfl,Grow.nil _ _ _,by rw [YdL];rfl⟩ Zw Zb ?_;rintro q σ fz' H' ⟨k,v,Hs,out,hk,rfl,rfl,rfl,rfl,hG,hM⟩;refine wC ?_ ?_<;>intro c1
 ·obtain ⟨x,hx⟩:=Ye (l:=l) (k:=k) Zi;rw [Ycn hx,Ybk] at hM;refine wI h hx (fun p hp=>?_);refine zL hp ?_;intro cs hcs;obtain ⟨vk,rfl,hR⟩:=Yf hcs;obtain ⟨Ak,nk,ck,rfl,ikk⟩:=hR.kids;refine zW ?_;intros;rename_i g6;refine zC ?_ ?_<;>intro c2
  ·rw [if_pos c2] at hM;exact wS (h:=by exact ⟨rfl,by rw [hM];exact ⟨rfl,by decide⟩⟩)
  rw [if_neg (Classical.not_not.2 c2)] at hM;refine wb (YoP hR.text) (fun f1=>?_) (fun f1=>?_)
  ·rw [if_neg (Classical.not_not.2 (Zt f1)),Yhn] at hM;obtain ⟨Av,cv,rfl,_,_⟩:=hG.form;refine zW ?_;refine Ya (Yb (cs:=[Zy x.text]) (fun gb=>?_));refine Ya (YN (d:=x.text) (cs:=[Zy x.text]) (Hr:=[(gb,_),(g6,_)]) (Zr _) hG YdW (.head _) ⟨rfl,hR.text⟩ (fun v' Hs' hG'=>?_));exact wP (h:=by exact ⟨k+1,v',Hs',out++ [x.text],by omega,rfl,rfl,rfl,rfl,hG',hM⟩)
  rw [if_pos (Zf f1)] at hM;exact wS (h:=by exact ⟨rfl,by rw [hM];exact ⟨rfl,by decide⟩⟩)
 obtain ⟨Av,cv,rfl,_,_⟩:=hG.form;have hkn:k=n:=by omega
 rw [List.drop_eq_nil_of_le Zi,Ybk] at hM;refine zW ?_;refine YlG rfl rfl rfl (fun fz3 hle3 hf3=>⟨rfl,?_⟩);obtain ⟨A1,c1',hv1,hS1⟩:=hG.sl hle3 hf3 Zi;injection hv1 with hv1 hv2 hv3
 subst hv1 hv3;rw [hM];exact ⟨_,_,_,rfl,by rw [List.append_nil];exact hS1⟩
def kGt:Bs:=⟨#[62]⟩
def kGe:Bs:=⟨#[62,61]⟩
def Cnt2 (w:Bs):Prop:=w=YpS\/w=kForall\/w=YaA\/w=kEq\/w=kLt\/w=kLe\/w=kGt\/w=kGe
def cntM (w:Bs):Int:=if w=kNot then 1 else if Cnt2 w then 2 else -1
theorem count_q {w:Bs}:QFn prog 309 [Zy w] fz (Zk (cntM w)):=by
 refine qF Tryz.func309 Tryz.ntmps309 (fun w0=>?_);refine wC ?_ ?_<;>intro c0
 ·exact wR (h:=by rw [cntM,if_pos (show w=kNot from c0)])
 have two:Cnt2 w->Value.int .i64 2=Zk (cntM w):=fun h=>by rw [cntM,if_neg (show ¬w=kNot from c0),if_pos h]
 refine wC ?_ ?_<;>intro c1
 ·exact wR (h:=by exact two (.inl c1))
 refine wC ?_ ?_<;>intro c2
 ·exact wR (h:=by exact two (.inr (.inl c2)))
 refine wC ?_ ?_<;>intro c3
 ·exact wR (h:=by exact two (.inr (.inr (.inl c3))))
 refine wC ?_ ?_<;>intro c4
 ·exact wR (h:=by exact two (.inr (.inr (.inr (.inl c4)))))
 refine wC ?_ ?_<;>intro c5
 ·exact wR (h:=by exact two (.inr (.inr (.inr (.inr (.inl c5))))))
 refine wC ?_ ?_<;>intro c6
 ·exact wR (h:=by exact two (.inr (.inr (.inr (.inr (.inr (.inl c6)))))))
 refine wC ?_ ?_<;>intro c7
 ·exact wR (h:=by exact two (.inr (.inr (.inr (.inr (.inr (.inr (.inl c7))))))))
 refine wC ?_ ?_<;>intro c8
 ·exact wR (h:=by exact two (.inr (.inr (.inr (.inr (.inr (.inr (.inr c8))))))))
 exact wR (h:=by rw [cntM,if_neg (show ¬w=kNot from c0),if_neg (fun h=>by rcases h with h | h | h | h | h | h | h | h;exact c1 h;exact c2 h;exact c3 h;exact c4 h;exact c5 h;exact c6 h;exact c7 h;exact c8 h)])
def ResL {α:Type} (L:Lay α) (fz:FZ) (x:Except Int α) (v:Value):Prop:=
 ∃ d cs,L.rep fz d cs/\match x with
  | .error c=>v=.tuple #[.agg cs.toArray,errV c]/\c≠0
  | .ok y=>y=d/\v=.tuple #[.agg cs.toArray,.nilIface]
theorem YA {x:Except Int α} {c:Int} {d:α} (h:x=.error c) (hc:c≠0) (hr:L.rep fz d cs):ResL L fz x (.tuple #[.agg cs.toArray,.iface 89 (Zk c)]):=by
 rw [h];exact ⟨d,cs,hr,by rw [Yg hc],hc⟩
theorem XQ {x:Except Int α} {d:α} (h:x=.ok d) (hr:L.rep fz d cs):ResL L fz x (.tuple #[.agg cs.toArray,.nilIface]):=by
 rw [h];exact ⟨d,cs,hr,rfl,rfl⟩
def mapE {α β:Type} (f:α->Except Int β):List α->Except Int (List β)
 | []=>.ok []
 | x::r=>match f x with
  | .error c=>.error c
  | .ok y=>exA [y] (mapE f r)
theorem Ygs {f:α->Except Int β} {l:List α} {k:Nat} {x:α} {c:Int} {o:List β} {m:Except Int (List β)} (hx:l[k]?=some x) (hm:m=exA o (mapE f (l.drop k))) (hf:f x=.error c):m=.error c:=by
 rw [hm,Ycn hx,mapE,hf];rfl
theorem Yjb {f:α->Except Int β} {l:List α} {k:Nat} {x:α} {y:β} {o:List β} {m:Except Int (List β)} (hx:l[k]?=some x) (hm:m=exA o (mapE f (l.drop k))) (hf:f x=.ok y):m=exA (o++ [y]) (mapE f (l.drop (k+1))):=by
 rw [hm,Ycn hx,mapE,hf,Yhn]
theorem Ygt {f:α->Except Int β} {l:List α} {k:Nat} {o:List β} {m:Except Int (List β)} (hm:m=exA o (mapE f (l.drop k))) (hk:l.length<=k:=by omega):m=.ok o:=by
 rw [hm,List.drop_eq_nil_of_le hk,mapE,exA,List.append_nil]
def OpE (w:Bs):Prop:=w=kPlus\/w=YaB\/w=kStar
def YeQ:Nat->Sexpr->Except Int Lx.Expr
 | 0,_=>.error 2
 | d+1,x=>if x.kind=2 then .ok (.mk kNumber ⟨#[]⟩ x.value [] []) else match XP x with
  | none=>.error 2
  | some (w,r)=>if OpE w then (if r.length≠2 then .error 2 else match mapE (YeQ d) r with
   | .error c=>.error c
   | .ok l=>.ok (.mk w ⟨#[]⟩ 0 [] l))
   else if Xc w then match Ybk r with
    | .error c=>.error c
    | .ok a=>.ok (.mk kFluent w 0 a [])
   else .error 8
theorem YgY {d:Nat} {x:Sexpr}:YeQ (d+1) x=if x.kind=2 then .ok (.mk kNumber ⟨#[]⟩ x.value [] []) else match XP x with
 | none=>.error 2
 | some (w,r)=>if OpE w then (if r.length≠2 then .error 2 else match mapE (YeQ d) r with
  | .error c=>.error c
  | .ok l=>.ok (.mk w ⟨#[]⟩ 0 [] l))
  else if Xc w then match Ybk r with
   | .error c=>.error c
   | .ok a=>.ok (.mk kFluent w 0 a [])
  else .error 8:=rfl
theorem Wc:Short ⟨#[]⟩:=by unfold Short;decide
theorem Ygz {w u:Bs} {n:Int} {a:List Bs} {k:List Lx.Expr} (h1:Short w) (h2:Short u) (h3:I64 n) (h4:IsSl strL fz va a) (h5:IsSl exprL fz vk k):exprL.rep fz (.mk w u n a k) [Zy w,Zy u,Zk n,va,vk]:=Ya8 (x:=.mk w u n a k) ⟨h1,h2,h3,h4,h5⟩
theorem YbB:exprL.rep fz (.mk ⟨#[]⟩ ⟨#[]⟩ 0 [] []) [Ze,Ze,Zk 0,Zn,Zn]:=Ygz Wc Wc i64z IsSl.nil IsSl.nil
theorem XW {x:Sexpr} {w:Bs} {r:List Sexpr} (h:XP x=some (w,r)):∃ y,x.kids=y::r/\y.text=w/\x.kind=3/\y.kind=1:=by
 unfold XP at h;split at h
 ·cases h
 rename_i y r' hk;split at h
 ·rename_i hc;injection h with h
  injection h with h1 h2
  subst h1 h2;exact ⟨y,hk,rfl,hc.1,hc.2⟩
 cases h
theorem Yl6 {x:Sexpr} {w:Bs} {r:List Sexpr} (h:XP x=some (w,r)) {y:Sexpr} (hy:y∈r):SizeOf.sizeOf y<SizeOf.sizeOf x:=by
 obtain ⟨u,hk,_⟩:=XW h;exact Sexpr.kids_lt (by rw [hk];exact List.mem_cons_of_mem _ hy)
def XSmN (x:Sexpr):Prop:=x.kids.length<=1000000
abbrev XSm (x:Sexpr):Prop:=XAll XSmN x
theorem Ww {x:Sexpr} (h:XSm x) {w:Bs} {r:List Sexpr} (hh:XP x=some (w,r)) {y:Sexpr} (hy:y∈r):XSm y:=by
 obtain ⟨u,hk,_⟩:=XW hh;exact (Xe.1 h).2 y (by rw [hk];exact List.mem_cons_of_mem _ hy)
theorem WU {x:Sexpr} (h:XSm x) {w:Bs} {r:List Sexpr} (hh:XP x=some (w,r)):r.length<=1000000:=by
 obtain ⟨u,hk,_⟩:=XW hh;have:=(Xe.1 h).1;unfold XSmN at this;rw [hk,List.length_cons] at this;omega
theorem Yqd:OneC exprL:=by
 intro fz d cs h u hu;obtain ⟨va,vk,rfl,hR⟩:=YD h;obtain ⟨⟨A,n,c,rfl,_⟩,⟨B,m,b,rfl,_⟩⟩:=hR.sls;simp at hu;rcases hu with rfl | rfl | rfl | rfl | rfl<;>rfl
theorem Yf6:∀ (d:Nat) {fz:FZ} {x:Sexpr} {vk:Value},SizeOf.sizeOf x<=d->XSm x->YT fz x vk->
 GFn prog 326 [.agg #[Zk x.kind,Zk x.value,Zk x.line,Zk x.column,Zy x.text,vk]] fz [] (fun r fz' H'=>H'=[]/\ResL exprL fz' (YeQ d x) r)
 | 0,fz,x,vk,hz,_,_=>by cases x;simp at hz
 | d+1,fz,x,vk,hz,hs,hR=>by
  obtain ⟨A,n,c,rfl,ik⟩:=hR.kids;have hM:=YgY (d:=d) (x:=x);refine zF Tryz.func326 Tryz.ntmps326 (fun w0=>?_);refine zW ?_;intros;rename_i g1 g2;refine zC ?_ ?_<;>intro c1
  ·rw [if_pos c1] at hM;refine zW ?_;exact YS T (vs:=[.agg #[Zy kNumber,Ze,Zk x.value,Zn,Zn],.nilIface]) ⟨⟨_,_,0,_,_,_,rfl,rfl,rfl,rfl,rfl,rfl⟩,rfl,trivial⟩ (fun fz3 hle3 hf3=>⟨rfl,XQ hM (Ygz (by unfold Short;decide) Wc hR.value IsSl.nil IsSl.nil)⟩)
  rw [if_neg c1] at hM;refine wK (q:=head_f hR) (h:=fun r1 fz1 H1 hle1 hR1=>?_);obtain ⟨rfl,rfl,hR1⟩:=hR1;unfold YeB at hR1;cases hh:XP x with
  | none=>
   rw [hh] at hR1 hM;subst hR1;refine zW ?_;exact YS T (vs:=[.agg #[Ze,Ze,Zk 0,Zn,Zn],.iface 89 (Zk 2)]) ⟨⟨_,_,0,_,_,_,rfl,rfl,rfl,rfl,rfl,rfl⟩,rfl,trivial⟩ (fun fz3 hle3 hf3=>⟨rfl,YA hM Zh YbB⟩)
  | some wr=>
   obtain ⟨w,r⟩:=wr;rw [hh] at hR1 hM;obtain ⟨A',n',c',rfl,ir,hw⟩:=hR1;have hrl:=ir.len;have hrs:=WU hs hh;refine zWX ?_;refine Yr ?_;refine zWX ?_;refine Yr ?_;refine zWX ?_;refine Yr ?_;refine Yr (YY (fun σ fz' H'=>∃ b:Bool,σ=[(39,Zo b),(4,Zy w),(5,Zc A' n' c'),(2,Zp g2)]/\fz1=fz'/\H'=[(g2,Zu #[Ze,Ze,Zk 0,Zn,Zn] 112)]/\(b=true↔¬OpE w)) ?_ ?_)
   ·refine wC ?_ ?_<;>intro e1
    ·refine wC ?_ ?_<;>intro e2
     ·refine wC ?_ ?_<;>intro e3
      ·exact wN (h:=by exact ⟨true,rfl,rfl,rfl,iff_of_true rfl (fun h=>by rcases h with h | h | h;exact e1 h;exact e2 h;exact e3 h)⟩)
      exact wN (h:=by exact ⟨false,rfl,rfl,rfl,iff_of_false Zh (fun h=>h (.inr (.inr e3)))⟩)
     exact wN (h:=by exact ⟨false,rfl,rfl,rfl,iff_of_false Zh (fun h=>h (.inr (.inl e2)))⟩)
    exact wN (h:=by exact ⟨false,rfl,rfl,rfl,iff_of_false Zh (fun h=>h (.inl e1))⟩)
   rintro σ fz' H' ⟨b,rfl,rfl,rfl,hb⟩;simp only at hM;cases b with
   | true=>
    rw [if_neg (hb.1 rfl)] at hM;refine wb (WN hw) (fun f1=>?_) (fun f1=>?_)
    ·rw [if_pos (Zt f1)] at hM;refine wK (q:=Ylz ir Zi) (h:=fun r2 fz2 H2 hle2 hR2=>?_);obtain ⟨rfl,hR2⟩:=hR2;cases ht:Ybk r with
     | error c=>
      rw [ht] at hM hR2;obtain ⟨rfl,hc⟩:=hR2;rw [Yg hc];refine zW ?_;exact YS T (vs:=[.agg #[Ze,Ze,Zk 0,Zn,Zn],.iface 89 (Zk c)]) ⟨⟨_,_,0,_,_,_,rfl,rfl,rfl,rfl,rfl,rfl⟩,rfl,trivial⟩ (fun fz3 hle3 hf3=>⟨rfl,YA hM hc YbB⟩)
     | ok a=>
      rw [ht] at hM hR2;obtain ⟨A3,n3,c3,rfl,ia⟩:=hR2;refine zW ?_;exact YS T (vs:=[.agg #[Zy kFluent,Zy w,Zk 0,Zc A3 n3 c3,Zn],.nilIface]) ⟨⟨_,_,0,_,_,_,rfl,rfl,rfl,rfl,rfl,rfl⟩,rfl,trivial⟩ (fun fz3 hle3 hf3=>⟨rfl,XQ hM (Ygz (by unfold Short;decide) hw i64z ⟨_,_,_,rfl,ia.mono hle3⟩ IsSl.nil)⟩)
    rw [if_neg (Zf f1)] at hM;refine zW ?_;exact YS T (vs:=[.agg #[Ze,Ze,Zk 0,Zn,Zn],.iface 89 (Zk 8)]) ⟨⟨_,_,0,_,_,_,rfl,rfl,rfl,rfl,rfl,rfl⟩,rfl,trivial⟩ (fun fz3 hle3 hf3=>⟨rfl,YA hM Zh YbB⟩)
   | false=>
    rw [if_pos (Classical.byContradiction fun h=>absurd (hb.2 h) Zh)] at hM;refine wC ?_ ?_<;>intro e4
    ·rw [if_pos Zi] at hM;refine zW ?_;exact YS T (vs:=[.agg #[Ze,Ze,Zk 0,Zn,Zn],.iface 89 (Zk 2)]) ⟨⟨_,_,0,_,_,_,rfl,rfl,rfl,rfl,rfl,rfl⟩,rfl,trivial⟩ (fun fz3 hle3 hf3=>⟨rfl,YA hM Zh YbB⟩)
    rw [if_neg Zi] at hM;have hn2:n'=2:=by omega
    subst hn2;refine zW ?_;intros;rename_i g9;refine Yi (fun q σ fz' H'=>∃ (k:Nat) (v:Value) (Hs:HP) (out:List Lx.Expr),k<=2/\q=2 - k/\σ=[(66,Zk k),(65,Zk 2),(64,Zc A' 2 c'),(9,Zp g9),(2,Zp g2)]/\Le fz1 fz'/\H'=(g9,Zu #[Zy w,Ze,Zk 0,Zn,v] 112)::(g2,Zu #[Ze,Ze,Zk 0,Zn,Zn] 112)::Hs/\Grow exprL 112 fz' v k Hs out/\mapE (YeQ d) r=exA out (mapE (YeQ d) (r.drop k))) ⟨0,_,[],[],Z0 _,rfl,rfl,Zd,rfl,Grow.nil _ _ _,by rw [YdL];rfl⟩ Zw Zb ?_;rintro q σ fz' H' ⟨k,v,Hs,out,hk,rfl,rfl,hle,rfl,hG,hmap⟩;obtain ⟨Av,cv,rfl,_,_⟩:=hG.form;refine wC ?_ ?_<;>intro e5
    ·obtain ⟨y,hy⟩:=Ye (l:=r) (k:=k) Zi;have hlt:=Yl6 hh (Zm hy);refine wI (ir.mono hle) hy (fun p hp=>?_);refine zL hp ?_;intro cs hcs;obtain ⟨vy,rfl,hRy⟩:=Yf hcs;obtain ⟨Ay,ny,cy,rfl,iy⟩:=hRy.kids;refine zW ?_;intros;rename_i g11;refine wK (q:=Yf6 d Zi (Ww hs hh (Zm hy)) hRy) (h:=fun r2 fz2 H2 hle2 hR2=>?_);obtain ⟨rfl,de,cs2,hr2,hR2⟩:=hR2;obtain ⟨va2,vk2,rfl,hE2⟩:=YD hr2;obtain ⟨⟨Aa2,na2,ca2,rfl,ia2⟩,⟨Ak2,nk2,ck2,rfl,ik2⟩⟩:=hE2.sls;cases hx:YeQ d y with
     | error c=>
      rw [hx] at hR2;obtain ⟨rfl,hc⟩:=hR2;have hm:=Ygs hy hmap hx;rw [hm] at hM;rw [Yg hc];refine zW ?_;intros;exact YS T (vs:=[.agg #[Ze,Ze,Zk 0,Zn,Zn],.iface 89 (Zk c)]) ⟨⟨_,_,3,_,_,_,rfl,rfl,rfl,rfl,rfl,rfl⟩,rfl,trivial⟩ (fun fz3 hle3 hf3=>⟨rfl,YA hM hc YbB⟩)
     | ok z=>
      rw [hx] at hR2;obtain ⟨rfl,rfl⟩:=hR2;have hm:=Yjb hy hmap hx;refine zW ?_;intros;refine Ya (Yb (cs:=[Zy z.op,Zy z.name,Zk z.n,Zc Aa2 na2 ca2,Zc Ak2 nk2 ck2]) (fun gb=>?_));rename_i g12;refine Ya (YN (d:=z) (cs:=[Zy z.op,Zy z.name,Zk z.n,Zc Aa2 na2 ca2,Zc Ak2 nk2 ck2]) (Hr:=(gb,_)::(g12,_)::(g11,_)::(g9,_):: [(g2,_)]) (Zr _) (hG.mono hle2) Yqd (.head _) hr2 (fun v' Hs' hG'=>?_));obtain ⟨Av',cv',rfl,_,_⟩:=hG'.form;exact wP (h:=by exact ⟨k+1,_,Hs',out++ [z],by omega,rfl,rfl,hle.trans hle2,rfl,hG',hm⟩)
    have hm:=Ygt hmap;rw [hm] at hM;refine zW ?_;refine YS T (vs:=[.agg #[Zy w,Ze,Zk 0,Zn,Zc Av k cv],.nilIface]) ⟨⟨_,_,1,_,_,_,rfl,rfl,rfl,rfl,rfl,rfl⟩,rfl,trivial⟩ (fun fz3 hle3 hf3=>⟨rfl,?_⟩);obtain ⟨A1,c1',hv1,hS1⟩:=hG.sl hle3 (fun p hp=>hf3 p (by simp [hp])) Zi;injection hv1 with hv1 hv2 hv3
    subst hv1 hv3;exact XQ hM (Ygz hw Wc i64z IsSl.nil ⟨_,_,_,rfl,hS1⟩)
end Go.Proofs.YtiligkgjcmokbaaGreatDoor
namespace Go.Lx
open Go.RowKit
variable {α:Type} {fz:FZ} {g j n:Nat} {v:Value} {L:Lay α}
theorem gB_set {e:Nat} {cap:Nat} {cur:List Value} {l:List α} (h:GrowB L e fz g n cap cur l) {o:Nat} {d d':α} (hj:l[j]?=some d) (ho:o<L.size) (hr:∀ cs,L.rep fz d cs->L.rep fz d' (cs.set o v)):
 GrowB L e fz g n cap (cur.set (j*L.size+o) v) (l.set j d'):=by
 obtain ⟨cs,hd,hc⟩:=gB_cut h hj;have hr:=hr cs hd;obtain ⟨xs,h1,h2,h3⟩:=h.pairs;have hl:=h.len;have hjn:j<n:=by have:=(Zg hj).1;omega
 have hxl:xs.length=n:=by rw [<- h1,List.length_map] at hl;exact hl
 have hsz:=h.size;have hcap:=h.capn;have hjz:j*L.size+L.size<=n*L.size:=by rw [<- Nat.succ_mul];exact Nat.mul_le_mul_right _ hjn
 have hnc:n*L.size<=cap*L.size:=Nat.mul_le_mul_right _ hcap;refine ⟨⟨xs.set j (d',cs.set o v),by rw [List.map_set,h1],fun p hp=>?_,?_⟩,by rw [List.length_set];exact hl,hcap,h.max,by rw [List.length_set];exact hsz⟩
 ·rcases List.mem_or_eq_of_mem_set hp with hp | hp
  ·exact h2 p hp
  subst hp;exact hr
 have hcl:cs.length=L.size:=by rw [<- hc,List.length_take,List.length_drop];omega
 rw [<- Yjp (z:=L.size) (d:=(d',cs.set o v)) (by simpa using hcl) (fun p hp=>L.len (h2 p hp)) Zi,<- h3];refine List.ext_getElem? fun i=>?_
 rw [List.getElem?_take];simp only [<- hc];by_cases hi:i<n*L.size
 ·rw [if_pos hi];by_cases h5:i<j*L.size
  ·rw [List.append_assoc,List.getElem?_append_left (by rw [List.length_take,List.length_take];omega),List.getElem?_take_of_lt h5,List.getElem?_take_of_lt hi,List.getElem?_set_ne Zi]
  have e1:((cur.take (n*L.size)).take (j*L.size)).length=j*L.size:=by rw [List.length_take,List.length_take];omega
  have e2:(((cur.drop (j*L.size)).take L.size).set o v).length=L.size:=by rw [List.length_set,List.length_take,List.length_drop];omega
  rw [List.append_assoc,List.getElem?_append_right Zi,e1];by_cases h6:i<j*L.size+L.size
  ·rw [List.getElem?_append_left Zi];by_cases h7:i=j*L.size+o
   ·subst h7;rw [List.getElem?_set_self Zi,Nat.add_sub_cancel_left,List.getElem?_set_self (by rw [List.length_set] at e2;omega)]
   rw [List.getElem?_set_ne Zi,List.getElem?_set_ne Zi,List.getElem?_take_of_lt Zi,List.getElem?_drop]
   congr 1;omega
  rw [List.getElem?_append_right Zi,e2,List.getElem?_drop,List.getElem?_take_of_lt Zi,List.getElem?_set_ne Zi]
  congr 1;omega
 rw [if_neg hi];have:i>=(List.take (j*L.size) (cur.take (n*L.size))++((cur.drop (j*L.size)).take L.size).set o v++(cur.take (n*L.size)).drop (j*L.size+L.size)).length:=by
  simp only [List.length_append,List.length_take,List.length_drop,List.length_set];omega
 rw [List.getElem?_eq_none Zi]
end Go.Lx
namespace Go.Proofs.YtiligkgjcmokbaaGreatDoor
variable {b:Bool} {s:Bs} {j:Nat} {fz:FZ} {vk va ve vp:Value}
def parT (t:Bs) (l:List Bs):List Param:=l.map fun s=>⟨s,t⟩
def PBad (b:Bool) (s:Bs):Prop:=b=true/\¬VarP s\/b=false/\¬Xc s
def parM (b:Bool):List Sexpr->List Param->List Bs->Except Int (List Param)
 | [],done,opn=>.ok (done++parT WK opn)
 | x::r,done,opn=>
  if ¬(x.kind=1/\XVal x) then .error 2
  else if x.text≠YaB then (if PBad b x.text then .error 8 else parM b r done (opn++ [x.text]))
  else match r with
   | []=>.error 2
   | y::r'=>if opn=[]\/¬(y.kind=1/\XVal y) then .error 2 else if ¬Yei y.text then .error 8 else parM b r' (done++parT y.text opn) []
theorem Yku {x:Sexpr} {r:List Sexpr} {done:List Param} {opn:List Bs}:parM b (x::r) done opn=if ¬(x.kind=1/\XVal x) then .error 2
 else if x.text≠YaB then (if PBad b x.text then .error 8 else parM b r done (opn++ [x.text]))
 else match r with
  | []=>.error 2
  | y::r'=>if opn=[]\/¬(y.kind=1/\XVal y) then .error 2 else if ¬Yei y.text then .error 8 else parM b r' (done++parT y.text opn) []:=by
 cases r<;>rfl
theorem Ypt {t:Bs} {l:List Bs}:parT t (l++ [s])=parT t l++ [⟨s,t⟩]:=by simp [parT]
theorem parT_set {t u:Bs} {opn:List Bs} {done:List Param} (h:opn[j]?=some s):
 (done++parT t (opn.take j)++parT u (opn.drop j)).set (done.length+j) ⟨s,t⟩=done++parT t (opn.take (j+1))++parT u (opn.drop (j+1)):=by
 have hj:=(Zg h).1;have hl:(done++parT t (opn.take j)).length=done.length+j:=by simp [parT];omega
 rw [List.set_append_right _ _ Zi,hl,Nat.sub_self,Ycn h,List.take_add_one,h];simp [parT]
theorem parT_get {t u:Bs} {opn:List Bs} {done:List Param} (h:opn[j]?=some s):
 (done++parT t (opn.take j)++parT u (opn.drop j))[done.length+j]?=some ⟨s,u⟩:=by
 have hj:=(Zg h).1;have hl:(done++parT t (opn.take j)).length=done.length+j:=by simp [parT];omega
 rw [List.getElem?_append_right Zi,hl,Nat.sub_self,Ycn h];simp [parT]
theorem Ybn {fz:FZ} {A:Option Addr} {n c:Nat} {l:List Sexpr} {b:Bool} (h:Sl YE fz A n c l) (hn:n<=1000000:=by omega):
 GFn prog 179 [Zc A n c,Zo b] fz [] (fun r fz' H'=>H'=[]/\ResS paramL fz' (parM b l [] []) r):=by
 have hl:=h.len;refine zF Tryz.func179 Tryz.ntmps179 (fun w0=>?_);refine zW ?_;refine Yi (fun q σ fz' H'=>∃ (i:Nat) (v:Value) (Hs:HP) (done:List Param) (opn:List Bs),i<=n/\q=n - i/\σ=[(8,Zk i),(7,Zk done.length),(6,v),(1,Zo b),(0,Zc A n c)]/\fz=fz'/\H'=Hs/\Grow paramL 123 fz v (done.length+opn.length) Hs (done++parT WK opn)/\done.length+opn.length<=i/\parM b l [] []=parM b (l.drop i) done opn) ⟨0,_,[],[],[],Z0 _,rfl,rfl,rfl,rfl,Grow.nil _ _ _,Zs _,rfl⟩ Zw Zb ?_;rintro q σ fz' H' ⟨i,v,Hs,done,opn,hi,rfl,rfl,rfl,rfl,hG,hle,hM⟩;obtain ⟨Av,cv,rfl,_,_⟩:=hG.form;refine wC ?_ ?_<;>intro c1
 ·obtain ⟨x,hx⟩:=Ye (l:=l) (k:=i) Zi;rw [Ycn hx,Yku] at hM;refine wI h hx (fun p hp=>?_);refine wG ?_;refine Xz T Zz Zz Zz hp.Sexpr_kind (fun i1=>?_);refine zC ?_ ?_<;>intro c2
  ·rw [if_pos (fun h=>c2 h.1)] at hM;exact wS (h:=by exact ⟨rfl,by rw [hM];exact ⟨rfl,by decide⟩⟩)
  refine wI h hx (fun p2 hp2=>?_);refine zL hp2 ?_;intro cs hcs;obtain ⟨vk,rfl,hR⟩:=Yf hcs;refine zb (Yat hR) (fun f1=>?_) (fun f1=>?_)
  ·rw [if_neg (Classical.not_not.2 ⟨by omega,Zt f1⟩)] at hM;refine wI h hx (fun p3 hp3=>?_);refine wH hp3.Sexpr_text (fun hs3=>?_);refine wC ?_ ?_<;>intro c3
   ·have c3':x.text≠YaB:=c3;rw [if_pos c3'] at hM;refine zWX ?_;refine Yr ?_;refine Yr (YY (fun σ fz' H2=>∃ bb:Bool,σ=[(52,Zo bb),(9,Zy x.text),(8,Zk i),(7,Zk done.length),(6,Zc Av (done.length+opn.length) cv),(1,Zo b),(0,Zc A n c)]/\fz=fz'/\H2=H'/\(bb=true↔PBad b x.text)) ?_ ?_)
    ·cases b with
     | true=>
      refine wb (Ycu hR.text) (fun f2=>?_) (fun f2=>?_)
      ·exact wN (h:=by exact ⟨false,rfl,rfl,rfl,iff_of_false Zh (fun h=>by rcases h with h | h;exact h.2 (Zt f2);exact absurd h.1 Zh)⟩)
      exact wN (h:=by exact ⟨true,rfl,rfl,rfl,iff_of_true rfl (.inl ⟨rfl,Zf f2⟩)⟩)
     | false=>
      refine wb (WN hR.text) (fun f2=>?_) (fun f2=>?_)
      ·exact wN (h:=by exact ⟨false,rfl,rfl,rfl,iff_of_false Zh (fun h=>by rcases h with h | h;exact absurd h.1 Zh;exact h.2 (Zt f2))⟩)
      exact wN (h:=by exact ⟨true,rfl,rfl,rfl,iff_of_true rfl (.inr ⟨rfl,Zf f2⟩)⟩)
    rintro σ fz' H2 ⟨bb,rfl,rfl,rfl,hb⟩;cases bb with
    | true=>
     rw [if_pos (hb.1 rfl)] at hM;exact wS (h:=by exact ⟨rfl,by rw [hM];exact ⟨rfl,by decide⟩⟩)
    | false=>
     rw [if_neg (fun h=>absurd (hb.2 h) Zh)] at hM;refine zW ?_;refine Ya (Yb (cs:=[Zy x.text,Zy WK]) (fun gb=>?_));refine Ya (YN (d:=⟨x.text,WK⟩) (cs:=[Zy x.text,Zy WK]) (Hr:=[(gb,_)]) (Zr _) hG WY (.head _) (YcY (x:=⟨x.text,WK⟩) ⟨hR.text,by show Short WK;unfold Short;decide⟩) (fun v' Hs' hG'=>?_));exact wP (h:=by exact ⟨i+1,v',Hs',done,opn++ [x.text],by omega,rfl,rfl,rfl,rfl,hG'.of (by rw [Ypt,List.append_assoc]) (by rw [List.length_append];rfl),by rw [List.length_append,List.length_singleton];omega,hM⟩)
   have c3':¬x.text≠YaB:=Classical.not_not.2 c3;rw [if_neg c3'] at hM;have bad:∀ {y r},l.drop (i+1)=y::r->(opn=[]\/¬(y.kind=1/\XVal y))->parM b l [] []=.error 2:=fun e h0=>by
    rw [e] at hM;exact hM.trans (if_pos h0)
   have nob:l.drop (i+1)=[]->parM b l [] []=.error 2:=fun e=>by
    rw [e] at hM;exact hM
   have bad0:opn=[]->parM b l [] []=.error 2:=fun h0=>by
    cases e:l.drop (i+1) with
    | nil=>exact nob e
    | cons y r=>exact bad e (.inl h0)
   refine wC ?_ ?_<;>intro c4
   ·exact wS (h:=by exact ⟨rfl,by rw [bad0 (List.eq_nil_of_length_eq_zero Zi)];exact ⟨rfl,by decide⟩⟩)
   refine wC ?_ ?_<;>intro c5
   ·exact wS (h:=by exact ⟨rfl,by rw [nob (List.drop_eq_nil_of_le Zi)];exact ⟨rfl,by decide⟩⟩)
   obtain ⟨y,hy⟩:=Ye (l:=l) (k:=i+1) Zi;refine wI h hy (fun p4 hp4=>?_);refine wG ?_;refine Xz T Zz Zz Zz hp4.Sexpr_kind (fun i4=>?_);refine zC ?_ ?_<;>intro c6
   ·exact wS (h:=by exact ⟨rfl,by rw [bad (Ycn hy) (.inr (fun h=>c6 h.1))];exact ⟨rfl,by decide⟩⟩)
   refine wI h hy (fun p5 hp5=>?_);refine zL hp5 ?_;intro cs5 hcs5;obtain ⟨vk5,rfl,hR5⟩:=Yf hcs5;refine zb (Yat hR5) (fun f5=>?_) (fun f5=>?_)
   ·rw [Ycn hy] at hM;have hM:=hM.trans (if_neg (fun h=>by rcases h with h | h;exact c4 (by rw [h];simp);exact h ⟨by omega,Zt f5⟩));refine wI h hy (fun p6 hp6=>?_);refine wH hp6.Sexpr_text (fun hs6=>?_);refine zb (YoG hR5.text) (fun f6=>?_) (fun f6=>?_)
    ·rw [if_neg (Classical.not_not.2 (Zt f6))] at hM;obtain ⟨g,cap,cur,hv,rfl,hB⟩:=hG.b Zi;injection hv with hv1 hv2 hv3
     subst hv1 hv3;refine zW ?_;refine Yi (fun q σ fz' H'=>∃ (j:Nat) (cur:List Value),j<=opn.length/\q=opn.length - j/\σ=[(8,Zk (i+1:Nat)),(7,Zk (done.length+j:Nat)),(6,Zv g (done.length+opn.length) cv),(1,Zo b),(0,Zc A n c)]/\fz=fz'/\H'=[(g,Zu (List.toArray cur) 123)]/\GrowB paramL 123 fz g (done.length+opn.length) cv cur (done++parT y.text (opn.take j)++parT WK (opn.drop j))) ⟨0,cur,Z0 _,rfl,rfl,rfl,rfl,by simpa [parT] using hB⟩ Zw Zb ?_;rintro q σ fz' H' ⟨j,cur,hj,rfl,rfl,rfl,rfl,hB⟩;have hcapB:=hB.capn;have hszB:cur.length=cv*2:=hB.size;refine wC ?_ ?_<;>intro c7
     ·obtain ⟨s,hs⟩:=Ye (l:=opn) (k:=j) Zi;refine wI h hy (fun p7 hp7=>?_);refine wH hp7.Sexpr_text (fun hs7=>?_);refine zG ?_;refine Yq rfl ?_;refine zW ?_;refine Yz (Yc6 (pre:=[]) ?_ (hH:=rfl) (hj:=by show (done.length+j)*2+1<cur.length;omega));refine zW ?_;exact Wj ⟨j+1,_,by omega,rfl,rfl,rfl,rfl,by
       have h9:=gB_set hB (o:=1) (d':=⟨s,y.text⟩) (v:=Zy y.text) (parT_get hs) Zh (fun cs hcs=>by obtain ⟨rfl,hp⟩:=YJ hcs;exact YcY (x:=⟨s,y.text⟩) ⟨hp.name,hR5.text⟩);rw [parT_set hs] at h9;exact h9⟩ Zi Zw Zb
     have hjo:j=opn.length:=by omega
     subst hjo;rw [List.take_length,List.drop_length] at hB;refine zW ?_;have e7:(done++parT y.text opn).length=done.length+opn.length:=by simp [parT]
     exact Wj (σ':=[(8,Zk (i+2:Nat)),(7,Zk (done.length+opn.length:Nat)),(6,Zv g (done.length+opn.length) cv),(1,Zo b),(0,Zc A n c)]) ⟨i+2,_,_,done++parT y.text opn,[],by omega,rfl,by rw [e7],rfl,rfl,hB.grow.of rfl (by simp [parT]),by simp [parT];omega,hM⟩ Zi Zw Zb
    rw [if_pos (Zf f6)] at hM;exact wS (h:=by exact ⟨rfl,by rw [hM];exact ⟨rfl,by decide⟩⟩)
   exact wS (h:=by exact ⟨rfl,by rw [bad (Ycn hy) (.inr (fun h=>Zf f5 h.2))];exact ⟨rfl,by decide⟩⟩)
  rw [if_pos (fun h=>Zf f1 h.2)] at hM;exact wS (h:=by exact ⟨rfl,by rw [hM];exact ⟨rfl,by decide⟩⟩)
 rw [List.drop_eq_nil_of_le Zi,parM] at hM;refine zW ?_;refine YlG rfl rfl rfl (fun fz3 hle3 hf3=>⟨rfl,?_⟩);obtain ⟨A1,c1',hv1,hS1⟩:=hG.sl hle3 hf3 Zi;injection hv1 with hv1 hv2 hv3
 subst hv1 hv3;rw [hM];exact ⟨_,_,_,rfl,hS1⟩
def YhS (x:Sexpr):Except Int Lx.Expr:=YeQ (SizeOf.sizeOf x) x
theorem YlR {x:Sexpr} (hs:XSm x) (hR:YT fz x vk):
 GFn prog 326 [.agg #[Zk x.kind,Zk x.value,Zk x.line,Zk x.column,Zy x.text,vk]] fz [] (fun r fz' H'=>H'=[]/\ResL exprL fz' (YhS x) r):=Yf6 _ (Zs _) hs hR
theorem Ybh {w u:Bs} {a:List Bs} {p:List Param} {e:List Lx.Expr} {k:List Formula} (h1:Short w) (h2:Short u) (h3:IsSl strL fz va a) (h4:IsSl paramL fz vp p) (h5:IsSl exprL fz ve e) (h6:IsSl YK fz vk k):YK.rep fz (.mk w u a p e k) [Zy w,Zy u,va,vp,ve,vk]:=WB (x:=.mk w u a p e k) ⟨h1,h2,h3,h4,h5,h6⟩
theorem Ybd:YK.rep fz (.mk ⟨#[]⟩ ⟨#[]⟩ [] [] [] []) [Ze,Ze,Zn,Zn,Zn,Zn]:=Ybh Wc Wc IsSl.nil IsSl.nil IsSl.nil IsSl.nil
theorem Ye1:OneC YK:=by
 intro fz d cs h u hu;obtain ⟨v1,v2,v3,v4,rfl,hR⟩:=Yv h;obtain ⟨⟨A,n,c,rfl,_⟩,⟨B,m,b,rfl,_⟩,⟨C,o,e,rfl,_⟩,⟨D,q,f,rfl,_⟩⟩:=hR.sls;simp at hu;rcases hu with rfl | rfl | rfl | rfl | rfl | rfl<;>rfl
def cmpF2 (w:Bs) (a b:Lx.Expr):Formula:=
 if w=kGt then .mk kLt ⟨#[]⟩ [] [] [b,a] [] else if w=kGe then .mk kLe ⟨#[]⟩ [] [] [b,a] [] else .mk w ⟨#[]⟩ [] [] [a,b] []
def cmpM (w:Bs) (y z:Sexpr):Except Int Formula:=
 if w=kEq/\y.kind=1/\z.kind=1 then match Ybk [y,z] with
  | .error c=>.error c
  | .ok a=>.ok (.mk kSame ⟨#[]⟩ a [] [] [])
 else match YhS y with
  | .error c=>.error c
  | .ok a=>match YhS z with
   | .error c=>.error c
   | .ok b=>.ok (cmpF2 w a b)
theorem Yoc {w:Bs} {y z:Sexpr} {vy vz:Value} (hw:Short w) (hsy:XSm y) (hsz:XSm z) (hy:YT fz y vy) (hz:YT fz z vz):
 GFn prog 311 [Zy w,.agg #[Zk y.kind,Zk y.value,Zk y.line,Zk y.column,Zy y.text,vy],.agg #[Zk z.kind,Zk z.value,Zk z.line,Zk z.column,Zy z.text,vz]] fz [] (fun r fz' H'=>H'=[]/\ResL YK fz' (cmpM w y z) r):=by
 obtain ⟨A,n,c,rfl,iy⟩:=hy.kids;obtain ⟨B,m,b,rfl,iz⟩:=hz.kids;have hM:cmpM w y z=if w=kEq/\y.kind=1/\z.kind=1 then match Ybk [y,z] with
  | .error c=>.error c
  | .ok a=>.ok (.mk kSame ⟨#[]⟩ a [] [] [])
 else match YhS y with
  | .error c=>.error c
  | .ok a=>match YhS z with
   | .error c=>.error c
   | .ok b=>.ok (cmpF2 w a b):=rfl
 refine zF Tryz.func311 Tryz.ntmps311 (fun w0=>?_);refine zWX ?_;refine Yr ?_;refine zWX ?_;intros;rename_i g4 g5 g6;refine Yr ?_;refine Yr (YY (fun σ fz' H'=>∃ bb:Bool,σ=[(24,Zo bb),(6,Zp g6),(5,Zp g5),(4,Zp g4),(0,Zy w)]/\fz=fz'/\H'=[(g6,Zu #[Ze,Ze,Zn,Zn,Zn,Zn] 35),(g5,Zu #[Zk z.kind,Zk z.value,Zk z.line,Zk z.column,Zy z.text,Zc B m b] 86),(g4,Zu #[Zk y.kind,Zk y.value,Zk y.line,Zk y.column,Zy y.text,Zc A n c] 86)]/\(bb=true↔w=kEq/\y.kind=1/\z.kind=1)) ?_ ?_)
 ·refine wC ?_ ?_<;>intro c1
  ·refine wC ?_ ?_<;>intro c2
   ·refine wC ?_ ?_<;>intro c3
    ·exact wN (h:=by exact ⟨true,rfl,rfl,rfl,iff_of_true rfl ⟨c1,by omega,by omega⟩⟩)
    exact wN (h:=by exact ⟨false,rfl,rfl,rfl,iff_of_false Zh (fun h=>c3 Zi)⟩)
   exact wN (h:=by exact ⟨false,rfl,rfl,rfl,iff_of_false Zh (fun h=>c2 Zi)⟩)
  exact wN (h:=by exact ⟨false,rfl,rfl,rfl,iff_of_false Zh (fun h=>c1 h.1)⟩)
 rintro σ fz' H' ⟨bb,rfl,rfl,rfl,hb⟩;cases bb with
 | true=>
  rw [if_pos (hb.1 rfl)] at hM;refine zW ?_;refine Ya (Yb (cs:=[Zk y.kind,Zk y.value,Zk y.line,Zk y.column,Zy y.text,Zc A n c]++ [Zk z.kind,Zk z.value,Zk z.line,Zk z.column,Zy z.text,Zc B m b]) (fun gb=>?_))
  first | refine Wp.freeze Zz (fun fz1 hle1 hg1=>?_) | refine Seq.freeze Zz (fun fz1 hle1 hg1=>?_)
  refine wK (q:=Ylz (n:=2) (Wb (m:=2) (l:=[y,z]) (ys:=[(y,[Zk y.kind,Zk y.value,Zk y.line,Zk y.column,Zy y.text,Zc A n c]),(z,[Zk z.kind,Zk z.value,Zk z.line,Zk z.column,Zy z.text,Zc B m b])]) hg1 rfl rfl (by intro p hp;simp only [List.mem_cons,List.not_mem_nil,or_false] at hp;rcases hp with rfl | rfl;exact Ys (hy.mono hle1);exact Ys (hz.mono hle1)) rfl Zh) Zh) (h:=fun r2 fz2 H2 hle2 hR2=>?_);obtain ⟨rfl,hR2⟩:=hR2;cases ht:Ybk [y,z] with
  | error c'=>
   rw [ht] at hM hR2;obtain ⟨rfl,hc⟩:=hR2;rw [Yg hc];refine zW ?_;exact YS T (vs:=[.agg #[Zy kSame,Ze,Zn,Zn,Zn,Zn],.iface 89 (Zk c')]) ⟨⟨_,_,0,_,_,_,rfl,rfl,rfl,rfl,rfl,rfl⟩,rfl,trivial⟩ (fun fz3 hle3 hf3=>⟨rfl,YA hM hc (Ybh (a:=[]) (p:=[]) (e:=[]) (k:=[]) (by unfold Short;decide) Wc IsSl.nil IsSl.nil IsSl.nil IsSl.nil)⟩)
  | ok a=>
   rw [ht] at hM hR2;obtain ⟨A3,n3,c3,rfl,ia⟩:=hR2;refine zW ?_;exact YS T (vs:=[.agg #[Zy kSame,Ze,Zc A3 n3 c3,Zn,Zn,Zn],.nilIface]) ⟨⟨_,_,0,_,_,_,rfl,rfl,rfl,rfl,rfl,rfl⟩,rfl,trivial⟩ (fun fz3 hle3 hf3=>⟨rfl,XQ hM (Ybh (by unfold Short;decide) Wc ⟨_,_,_,rfl,ia.mono hle3⟩ IsSl.nil IsSl.nil IsSl.nil)⟩)
 | false=>
  rw [if_neg (fun h=>absurd (hb.2 h) Zh)] at hM;refine wK (q:=YlR hsy hy) (h:=fun r2 fz2 H2 hle2 hR2=>?_);obtain ⟨rfl,ea,cs2,hr2,hR2⟩:=hR2;obtain ⟨va2,vk2,rfl,hE2⟩:=YD hr2;obtain ⟨⟨Aa,na,ca,rfl,ia2⟩,⟨Ba,ma,ba,rfl,ik2⟩⟩:=hE2.sls;cases hx:YhS y with
  | error c'=>
   rw [hx] at hM hR2;obtain ⟨rfl,hc⟩:=hR2;rw [Yg hc];refine zW ?_;intros;exact YS T (vs:=[.agg #[Ze,Ze,Zn,Zn,Zn,Zn],.iface 89 (Zk c')]) ⟨⟨_,_,1,_,_,_,rfl,rfl,rfl,rfl,rfl,rfl⟩,rfl,trivial⟩ (fun fz3 hle3 hf3=>⟨rfl,YA hM hc Ybd⟩)
  | ok ea2=>
   rw [hx] at hM hR2;obtain ⟨rfl,rfl⟩:=hR2;refine zW ?_;intros;refine wK (q:=YlR hsz (hz.mono hle2)) (h:=fun r4 fz4 H4 hle4 hR4=>?_);obtain ⟨rfl,eb,cs4,hr4,hR4⟩:=hR4;obtain ⟨va4,vk4,rfl,hE4⟩:=YD hr4;obtain ⟨⟨Ab,nb,cb,rfl,ia4⟩,⟨Bb,mb,bb2,rfl,ik4⟩⟩:=hE4.sls;cases hx4:YhS z with
   | error c'=>
    rw [hx4] at hM hR4;obtain ⟨rfl,hc⟩:=hR4;rw [Yg hc];refine zW ?_;intros;exact YS T (vs:=[.agg #[Ze,Ze,Zn,Zn,Zn,Zn],.iface 89 (Zk c')]) ⟨⟨_,_,2,_,_,_,rfl,rfl,rfl,rfl,rfl,rfl⟩,rfl,trivial⟩ (fun fz3 hle3 hf3=>⟨rfl,YA hM hc Ybd⟩)
   | ok eb2=>
    rw [hx4] at hM hR4;obtain ⟨rfl,rfl⟩:=hR4;simp only [cmpF2] at hM;have ra:exprL.rep fz4 ea2 [Zy ea2.op,Zy ea2.name,Zk ea2.n,Zc Aa na ca,Zc Ba ma ba]:=exprL.mono hle4 hr2;refine zW ?_;intros;refine zC ?_ ?_<;>intro c7
    ·rw [if_pos (show w=kGt from c7)] at hM;refine zW ?_;refine Ya (Yb (cs:=[Zy eb2.op,Zy eb2.name,Zk eb2.n,Zc Ab nb cb,Zc Bb mb bb2]++ [Zy ea2.op,Zy ea2.name,Zk ea2.n,Zc Aa na ca,Zc Ba ma ba]) (fun gb=>?_));refine zW ?_;refine YS T (vs:=[.agg #[Zy kLt,Ze,Zn,Zn,Zv gb 2 2,Zn],.nilIface]) ⟨⟨_,_,3,_,_,_,rfl,rfl,rfl,rfl,rfl,rfl⟩,rfl,trivial⟩ (fun fz3 hle3 hf3=>⟨rfl,XQ hM ?_⟩);exact Ybh (by first | exact hw | (unfold Short;decide)) Wc IsSl.nil IsSl.nil ⟨_,_,_,rfl,Wb (m:=2) (ys:=[(eb2,[Zy eb2.op,Zy eb2.name,Zk eb2.n,Zc Ab nb cb,Zc Bb mb bb2]),(ea2,[Zy ea2.op,Zy ea2.name,Zk ea2.n,Zc Aa na ca,Zc Ba ma ba])]) (hf3 (gb,_) (.head _)) rfl rfl (by intro p hp;simp only [List.mem_cons,List.not_mem_nil,or_false] at hp;rcases hp with rfl | rfl;exact exprL.mono hle3 hr4;exact exprL.mono hle3 ra) rfl Zh⟩ IsSl.nil
    rw [if_neg (show ¬w=kGt from c7)] at hM;refine wC ?_ ?_<;>intro c8
    ·rw [if_pos (show w=kGe from c8)] at hM;refine zW ?_;refine Ya (Yb (cs:=[Zy eb2.op,Zy eb2.name,Zk eb2.n,Zc Ab nb cb,Zc Bb mb bb2]++ [Zy ea2.op,Zy ea2.name,Zk ea2.n,Zc Aa na ca,Zc Ba ma ba]) (fun gb=>?_));refine zW ?_;refine YS T (vs:=[.agg #[Zy kLe,Ze,Zn,Zn,Zv gb 2 2,Zn],.nilIface]) ⟨⟨_,_,3,_,_,_,rfl,rfl,rfl,rfl,rfl,rfl⟩,rfl,trivial⟩ (fun fz3 hle3 hf3=>⟨rfl,XQ hM ?_⟩);exact Ybh (by first | exact hw | (unfold Short;decide)) Wc IsSl.nil IsSl.nil ⟨_,_,_,rfl,Wb (m:=2) (ys:=[(eb2,[Zy eb2.op,Zy eb2.name,Zk eb2.n,Zc Ab nb cb,Zc Bb mb bb2]),(ea2,[Zy ea2.op,Zy ea2.name,Zk ea2.n,Zc Aa na ca,Zc Ba ma ba])]) (hf3 (gb,_) (.head _)) rfl rfl (by intro p hp;simp only [List.mem_cons,List.not_mem_nil,or_false] at hp;rcases hp with rfl | rfl;exact exprL.mono hle3 hr4;exact exprL.mono hle3 ra) rfl Zh⟩ IsSl.nil
    rw [if_neg (show ¬w=kGe from c8)] at hM;refine zW ?_;refine Ya (Yb (cs:=[Zy ea2.op,Zy ea2.name,Zk ea2.n,Zc Aa na ca,Zc Ba ma ba]++ [Zy eb2.op,Zy eb2.name,Zk eb2.n,Zc Ab nb cb,Zc Bb mb bb2]) (fun gb=>?_));refine zW ?_;refine YS T (vs:=[.agg #[Zy w,Ze,Zn,Zn,Zv gb 2 2,Zn],.nilIface]) ⟨⟨_,_,3,_,_,_,rfl,rfl,rfl,rfl,rfl,rfl⟩,rfl,trivial⟩ (fun fz3 hle3 hf3=>⟨rfl,XQ hM ?_⟩);exact Ybh (by first | exact hw | (unfold Short;decide)) Wc IsSl.nil IsSl.nil ⟨_,_,_,rfl,Wb (m:=2) (ys:=[(ea2,[Zy ea2.op,Zy ea2.name,Zk ea2.n,Zc Aa na ca,Zc Ba ma ba]),(eb2,[Zy eb2.op,Zy eb2.name,Zk eb2.n,Zc Ab nb cb,Zc Bb mb bb2])]) (hf3 (gb,_) (.head _)) rfl rfl (by intro p hp;simp only [List.mem_cons,List.not_mem_nil,or_false] at hp;rcases hp with rfl | rfl;exact exprL.mono hle3 ra;exact exprL.mono hle3 hr4) rfl Zh⟩ IsSl.nil
end Go.Proofs.YtiligkgjcmokbaaGreatDoor
