/- The texts ShelfJ, PCO, QA, QB, QC, StrC, QD, QE, QF, PGrowB, laid together. Conditions: none. -/
import Derived.Test.YtacfpcbladaohaaGreatDoorSAI
import Derived.Shelf.Strings.OnBuilder
set_option linter.all false
set_option maxHeartbeats 8000000
noncomputable section
open Go.Lx Go.RowKit
attribute [local instance 10] Classical.propDecidable
open Go.Proofs.Tryz (prog)
namespace Go.Proofs
open Go.Shelf
def YcJ:Go.Shelf.Ren:=⟨fun | 156=>292 | 165=>308 | 166=>309 | 169=>310 | 240=>321 | 241=>322 | 276=>327 | 277=>328 | n=>n,fun | 31=>31 | 9=>9 | 3=>3 | 4=>4 | 0=>0 | 20=>20 | 72=>359 | 76=>361 | 70=>357 | 37=>38 | 75=>45 | 127=>368 | 164=>378 | 5=>5 | 80=>363 | n=>n,fun | n=>n⟩
theorem Yfs:Go.Proofs.Lays.n156 Tryz.prog YcJ:={
 mixed:=by kernel_rfl
 f156:=Tryz.func292.trans (congrArg some (by kernel_rfl))
 f165:=Tryz.func308.trans (congrArg some (by kernel_rfl))
 f166:=Tryz.func309.trans (congrArg some (by kernel_rfl))
 f169:=Tryz.func310.trans (congrArg some (by kernel_rfl))
 f240:=Tryz.func321.trans (congrArg some (by kernel_rfl))
 f241:=Tryz.func322.trans (congrArg some (by kernel_rfl))
 f276:=Tryz.func327.trans (congrArg some (by kernel_rfl))
 f277:=Tryz.func328.trans (congrArg some (by kernel_rfl))
 t0:=Tryz.underlying0
 a0:=Tryz.isAgg0
 z0:=Tryz.sizeOf0
 v0:=Tryz.zeroValue0
 t3:=Tryz.underlying3
 a3:=Tryz.isAgg3
 z3:=Tryz.sizeOf3
 v3:=Tryz.zeroValue3
 t4:=Tryz.underlying4
 a4:=Tryz.isAgg4
 z4:=Tryz.sizeOf4
 v4:=Tryz.zeroValue4
 t9:=Tryz.underlying9
 a9:=Tryz.isAgg9
 z9:=Tryz.sizeOf9
 v9:=Tryz.zeroValue9
 t20:=Tryz.underlying20
 a20:=Tryz.isAgg20
 z20:=Tryz.sizeOf20
 v20:=Tryz.zeroValue20
 t31:=Tryz.underlying31
 a31:=Tryz.isAgg31
 z31:=Tryz.sizeOf31
 v31:=Tryz.zeroValue31
 t37:=Tryz.underlying38
 a37:=Tryz.isAgg38
 z37:=Tryz.sizeOf38
 v37:=Tryz.zeroValue38
 t70:=Tryz.underlying357
 a70:=Tryz.isAgg357
 z70:=Tryz.sizeOf357
 v70:=Tryz.zeroValue357
 t72:=Tryz.underlying359
 a72:=Tryz.isAgg359
 z72:=Tryz.sizeOf359
 v72:=Tryz.zeroValue359
 t75:=Tryz.underlying45
 a75:=Tryz.isAgg45
 z75:=Tryz.sizeOf45
 v75:=Tryz.zeroValue45
 t76:=Tryz.underlying361
 a76:=Tryz.isAgg361
 z76:=Tryz.sizeOf361
 v76:=Tryz.zeroValue361
 t127:=Tryz.underlying368
 a127:=Tryz.isAgg368
 z127:=Tryz.sizeOf368
 v127:=Tryz.zeroValue368
 t164:=Tryz.underlying378
 a164:=Tryz.isAgg378
 z164:=Tryz.sizeOf378
 v164:=Tryz.zeroValue378}
theorem YaD:Builder.Extra Tryz.prog YcJ:={
 sizeBuilder:=by kernel_rfl
 liesBuilder:=by kernel_rfl
 t5:=Tryz.underlying5
 a5:=Tryz.isAgg5
 z5:=Tryz.sizeOf5
 v5:=Tryz.zeroValue5
 infoByte:=by kernel_rfl
 cellsByte:=by kernel_rfl
 sizeByte:=by kernel_rfl
 neB5:=by decide}
open Go.RowKit in
/-- No element: the empty string; the world is as1 it was. (Whatever the slice's address and capacity: a nil slice too.) (LAID: no walk: one application.) -/
theorem Tryz.strings_Join_none (a:Option Addr) (c:Nat) (sep:ByteArray) (w:World):
 Calls Tryz.prog 292 #[.slice a 0 c,.string sep] w fun e w'=>e=.returned (.string ⟨#[]⟩)/\w'=w:=Any.strings_Join_none Yfs YaD a c sep w
open Go.RowKit in
/-- strings.Join: "Join concatenates the elements of its first argument to create a single string. The separator string sep is placed between elements in the resulting string.": HOWEVER MANY ELEMENTS. Below the heap's end the world is as1 it was. (LAID: no walk: one application.) -/
theorem Tryz.strings_Join (bk o c:Nat) (xs:List ByteArray) (sep:ByteArray) (w:World) (hcells:∀ (j:Nat) x,xs[j]?=some x->w.cell? ⟨bk,o+j,none⟩=some (.string x)) (hbk:bk<w.heap.size) (hN:xs.length<=140737488355328) (hcap:xs.length<=c) (hlen:(Lib.join (xs.map (·.data.toList)) sep.data.toList).length<=140737488355328):
 Calls Tryz.prog 292 #[.slice (some ⟨bk,o,none⟩) xs.length c,.string sep] w fun e w'=>e=.returned (.string ⟨(Lib.join (xs.map (·.data.toList)) sep.data.toList).toArray⟩)/\Below w.heap.size w w':=Any.strings_Join Yfs YaD bk o c xs sep w hcells hbk hN hcap hlen
end Go.Proofs
set_option maxRecDepth 20000
namespace Go.Proofs.YtacfpcbladaohaaGreatDoor
variable {A B:Option Addr} {c n i k:Nat} {fz fz':FZ} {s:Bs} {a:Atom} {va v:Value} {m:List (Bs × Value)} {S:List Atom}
theorem joinS_q {l:List Bs} (h:Sl strL fz A n c l) (hlen:(Lib.join (l.map (·.data.toList)) [32]).length<=1000000000):
 QFn prog 292 [Zc A n c,Zy ⟨#[32]⟩] fz (Zy (strOf (Lib.join (l.map (·.data.toList)) [32]))):=by
 unfold QFn;refine ⟨⟨_,Tryz.func292,by decide,by decide⟩,fun w hw=>?_⟩;have h1:=h.len;have h2:=h.cap;have h3:=h.short;cases l with
 | nil=>
  simp at h1;subst h1;refine (Tryz.strings_Join_none A c ⟨#[32]⟩ w).mono fun e w' ⟨he,hb⟩=>⟨?_,by subst hb;exact Fr.refl _ _⟩
  rw [he];rfl
 | cons x r=>
  rcases h.elem with h0 | ⟨ad,rfl,hE⟩
  ·rw [h0] at h1;simp at h1
  have hc:∀ (j:Nat) y,(x::r)[j]?=some y->Ycd fz (ad.add j)=some (Zy y):=fun j y hy=>by
   have h4:=hE j y hy;rw [show strL.size=1 from rfl,Nat.mul_one] at h4;obtain ⟨v,hv,hcell⟩:=h4.cell rfl;obtain ⟨e,_⟩:=hv;simp at e;rw [hcell,e]
  have hc0:=hc 0 x rfl;have ha0:ad.add 0=ad:=by unfold Addr.add;rw [if_pos rfl]
  rw [ha0] at hc0;obtain ⟨g,off,sp⟩:=ad;cases sp with
  | some s=>
   unfold Ycd at hc0;split at hc0
   ·simp at hc0
   cases hc0
  | none=>
   have hcells:∀ (j:Nat) y,(x::r)[j]?=some y->w.cell? ⟨g,off+j,none⟩=some (Zy y):=fun j y hy=>by
    rw [<- YlS];exact hw.cell (hc j y hy)
   have hg:g<w.heap.size:=by
    have h9:=hcells 0 x rfl;simp only [World.cell?] at h9;split at h9
    ·rename_i hq;exact (Array.getElem?_eq_some_iff.1 hq).1
    cases h9
   have:=Tryz.strings_Join g off c (x::r) ⟨#[32]⟩ w hcells hg Zi Zi (Nat.le_trans hlen Zh);rw [h1] at this;exact this.mono fun e w' ⟨he,hb⟩=>⟨he,fr_below hb⟩
def Yot (name:Bs) (args:List Bs):Bs:=(name++⟨#[32]⟩)++strOf (Lib.join (args.map (·.data.toList)) [32])
def NmsS (l:List Bs):Prop:=l.length<=64/\∀ x∈l,x.size<=1000
theorem jt_len:∀ (l:List (List UInt8)),(∀ x∈l,x.length<=1000)->(Lib.joinTail [32] l).length<=l.length*1001
 | [],_=>by simp [Lib.joinTail]
 | x::r,h=>by
  have h1:=h x (by simp);have h2:=jt_len r (fun z hz=>h z (by simp [hz]));have h3:Lib.joinTail [32] (x::r)=([32]++x)++Lib.joinTail [32] r:=by simp [Lib.joinTail]
  rw [h3,List.length_append,List.length_append];simp only [List.length_cons,List.length_nil];omega
theorem Ypz (l:List (List UInt8)) (h:∀ x∈l,x.length<=1000):(Lib.join l [32]).length<=l.length*1001:=by
 cases l with
 | nil=>simp [Lib.join_nil]
 | cons x r=>
  have h1:=h x (by simp);have h2:=jt_len r (fun z hz=>h z (by simp [hz]));rw [Lib.join_cons,List.length_append];simp only [List.length_cons];omega
theorem text_len {args:List Bs} (h:NmsS args):(Lib.join (args.map (·.data.toList)) [32]).length<=100000:=by
 have h1:=Ypz (args.map (·.data.toList)) (fun x hx=>by obtain ⟨y,hy,rfl⟩:=List.mem_map.1 hx;exact h.2 y hy);rw [List.length_map] at h1;have:=h.1;omega
theorem Yos {name:Bs} {args:List Bs} (h:Sl strL fz A n c args) (hn:name.size<=1000) (ha:NmsS args):
 QFn prog 256 [Zy name,Zc A n c] fz (Zy (Yot name args)):=by
 have ht:=text_len ha;refine qF Tryz.func256 Tryz.ntmps256 (fun w0=>?_);refine vG ?_;refine XM Zz Zz (by show _+1<=_;omega) ?_;refine vG ?_;refine Yu (joinS_q h Zi) ?_;refine vG ?_;refine XM Zz Zz (by rw [ByteArray.size_append,YaE];show _+1+_<=_;omega) ?_;exact vR (h:=rfl)
def Yfc (tys all:List Param) (ks:List Bs) (name:Bs):List Param->List Bs->Prop
 | [],args=>Yot name args ∉ ks
 | p::r,args=>∃ x∈ofT tys p.typ all,Yfc tys all ks name r (args++ [x])
theorem of_mem {tys all:List Param} {t x:Bs} (h:x∈ofT tys t all) (ha:∀ o∈all,o.name.size<=1000):x.size<=1000:=by
 unfold ofT at h;obtain ⟨o,ho,rfl⟩:=List.mem_map.1 h;exact ha o (List.mem_filter.1 ho).1
theorem YnP {l:List Bs} (h:Sl strL fz A n c l) (hn:n<=1000000000):
 GFn prog 37 [Zc A n c] fz [] (fun v fz' H'=>Grow strL 9 fz' v n H' l):=by
 have l1:=h.len;refine zF Tryz.func37 Tryz.ntmps37 (fun w0=>?_);refine vG ?_;refine WS (fun eA=>?_) (fun eA=>?_)
 ·subst eA;have hl:l=[]:=by
   rcases h.elem with h0 | ⟨_,h0,_⟩
   ·exact List.eq_nil_of_length_eq_zero Zi
   cases h0
  subst hl;simp at l1;subst l1;refine zV ?_;refine Yd2 (H':=[]) (H2:=[]) rfl rfl (Zr _) (fun fz3 hle3 _=>Grow.nil _ _ _)
 refine zV ?_;refine Ya (Yaq (fun gb=>?_));refine zV ?_;refine Ya (XF T (Hr:=[]) (n:=0) (l:=[]) Zz Zz Zz Zz Zz Zz Zz Zz (Zr _) (Grow.block (ys:=[]) rfl rfl (by intro p hp;cases hp) rfl) WP h (by show _*16<=_;omega) Zi (fun v' Hs' hO'=>?_));obtain ⟨Av',cv',rfl,_,_⟩:=hO'.form;refine zV ?_;refine Yd2 (H':=Hs') (H2:=[]) rfl rfl (by simp) (fun fz3 hle3 _=>(hO'.mono hle3).of (by simp) Zi)
theorem Ykh:∀ (ps:List Param) {fz:FZ} {v:Value} {d:Domain} {p:Problem} {all params:List Param} {gm:Nat} {m:List (Bs × Value)} {ks args:List Bs} {name:Bs} {A B:Option Addr} {na ca n c:Nat},CkG fz v d p all->fz gm=some (mapS m)->YdT m ks->Sl paramL fz B n c params->Sl strL fz A na ca args->params.drop na=ps->na<=n->n<=64->name.size<=1000->NmsS args->(∀ x∈all,x.name.size<=1000)->all.length<=1000000000->
 QFn prog 257 [v,.map (some gm),Zy name,Zc B n c,Zc A na ca] fz (Zo (decide (Yfc d.types all ks name ps args)))
 | ps,fz,v,d,p,all,params,gm,m,ks,args,name,A,B,na,ca,n,c,h,hgm,hks,h1,h2,hps,hnn,h64,hnm,hag,hal,hall0=>by
  have h0:=h;obtain ⟨⟨vf,vpp,vg,vo,hck,hF,hPr,hFu,hO⟩,hw⟩:=h;obtain ⟨gc,w1,w2,w3,w4,w5,w6,u1,u2,u3,u4,u5,u6,u7,Aa,nl,cl,rfl,hc,hD,hP,hall⟩:=hck;have l1:=h1.len;have l2:=h2.len;have ll:=hall.len;refine qF Tryz.func257 Tryz.ntmps257 (fun w0=>?_);refine vC ?_ ?_<;>intro c1
  ·have hnil:ps=[]:=by rw [<- hps,List.drop_eq_nil_of_le Zi]
   subst hnil;refine vc (Yos h2 hnm hag) ?_;refine vG ?_;refine WL (v:=Zo (decide (Yot name args∈ks))) hgm ?_ (hv:=hks.get);refine zV ?_
   (exact ret1 rfl rfl Zb (by
    by_cases h9:Yot name args∈ks
    ·rw [decide_eq_true h9,decide_eq_false (fun h8:Yfc d.types all ks name [] args=>h8 h9)];rfl
    rw [decide_eq_false h9,decide_eq_true (show Yfc d.types all ks name [] args from h9)];rfl))
  obtain ⟨x,hx⟩:=Yc (l:=params) (k:=na) Zi;obtain ⟨r,hr⟩:∃ r,ps=x::r:=⟨params.drop (na+1),by rw [<- hps];exact List.drop_eq_getElem_cons Zi |>.trans (by rw [(Zg hx).2])⟩;have hr2:params.drop (na+1)=r:=by
   have h9:params.drop na=x::r:=by rw [hps,hr]
   rw [<- List.drop_drop,h9];rfl
  rw [hr];refine zWN ?_;refine YS [] ?_;refine wI h1 hx (fun p1 hp1=>?_);refine wH hp1.Param_typ (fun hxs=>?_);refine Yj (Yj ?_);refine zW ?_;refine QK.dz ?_;refine Yf (Yh [] [] Zz (of_q hF hw hall Zi) (fun v6 fz6 H6 hle6 hR6=>⟨⟨hle6,by intro p hp;cases hp⟩,?_⟩));obtain ⟨rfl,B2,m2,c2,rfl,hof⟩:=hR6;refine Ch.qk ⟨hle6,by intro p hp;cases hp⟩ (Xh ?_);refine Ch.done ?_;have lo:=hof.len;have so:=hof.short;refine zV ?_;refine Yi (fun q σ fz' H'=>∃ k:Nat,k<=m2/\q=m2 - k/\σ=[(40,Zk k),(39,Zk m2),(38,Zc B2 m2 c2),(0,Zp gc),(1,.map (some gm)),(2,Zy name),(3,Zc B n c),(4,Zc A na ca)]/\Le fz6 fz'/\H'=[]/\(∀ i,i<k->∀ y,(ofT d.types x.typ all)[i]?=some y->¬Yfc d.types all ks name r (args++ [y]))) ⟨0,Z0 _,rfl,rfl,Zd,rfl,fun i hi=>absurd hi Zi⟩ Zw Zb ?_;rintro q σ fz1 H' ⟨k,hk,rfl,rfl,hl1,rfl,hh⟩;have hle:=hle6.trans hl1;refine vC ?_ ?_<;>intro c2
  ·obtain ⟨y,hy⟩:=Yc (l:=ofT d.types x.typ all) (k:=k) Zi;have hof1:=hof.mono hl1;have h21:=h2.mono hle;have hag':NmsS (args++ [y]):=⟨by rw [List.length_append];simp;omega,fun z hz=>by
    rcases List.mem_append.1 hz with hz | hz
    ·exact hag.2 z hz
    simp at hz;subst hz;exact of_mem (Zm hy) hal⟩
   refine vI hof1 hy (fun p2 hp2=>?_);refine zH hp2 (fun hys=>?_);refine zV ?_;refine Ya (Yh [] [] Zz (YnP h21 Zi) (fun v7 fz7 H7 hle7 hR7=>?_));obtain ⟨Av,cv,rfl,_,_⟩:=hR7.form;have hR8:Grow strL 9 fz7 (Zc Av na cv) na (H7++ []) args:=by rw [List.append_nil];exact hR7
   refine zV ?_;refine Ya (Yb (cs:=[Zy y]) (fun gb=>?_));refine Ya (YD (Hr:=[_]) (n:=na) (d:=y) (Zr _) hR8 WP (.head _) ⟨rfl,hys⟩ (fun v' Hs' hO'=>?_));obtain ⟨Av',cv',rfl,_,_⟩:=hO'.form;refine Seq.freezeAll (H1:=[]) (Zr _) (fun fz8 hle8 hf8=>?_);obtain ⟨A8,c8,e8,h8⟩:=hO'.sl hle8 (fun q hq=>hf8 q (by simp [hq])) Zi;injection e8 with e81 e82 e83
   subst e81;subst e83;have hle9:=hle.trans (hle7.trans hle8)
   ((refine zG ?_);refine Xu (Ykh r (h0.mono hle9) (hle9 _ _ hgm) hks (h1.mono hle9) h8 hr2 Zi h64 hnm hag' hal hall0) (fun f1=>?_) (fun f1=>?_))
   ·exact vR (h:=by exact Ym (by rw [Yfc];exact ⟨y,Zm hy,Zt f1⟩))
   exact vP (h:=by exact ⟨k+1,by omega,rfl,rfl,hl1.trans (hle7.trans hle8),rfl,Yx (p:=fun y=>¬Yfc d.types all ks name r (args++ [y])) hh hy (Zf f1)⟩)
  have hA:=YQ (p:=fun y=>¬Yfc d.types all ks name r (args++ [y])) hh Zi;exact vR (h:=by exact Yg (by rw [Yfc];rintro ⟨y,hy,h9⟩;exact hA y hy h9))
 termination_by ps=>ps.length
 decreasing_by rw [hr];simp
def AtmOk (a:Atom):Prop:=PlnS a.name/\a.args.length<=2000000/\∀ s∈a.args,PlnS s
def keyB (a:Atom):Bs:=a.args.foldl (fun o s=>o++Yal s) (Yal a.name)
theorem YdI:(Yal s).size=s.size+2:=by
 unfold Yal Yb4;rw [YaE,List.length_cons,List.length_append,Array.length_toList];rfl
theorem fold_size:∀ (l:List Bs) (o:Bs),(∀ s∈l,s.size<=1000)->(l.foldl (fun o s=>o++Yal s) o).size<=o.size+l.length*1002
 | [],o,_=>by simp
 | s::l,o,h=>by
  have h1:=h s (by simp);have h2:=fold_size l (o++Yal s) (fun t ht=>h t (by simp [ht]));rw [List.foldl_cons];rw [ByteArray.size_append,YdI] at h2;simp only [List.length_cons];omega
theorem key_q (h:AtomR fz a va) (ho:AtmOk a):QFn prog 57 [.agg #[Zy a.name,va]] fz (Zy (keyB a)):=by
 obtain ⟨h1,h2,h3⟩:=ho;obtain ⟨A,n,c,rfl,ia⟩:=h.args;have l1:=ia.len;refine qF Tryz.func57 Tryz.ntmps57 (fun w0=>?_);refine pX (fun g0=>?_);refine wc (YoL h1) ?_;refine zW ?_;refine Yi (fun q σ fz' H'=>∃ k:Nat,k<=n/\q=n - k/\σ=[(12,Zk k),(11,Zk n),(10,Zc A n c),(3,Zy ((a.args.take k).foldl (fun o s=>o++Yal s) (Yal a.name)))]/\fz=fz'/\H'=[]) ⟨0,Z0 _,rfl,rfl,rfl,rfl⟩ Zw Zb ?_;rintro q σ fz' H' ⟨k,hk,rfl,rfl,rfl,rfl⟩;refine wC ?_ ?_<;>intro c1
 ·obtain ⟨x,hx⟩:=Yc (l:=a.args) (k:=k) Zi;have hxp:=h3 x (Zm hx);refine wI ia hx (fun p1 hp1=>?_);refine zH hp1 (fun hs1=>?_);refine wc (YoL hxp) ?_;refine zW ?_;have hsz:=fold_size (a.args.take k) (Yal a.name) (fun s hs=>(h3 s (List.mem_of_mem_take hs)).1);have hq1:=YdI (s:=a.name);have hq2:=YdI (s:=x);have hn1:=h1.1;have hn2:=hxp.1;have hlt:(a.args.take k).length<=2000000:=Nat.le_trans (List.length_take_le _ _) Zi;refine zG ?_;refine XM Zz Zz (Nat.le_trans (Nat.add_le_add hsz (Nat.le_of_eq hq2)) Zi) ?_;rw [show (a.args.take k).foldl (fun o s=>o++Yal s) (Yal a.name)++Yal x=(a.args.take (k+1)).foldl (fun o s=>o++Yal s) (Yal a.name) from by rw [List.take_add_one,hx,List.foldl_append];rfl];exact wP (h:=by exact ⟨k+1,by omega,rfl,rfl,rfl,rfl⟩)
 rw [Zl Zi];exact wR (h:=rfl)
def KeyN (m:List (Bs × Value)):Prop:=(m.map Prod.fst).Nodup
theorem KeyN.nil:KeyN []:=List.nodup_nil
theorem YlA {x:Bs}:(fndS m x 0).isSome=true↔x∈m.map Prod.fst:=by
 constructor
 ·intro h;obtain ⟨p,hp⟩:=Option.isSome_iff_exists.1 h;have:=(Yat m x 0 p.1 p.2 hp).2;exact List.mem_map.2 ⟨(x,p.2),Zm this,rfl⟩
 intro h;cases hf:fndS m x 0 with
 | some p=>rfl
 | none=>
  obtain ⟨p,hp,e⟩:=List.mem_map.1 h;exact absurd e (YgU m x 0 hf p hp)
theorem set_self {α:Type}:∀ {l:List α} {i:Nat} {x:α},l[i]?=some x->l.set i x=l
 | [],i,x,h=>by simp at h
 | y::l,0,x,h=>by simp at h;subst h;rfl
 | y::l,i+1,x,h=>by rw [List.set_cons_succ,set_self (by simpa using h)]
theorem KeyN.upd (h:KeyN m) (x:Bs) (v:Value):KeyN (updS m x v):=by
 unfold updS;cases hf:fndS m x 0 with
 | none=>
  show KeyN (m++ [(x,v)]);unfold KeyN;rw [List.map_append];refine List.nodup_append.2 ⟨h,by simp,fun a ha b hb e=>?_⟩;simp at hb;subst hb;subst e;have:=YlA.2 ha;rw [hf] at this;cases this
 | some p=>
  obtain ⟨i,u⟩:=p;have h1:=(Yat m x 0 i u hf).2;show KeyN (m.set i (x,v));unfold KeyN;have:(m.set i (x,v)).map Prod.fst=m.map Prod.fst:=by
   rw [List.map_set];have h2:(m.map Prod.fst)[i]?=some x:=by rw [List.getElem?_map];rw [Nat.sub_zero] at h1;rw [h1];rfl
   exact set_self h2
  rw [this];exact h
theorem val_at (h:KeyN m) {p:Bs × Value} (hi:m[i]?=some p):valS m p.1=some p.2:=by
 unfold valS;cases hf:fndS m p.1 0 with
 | none=>exact absurd rfl (YgU m p.1 0 hf p (Zm hi))
 | some q=>
  obtain ⟨j,u⟩:=q;have h1:=(Yat m p.1 0 j u hf).2;rw [Nat.sub_zero] at h1;have hij:i=j:=by
   have e1:(m.map Prod.fst)[i]?=some p.1:=by rw [List.getElem?_map,hi];rfl
   have e2:(m.map Prod.fst)[j]?=some p.1:=by rw [List.getElem?_map,h1];rfl
   obtain ⟨b1,e1⟩:=Zg e1;obtain ⟨b2,e2⟩:=Zg e2;rcases Nat.lt_trichotomy i j with hlt | heq | hlt
   ·exact absurd (e1.trans e2.symm) (List.pairwise_iff_getElem.1 h i j b1 b2 hlt)
   ·exact heq
   exact absurd (e2.trans e1.symm) (List.pairwise_iff_getElem.1 h j i b2 b1 hlt)
  subst hij;rw [hi] at h1;injection h1 with h1
  rw [h1];rfl
theorem val_none {x:Bs} (h:∀ (i:Nat) (p:Bs × Value),m[i]?=some p->p.1≠x):valS m x=none:=by
 unfold valS;cases hf:fndS m x 0 with
 | none=>rfl
 | some q=>
  obtain ⟨j,u⟩:=q;have h1:=(Yat m x 0 j u hf).2;rw [Nat.sub_zero] at h1;exact absurd rfl (h j _ h1)
section
variable {P:Program} {cx:Cx} {r:Operand->Option Value} {fz:FZ} {H:HP} {dst:Option Nat} {ty:TypeId} {pos:String} {af:Array Edge} {gd:Option (Nat × Bool)} {V:Value->Prop}
variable {X:Ty} {e t:TypeId}
theorem Yix (T:Tab P) {k:TypeId} {K E:Ty} {x:Bs} {w:World} (hT:T.inf t=some X) (hd:X.desc=.map k e) (hK:T.inf k=some K) (hkd:K.desc=.string) (hE:T.inf e=some E):
 (Instr.lookup t (.map none) (Zy x) true).run P w=.ok (.tuple #[E.zero,Zo false]) w:=by
 have hu:=run_underlying (und_plain T hT hd rfl) w;have hz:=YbF T hE w;have hf:=Yaj T hK hkd x [] w;simp only [Xc] at hf;simp only [Instr.lookup,Sem.run_bind,hu,Result.andThen_ok,Sem.run_pure,WX T hK hkd,hf];simp [fndS,hz]
variable {v:Value} {y:Operand}
theorem Ygh (T:Tab P) {k:TypeId} {z:Operand} {K E:Ty} {x:Bs} (hT:T.inf t=some X) (hd:X.desc=.map k e) (hK:T.inf k=some K) (hkd:K.desc=.string) (hE:T.inf e=some E)
 (hy:r y=some (.map none)) (hz:r z=some (.string x)) (hv:E.zero=v) (h:V (.tuple #[v,.bool false])):DoesQ P cx ⟨dst,.lookup t y z true,ty,pos,af,gd⟩ r fz H V:=
 DoesQ.of (by rw [<- hv] at h;exact h) fun ρ w hr _=>by
  simp only [execOp,hr _ _ hy,hr _ _ hz,Sem.run_bind,Yix T hT hd hK hkd hE,Result.andThen_ok,Sem.run_pure];exact ⟨rfl,Fr.refl _ _⟩
end
abbrev EnvM:=Bs->Option Bs
def EnvR (fz:FZ) (v:Value) (E:EnvM):Prop:=(v=.map none/\∀ x,E x=none)\/∃ g m,v=.map (some g)/\fz g=some (mapS m)/\KeyN m/\∀ x,valS m x=(E x).map Value.string
variable {E:EnvM}
theorem EnvR.mono (h:EnvR fz v E) (hle:Le fz fz'):EnvR fz' v E:=
 h.imp id fun ⟨g,m,h1,h2,h3,h4⟩=>⟨g,m,h1,hle _ _ h2,h3,h4⟩
theorem EnvR.form (h:EnvR fz v E):∃ o,v=.map o:=by
 rcases h with ⟨h,_⟩ | ⟨g,_,h,_⟩
 ·exact ⟨_,h⟩
 exact ⟨_,h⟩
def setE (E:EnvM) (x a:Bs):EnvM:=fun y=>if y=x then some a else E y
def extE (E:EnvM) (ps:List Param) (as_:List Bs):EnvM:=(ps.zip as_).foldl (fun E z=>setE E z.1.name z.2) E
def valE (E:EnvM) (t:Bs):Bs:=(E t).getD t
theorem Yk5 {t:Bs} (h:EnvR fz v E):QFn prog 59 [Zy t,v] fz (Zy (valE E t)):=by
 rcases h with ⟨rfl,hE⟩ | ⟨g,m,rfl,hg,hn,hE⟩
 ·refine qF Tryz.func59 Tryz.ntmps59 (fun w0=>?_);refine wG ?_;refine Ygh T Zz Zz Zz Zz Zz Zz Zz Zz ?_;exact wR (h:=by rw [valE,hE];rfl)
 refine qF Tryz.func59 Tryz.ntmps59 (fun w0=>?_);refine wG ?_;refine Xe (v:=Zy ((E t).getD ⟨#[]⟩)) (b:=(E t).isSome) hg ?_ (hv:=by rw [Yhu,hE];cases E t<;>rfl) (hb:=by rw [YeX,hE];cases E t<;>rfl);cases hr:E t with
 | some u=>
  exact wR (h:=by rw [valE,hr];rfl)
 | none=>
  exact wR (h:=by rw [valE,hr];rfl)
def CopM (m m':List (Bs × Value)) (seen:List Nat):Prop:=KeyN m'/\∀ x,(∀ i∈seen,∀ p,m[i]?=some p->p.1≠x)/\valS m' x=none\/∃ i∈seen,∃ p,m[i]?=some p/\p.1=x/\valS m' x=some p.2
theorem CopM.nil:CopM m [] []:=⟨KeyN.nil,fun x=>.inl ⟨(by intro i hi;cases hi),rfl⟩⟩
theorem CopM.add {m':List (Bs × Value)} {seen:List Nat} (h:CopM m m' seen) {p:Bs × Value} (hp:m[i]?=some p):CopM m (updS m' p.1 p.2) (seen++ [i]):=by
 refine ⟨h.1.upd _ _,fun x=>?_⟩;rw [Ycn];by_cases hx:x=p.1
 ·rw [if_pos hx];exact .inr ⟨i,by simp,p,hp,hx.symm,rfl⟩
 rw [if_neg hx];rcases h.2 x with ⟨h1,h2⟩ | ⟨j,hj,q,hq,h1,h2⟩
 ·refine .inl ⟨fun j hj q hq=>?_,h2⟩;rcases List.mem_append.1 hj with hj | hj
  ·exact h1 j hj q hq
  simp at hj;subst hj;rw [hp] at hq;injection hq with hq;subst hq;exact fun e=>hx e.symm
 exact .inr ⟨j,by simp [hj],q,hq,h1,h2⟩
theorem CopM.all {m':List (Bs × Value)} {seen:List Nat} (hn:KeyN m) (h:CopM m m' seen) (hall:∀ i,i<m.length->i∈seen) (x:Bs):valS m' x=valS m x:=by
 rcases h.2 x with ⟨h1,h2⟩ | ⟨j,hj,q,hq,h1,h2⟩
 ·rw [h2,val_none (fun i p hp=>h1 i (hall i (Zg hp).1) p hp)]
 rw [h2,<- h1,val_at hn hq]
theorem Yp2 {ps:List Param} {as_:List Bs} {p:Param} {a:Bs} (hp:ps[k]?=some p) (ha:as_[k]?=some a):setE (extE E (ps.take k) (as_.take k)) p.name a=extE E (ps.take (k+1)) (as_.take (k+1)):=by
 have h1:(ps.take (k+1)).zip (as_.take (k+1))=(ps.take k).zip (as_.take k)++ [(p,a)]:=by
  have hl:(ps.take k).length=(as_.take k).length:=by
   have h1:=(Zg hp).1;have h2:=(Zg ha).1;simp only [List.length_take];omega
  rw [List.take_add_one,List.take_add_one,hp,ha];exact List.zip_append hl
 unfold extE;rw [h1,List.foldl_append];rfl
theorem env_f {ps:List Param} {as_:List Bs} {m b:Nat} (hps:Sl paramL fz A n c ps) (has:Sl strL fz B m b as_) (hnm:n<=m) (ho:EnvR fz v E):
 GFn prog 101 [Zc A n c,Zc B m b,v] fz [] (fun r fz' H'=>H'=[]/\EnvR fz' r (extE E ps (as_.take n))):=by
 have lp:=hps.len;have la:=has.len;have sp:=hps.short;refine zF Tryz.func101 Tryz.ntmps101 (fun w0=>?_);refine zW ?_;refine Ya (Xf (fun gout=>?_));refine zWX ?_;refine Yy (YV (fun σ fz' H'=>∃ mo:List (Bs × Value),σ=[(7,.map (some gout)),(0,Zc A n c),(1,Zc B m b)]/\fz=fz'/\H'=[(gout,mapS mo)]/\KeyN mo/\∀ x,valS mo x=(E x).map Value.string) ?_ ?_)
 ·rcases ho with ⟨rfl,hE⟩ | ⟨g,ms,rfl,hg,hn,hE⟩
  ·refine zW ?_;refine Ya (k_rangeN T Zz Zz Zz (fun gi=>?_));refine zW ?_;refine Yi (fun q σ fz' H'=>q=0/\σ=[(14,Zp gi),(7,.map (some gout)),(0,Zc A n c),(1,Zc B m b)]/\fz=fz'/\H'=[(gi,Yho),(gout,mapS [])]) ⟨rfl,rfl,rfl,rfl⟩ Zw Zb ?_;rintro q σ fz' H' ⟨rfl,rfl,rfl,rfl⟩;refine zW ?_;refine Ya (k_nextN Zz ?_);exact wN (h:=by exact ⟨[],rfl,rfl,rfl,KeyN.nil,fun x=>by rw [hE];rfl⟩)
  refine zW ?_;refine Ya (YgD hg (fun gi=>?_));refine zW ?_;refine Yi (fun q σ fz' H'=>∃ (seen:List Nat) (mo:List (Bs × Value)),q=(List.range ms.length).countP (fun i=>!seen.contains i)/\σ=[(14,Zp gi),(7,.map (some gout)),(0,Zc A n c),(1,Zc B m b)]/\fz=fz'/\H'=[(gi,Yb8 g ms.length seen),(gout,mapS mo)]/\CopM ms mo seen) ⟨[],[],rfl,rfl,rfl,rfl,CopM.nil⟩ Zw Zb ?_;rintro q σ fz' H' ⟨seen,mo,rfl,rfl,rfl,rfl,hC⟩;refine zW ?_;refine Ya (YiR Zz hg (fun hall=>?_) (fun i p hp hi=>?_))
  ·exact wN (h:=by exact ⟨mo,rfl,rfl,rfl,hC.1,fun x=>by rw [hC.all hn hall,hE]⟩)
  refine wG ?_;refine Ygj 0 hg hp ?_;refine zW ?_;refine YA (Xs (pre:=[_]) (Zr _) ?_);refine zW ?_;refine Wr ⟨seen++ [i],_,rfl,rfl,rfl,rfl,hC.add hp⟩ ?_ Zw Zb;exact Yc5 _ i (by rw [List.mem_range];exact (Zg hp).1) (fun j hj=>by simp at hj ⊢;exact fun h=>hj.1 h) (by simpa using hi) (by simp)
 rintro σ fz' H' ⟨mo,rfl,rfl,rfl,hk0,hv0⟩;refine zW ?_;refine Yi (fun q σ fz' H'=>∃ (k:Nat) (mo:List (Bs × Value)),k<=n/\q=n - k/\σ=[(25,Zk k),(24,Zk n),(23,Zc A n c),(1,Zc B m b),(7,.map (some gout))]/\fz=fz'/\H'=[(gout,mapS mo)]/\KeyN mo/\∀ x,valS mo x=(extE E (ps.take k) (as_.take k) x).map Value.string) ⟨0,mo,Z0 _,rfl,rfl,rfl,rfl,hk0,hv0⟩ Zw Zb ?_;rintro q σ fz' H' ⟨k,mo,hk,rfl,rfl,rfl,rfl,hkn,hkv⟩;refine wC ?_ ?_<;>intro c1
 ·obtain ⟨x,hx⟩:=Yc (l:=ps) (k:=k) Zi;obtain ⟨y,hy⟩:=Yc (l:=as_) (k:=k) Zi;refine wI hps hx (fun p1 hp1=>?_);refine zL hp1 ?_;intro cs hcs;obtain ⟨rfl,hR⟩:=Yz hcs;refine zWN ?_;intros;refine YS [_,_] ?_;refine wI has hy (fun p2 hp2=>?_);refine zH hp2 (fun hs2=>?_);refine pU ?_;refine Ch.hard0 (Xs (pre:=[_]) (Zr _) ?_);refine Ch.done ?_;refine zW ?_;exact Wr ⟨k+1,_,by omega,rfl,rfl,rfl,rfl,hkn.upd _ _,fun z=>by
   rw [Ycn,<- Yp2 hx hy,hkv];unfold setE;by_cases hz:z=x.name
   ·rw [if_pos hz,if_pos hz];rfl
   rw [if_neg hz,if_neg hz]⟩ Zi Zw Zb
 have hk2:k=n:=by omega
 subst hk2;rw [Zl (show ps.length<=k by omega)] at hkv;refine zW ?_;exact Yb3 rfl rfl (fun fz3 hle3 hf3=>⟨rfl,.inr ⟨gout,mo,rfl,hf3 (gout,mapS mo) (by simp),hkn,hkv⟩⟩)
def bndA (E:EnvM) (name:Bs) (args:List Bs):Atom:=⟨name,args.map (valE E)⟩
theorem Ym4 {t:Bs} (hE:∀ x y,E x=some y->y.size<=1000) (ht:Short t):Short (valE E t):=by
 unfold valE;cases h:E t with
 | none=>exact ht
 | some y=>exact Nat.le_trans (hE t y h) Zh
theorem Yg9 {name:Bs} {args:List Bs} (hv:EnvR fz v E) (hE:∀ x y,E x=some y->y.size<=1000) (ha:Sl strL fz A n c args) (hn:n<=2000000) (hnm:Short name):
 GFn prog 58 [Zy name,Zc A n c,v] fz [] (fun r fz' H'=>H'=[]/\∃ va,r=.agg #[Zy name,va]/\AtomR fz' (bndA E name args) va):=by
 have la:=ha.len;have hv0:=hv;obtain ⟨gm,rfl⟩:=hv.form;refine zF Tryz.func58 Tryz.ntmps58 (fun w0=>?_);refine zW ?_;intros;rename_i g6 g7;refine Yi (fun q σ fz' H'=>∃ (k:Nat) (u:Value) (Hs:HP),k<=n/\q=n - k/\σ=[(14,Zk k),(13,Zk n),(12,Zc A n c),(7,Zp g7),(6,Zp g6),(2,.map gm)]/\fz=fz'/\
  H'=(g7,Zu #[Zy name,u] 67)::(g6,Zu #[Ze,Zn] 67)::Hs/\Grow strL 9 fz u k Hs ((args.take k).map (valE E))) ⟨0,_,[],Z0 _,rfl,rfl,rfl,rfl,Grow.nil _ _ _⟩ Zw Zb ?_
 rintro q σ fz' H' ⟨k,u,Hs,hk,rfl,rfl,rfl,rfl,hG⟩;obtain ⟨Au,cu,rfl,_,_⟩:=hG.form;refine wC ?_ ?_<;>intro c1
 ·obtain ⟨x,hx⟩:=Yc (l:=args) (k:=k) Zi;refine wI ha hx (fun p1 hp1=>?_);refine zH hp1 (fun hs1=>?_);refine zWN ?_;refine YS [_,_] ?_;refine wc (Yk5 hv0) ?_;refine Yj (Yj ?_);refine zW ?_;refine pU ?_;refine Yf (Yb (cs:=[Zy (valE E x)]) (fun gb=>⟨⟨Zd,Zx⟩,?_⟩));refine Yf (YD (Hr:=[_,_,_]) (n:=k) (d:=valE E x) (Zr _) hG WP (.head _) ⟨rfl,Ym4 hE hs1⟩ (fun v' Hs' hO'=>⟨⟨Zd,Zx⟩,?_⟩));obtain ⟨Av',cv',rfl,_,_⟩:=hO'.form;refine Ch.hard0 (Y1 ?_);refine Ch.done ?_;exact wP (h:=by exact ⟨k+1,_,Hs',by omega,rfl,rfl,rfl,rfl,hO'.of (by rw [List.take_add_one,hx];simp) rfl⟩)
 have hk2:k=n:=by omega
 subst hk2;rw [Zl Zi] at hG;refine zW ?_;refine YL (i:=1) rfl (fun fz3 hle3 hf3=>?_);obtain ⟨A',c',he,hsl⟩:=hG.sl hle3 (fun p hp=>hf3 p (by simp [hp])) Zi;exact ⟨rfl,_,rfl,⟨hnm,A',_,c',he,hsl⟩⟩
def SetM (fz:FZ) (m:List (Bs × Value)) (S:List Atom):Prop:=KeyN m/\m.length=S.length/\∀ (i:Nat) (a:Atom),S[i]?=some a->AtmOk a/\∃ va:Value,m[i]?=some (keyB a,Value.agg #[Zy a.name,va])/\AtomR fz a va
theorem fndS_no' {x:Bs} (h:(fndS m x i).isSome=false):fndS m x i=none:=by cases hf:fndS m x i with | none=>rfl | some p=>rw [hf] at h;cases h
theorem SetM.mono (h:SetM fz m S) (hle:Le fz fz'):SetM fz' m S:=
 ⟨h.1,h.2.1,fun i a ha=>by obtain ⟨h1,va,h2,h3⟩:=h.2.2 i a ha;exact ⟨h1,va,h2,h3.mono hle⟩⟩
theorem SetM.nil:SetM fz [] []:=⟨KeyN.nil,rfl,by intro i a h;simp at h⟩
theorem Yn1 {s t X Y:List UInt8} (hs:(34:UInt8) ∉ s) (ht:(34:UInt8) ∉ t) (h:s++34::X=t++34::Y):s=t/\X=Y:=by
 induction s generalizing t with
 | nil=>
  cases t with
  | nil=>simp at h;exact ⟨rfl,h⟩
  | cons b t=>simp at h;exact absurd (by simp [h.1]) ht
 | cons a s ih=>
  cases t with
  | nil=>simp at h;exact absurd (by simp [h.1]) hs
  | cons b t=>
   simp only [List.cons_append,List.cons.injEq] at h;obtain ⟨h1,h2⟩:=ih (t:=t) (fun e=>hs (by simp [e])) (fun e=>ht (by simp [e])) h.2;exact ⟨by rw [h.1,h1],h2⟩
def Ya3 (l:List Bs):List UInt8:=l.flatMap fun s=>Yb4 s.data.toList
theorem Ygf:∀ {l l':List Bs},(∀ s∈l,(34:UInt8) ∉ s.data.toList)->(∀ s∈l',(34:UInt8) ∉ s.data.toList)->Ya3 l=Ya3 l'->l=l'
 | [],[],_,_,_=>rfl
 | [],s::r,_,_,h=>by simp [Ya3,Yb4] at h
 | s::r,[],_,_,h=>by simp [Ya3,Yb4] at h
 | s::r,t::r',h1,h2,h=>by
  have e:s.data.toList++34::Ya3 r=t.data.toList++34::Ya3 r':=by
   simpa [Ya3,Yb4] using h
  obtain ⟨e1,e2⟩:=Yn1 (h1 s (by simp)) (h2 t (by simp)) e;rw [Ygf (fun x hx=>h1 x (by simp [hx])) (fun x hx=>h2 x (by simp [hx])) e2,bytes_ext e1]
where
 bytes_ext {s t:Bs} (h:s.data.toList=t.data.toList):s=t:=by
  have h1:s.data=s.data.toList.toArray:=by simp
  have h2:t.data=t.data.toList.toArray:=by simp
  exact ByteArray.ext (by rw [h1,h2,h])
theorem Ykz:∀ (l:List Bs) (o:List UInt8),l.foldl (fun o s=>o++Yal s) (strOf o)=strOf (o++Ya3 l)
 | [],o=>by simp [Ya3]
 | s::l,o=>by
  rw [List.foldl_cons,show Yal s=strOf (Yb4 s.data.toList) from rfl,YjJ,Ykz l];simp [Ya3]
theorem Ypt (a:Atom):keyB a=strOf (Ya3 (a.name::a.args)):=by
 unfold keyB;rw [show Yal a.name=strOf (Yb4 a.name.data.toList) from rfl,Ykz];simp [Ya3]
theorem Ymk (h:PlnS s):(34:UInt8) ∉ s.data.toList:=fun h0=>(h.2 34 h0).2.2.1 rfl
theorem keyB_inj {b:Atom} (ha:AtmOk a) (hb:AtmOk b) (h:keyB a=keyB b):a=b:=by
 rw [Ypt,Ypt] at h;have h1:=Ygf (l:=a.name::a.args) (l':=b.name::b.args) (fun s hs=>by
  rcases List.mem_cons.1 hs with rfl | hs
  ·exact Ymk ha.1
  ·exact Ymk (ha.2.2 s hs)) (fun s hs=>by
  rcases List.mem_cons.1 hs with rfl | hs
  ·exact Ymk hb.1
  exact Ymk (hb.2.2 s hs)) (Yow h)
 cases a;cases b;simp at h1;rw [h1.1,h1.2]
theorem SetM.has (h:SetM fz m S) (ha:AtmOk a):(fndS m (keyB a) 0).isSome=decide (a∈S):=by
 by_cases hm:a∈S
 ·rw [decide_eq_true hm];obtain ⟨i,hi⟩:=List.getElem?_of_mem hm;obtain ⟨_,va,h2,_⟩:=h.2.2 i a hi;exact YlA.2 (List.mem_map.2 ⟨_,Zm h2,rfl⟩)
 rw [decide_eq_false hm];cases hf:(fndS m (keyB a) 0).isSome with
 | false=>rfl
 | true=>
  obtain ⟨p,hp,e⟩:=List.mem_map.1 (YlA.1 hf);obtain ⟨i,hi⟩:=List.getElem?_of_mem hp;have hlt:i<S.length:=by have:=(Zg hi).1;rw [h.2.1] at this;exact this
  obtain ⟨b,hb⟩:=Yc hlt;obtain ⟨hbo,va,h2,_⟩:=h.2.2 i b hb;rw [hi] at h2;injection h2 with h2
  rw [h2] at e;rw [keyB_inj hbo ha e] at hb;exact absurd (Zm hb) hm
theorem SetM.push (h:SetM fz m S) (ha:AtmOk a) (hn:a ∉ S) (hR:AtomR fz a va):SetM fz (updS m (keyB a) (.agg #[Zy a.name,va])) (S++ [a]):=by
 have hf:=h.has ha;rw [decide_eq_false hn] at hf;have hu:updS m (keyB a) (.agg #[Zy a.name,va])=m++ [(keyB a,.agg #[Zy a.name,va])]:=by
  unfold updS;cases h0:fndS m (keyB a) 0 with
  | none=>rfl
  | some p=>rw [h0] at hf;cases hf
 refine ⟨h.1.upd _ _,by rw [hu,List.length_append,List.length_append,h.2.1];rfl,fun i b hb=>?_⟩;rw [hu];by_cases hi:i<S.length
 ·rw [List.getElem?_append_left hi] at hb;obtain ⟨h1,vb,h2,h3⟩:=h.2.2 i b hb;exact ⟨h1,vb,by rw [List.getElem?_append_left (by rw [h.2.1];exact hi)];exact h2,h3⟩
 rw [List.getElem?_append_right Zi] at hb;have hi2:i - S.length=0:=by
  have:=(Zg hb).1;simp at this;omega
 rw [hi2] at hb;simp at hb;subst hb;exact ⟨ha,va,by rw [List.getElem?_append_right (by rw [h.2.1];omega),h.2.1,hi2];rfl,hR⟩
theorem add_f {gs:Nat} (hS:SetM fz m S) (hR:AtomR fz a va) (ha:AtmOk a):
 GFn prog 27 [.map (some gs),.agg #[Zy a.name,va]] fz [(gs,mapS m)] (fun r fz' H'=>fz=fz'/\r=Zo (decide (a ∉ S))/\∃ m',H'=[(gs,mapS m')]/\SetM fz m' (if a∈S then S else S++ [a])):=by
 have hR0:=hR;obtain ⟨A,n,c,rfl,ia⟩:=hR.args;refine zF Tryz.func27 Tryz.ntmps27 (fun w0=>?_);refine pX (fun g3=>?_);refine wc (key_q hR0 ha) ?_;refine zW ?_;by_cases hm:a∈S
 ·have hb:=hS.has ha;rw [decide_eq_true hm] at hb;obtain ⟨p,hp⟩:=Option.isSome_iff_exists.1 hb;have hpv:=(Yat m (keyB a) 0 p.1 p.2 hp).2;rw [Nat.sub_zero] at hpv;have hlt:p.1<S.length:=by have:=(Zg hpv).1;rw [hS.2.1] at this;exact this
  obtain ⟨b,hb2⟩:=Yc hlt;obtain ⟨hbo,vb,h2,h3⟩:=hS.2.2 p.1 b hb2;rw [hpv] at h2;injection h2 with h2
  injection h2 with h2 h4
  obtain ⟨B,nb,cb,rfl,_⟩:=h3.args;refine zG ?_;refine WZ (v:=.agg #[Zy b.name,Zc B nb cb]) (b:=true) 1 hb ?_ (hv:=by rw [hp];exact h4);refine zW ?_;intros;exact wR (h:=by exact ⟨rfl,Yg (fun h=>h hm),m,rfl,by rw [if_pos hm];exact hS⟩)
 have hb:=hS.has ha;rw [decide_eq_false hm] at hb;have h0:fndS m (keyB a) 0=none:=fndS_no' hb;refine zG ?_;refine WZ (v:=.agg #[Ze,Zn]) (b:=false) 1 hb ?_ (hv:=by rw [h0];rfl);refine zW ?_;intros;refine YA (Xs (pre:=[_,_]) (Zr _) ?_);exact wR (h:=by exact ⟨rfl,Ym hm,_,rfl,by rw [if_neg hm];exact hS.push ha hm hR0⟩)
end Go.Proofs.YtacfpcbladaohaaGreatDoor
namespace Go.Proofs.YtacfpcbladaohaaGreatDoor
def ltB (a b:Bs):Bool:=Op.bytesLess a.toList b.toList
section
set_option linter.unusedSectionVars false
variable [Dr]
section
variable {P:Program} {cx:Cx} {r:Operand->Option Value} {fz:FZ} {H:HP} {V:Value->Prop} {dst:Option Nat} {ty:TypeId} {pos:String} {af:Array Edge} {gd:Option (Nat × Bool)}
theorem Ynk {t t':TypeId} {x y:Operand} {u v:Bs} (ht:ltB u v=true->V (.bool true)) (hf:ltB u v=false->V (.bool false)) (hx:r x=some (.string u):=by exact rfl) (hy:r y=some (.string v):=by exact rfl):DoesQ P cx ⟨dst,.binOp .lss t x y t',ty,pos,af,gd⟩ r fz H V:=
 YC (v:=Zo (ltB u v)) (fun ρ w hr=>by
  simp [execOp,hr _ _ hx,hr _ _ hy,binOp,Op.stringOp,eqGuard,ltB]) (by
  cases h:ltB u v with
  | true=>exact ht h
  | false=>exact hf h)
theorem Ynm {t t':TypeId} {x y:Operand} {u v:Bs} (ht:ltB u v=false->u≠v->V (.bool true)) (hf:ltB u v=true\/u=v->V (.bool false)) (hx:r x=some (.string u):=by exact rfl) (hy:r y=some (.string v):=by exact rfl):DoesQ P cx ⟨dst,.binOp .gtr t x y t',ty,pos,af,gd⟩ r fz H V:=
 YC (v:=Zo (!(ltB u v || decide (u=v)))) (fun ρ w hr=>by
  simp [execOp,hr _ _ hx,hr _ _ hy,binOp,Op.stringOp,eqGuard,ltB,Ylb]) (by
  cases h:ltB u v with
  | true=>exact hf (.inl h)
  | false=>
   by_cases e:u=v
   ·rw [decide_eq_true e];exact hf (.inr e)
   rw [decide_eq_false e];exact ht h e)
end
end
end Go.Proofs.YtacfpcbladaohaaGreatDoor
namespace Go.Proofs.YtacfpcbladaohaaGreatDoor
variable {α:Type} {A:Option Addr} {c n k:Nat} {fz fz':FZ} {v va ve vk vp:Value} {f:Formula}
section
set_option linter.unusedSectionVars false
variable [Dr]
def cmpS (a b:Bs):Int:=if ltB a b=true then -1 else if a=b then 0 else 1
def cmpL:List Bs->List Bs->Int
 | [],[]=>0
 | [],_::_=> -1
 | _::_,[]=>1
 | x::xs,y::ys=>if cmpS x y≠0 then cmpS x y else cmpL xs ys
def cmpA (a b:Atom):Int:=if cmpS a.name b.name≠0 then cmpS a.name b.name else cmpL a.args b.args
theorem YlL (a b:Bs):I64 (cmpS a b):=by
 unfold cmpS I64;split
 ·omega
 split<;>omega
theorem YlM:∀ (a b:List Bs),I64 (cmpL a b)
 | [],[]=>by unfold cmpL I64;omega
 | [],_::_=>by unfold cmpL I64;omega
 | _::_,[]=>by unfold cmpL I64;omega
 | x::xs,y::ys=>by
  unfold cmpL;split
  ·exact YlL x y
  exact YlM xs ys
variable {fz:FZ}
theorem nanS_q {a:Bs}:QFn prog 206 [Zy a] fz (Zo false):=by
 refine qF Tryz.func206 Tryz.ntmps206 (fun w0=>?_);refine wC ?_ ?_<;>intro c1
 ·exact absurd rfl c1
 exact wR (h:=rfl)
theorem Yqi {a b:Bs}:QFn prog 106 [Zy a,Zy b] fz (Zk (cmpS a b)):=by
 refine qF Tryz.func106 Tryz.ntmps106 (fun w0=>?_);refine wc (nanS_q (a:=a)) ?_;refine wc (nanS_q (a:=b)) ?_;refine wG ?_;refine Ynk (fun h1=>?_) (fun h1=>?_)
 ·exact wR (h:=by rw [cmpS,if_pos h1])
 refine wG ?_;refine Ynm (fun h2 h3=>?_) (fun h2=>?_)
 ·exact wR (h:=by rw [cmpS,if_neg (by rw [h1];decide),if_neg h3])
 refine zW ?_
 (exact ret1 rfl rfl Zb (by
  have h3:a=b:=h2.resolve_left (by rw [h1];decide);rw [cmpS,if_neg (by rw [h1];decide),if_pos h3]))
theorem Yjh {l:List Bs}:cmpL [] l=if 0<l.length then -1 else 0:=by cases l<;>simp [cmpL]
variable {A B:Option Addr} {c n:Nat}
theorem cmpL_q {m b:Nat} {l l':List Bs} (ha:Sl strL fz A n c l) (hb:Sl strL fz B m b l'):QFn prog 107 [Zc A n c,Zc B m b] fz (Zk (cmpL l l')):=by
 have la:=ha.len;have lb:=hb.len;have sa:=ha.short;refine qF Tryz.func107 Tryz.ntmps107 (fun w0=>?_);refine zW ?_;refine XW n (fun k=>[(11,Zk k),(10,Zk n),(9,Zc A n c),(0,Zc A n c),(1,Zc B m b)]) [] (fun k=>k<=m/\cmpL (l.drop k) (l'.drop k)=cmpL l l') ⟨Z0 _,rfl⟩ ?_;intro k hk hh;obtain ⟨hkm,hcm⟩:=hh;refine wC ?_ ?_<;>intro c1
 ·obtain ⟨x,hx⟩:=Yc (l:=l) (k:=k) Zi;have ex:l.drop k=x::l.drop (k+1):=by
   obtain ⟨h1,h2⟩:=Zg hx;rw [<- h2];exact List.drop_eq_getElem_cons h1
  refine wI ha hx (fun p1 hp1=>?_);refine zH hp1 (fun hs1=>?_);refine wC ?_ ?_<;>intro c2
  ·have ey:l'.drop k=[]:=List.drop_eq_nil_of_le Zi;rw [ex,ey] at hcm;exact wR (h:=by rw [<- hcm];rfl)
  obtain ⟨y,hy⟩:=Yc (l:=l') (k:=k) Zi;have ey:l'.drop k=y::l'.drop (k+1):=by
   obtain ⟨h1,h2⟩:=Zg hy;rw [<- h2];exact List.drop_eq_getElem_cons h1
  rw [ex,ey] at hcm;refine wI hb hy (fun p2 hp2=>?_);refine zH hp2 (fun hs2=>?_);refine wc (Yqi (a:=x) (b:=y)) ?_;refine wC ?_ ?_<;>intro c3
  ·exact wR (h:=by rw [<- hcm,cmpL,if_pos c3])
  refine zW ?_;refine Wr ⟨k+1,by omega,rfl,rfl,rfl,rfl,by omega,?_⟩ Zi Zw Zb;rw [<- hcm,cmpL,if_neg Zi]
 have hk2:k=n:=by omega
 subst hk2;rw [List.drop_eq_nil_of_le Zi,Yjh,List.length_drop] at hcm;refine wC ?_ ?_<;>intro c2
 ·rw [if_pos Zi] at hcm;exact wR (h:=by rw [<- hcm])
 rw [if_neg Zi] at hcm;exact wR (h:=by rw [<- hcm])
variable {g:Nat} {t:TypeId}
theorem or_f {x y:Int} (hx:I64 x) (hy:I64 y) (hc:2<=c/\c<=9223372036854775807):
 GFn prog 105 [Zv g 2 c] fz [(g,Zu #[Zk x,Zk y] t)] (fun r fz' H'=>H'=[]/\r=Zk (if x≠0 then x else y)):=by
 refine zF Tryz.func105 Tryz.ntmps105 (fun w0=>?_);refine Wp.freezeAll (H1:=[]) (Zr _) (fun fz1 hle1 hf1=>?_);have h:Sl intL fz1 (some ⟨g,0,none⟩) 2 c [x,y]:=by
  refine ⟨rfl,hc.1,hc.2,by decide,.inr ⟨_,rfl,fun i d hd=>?_⟩⟩;have hg:=hf1 _ (List.mem_singleton.2 rfl)
  match i,hd with
  | 0,hd=>
   simp at hd;subst hd;exact ⟨_,⟨rfl,hx⟩,fun j v hv=>by
    match j,hv with
    | 0,hv=>simp at hv;subst hv;simp [Ycd,Addr.add,hg]
    | j+1,hv=>simp at hv⟩
  | 1,hd=>
   simp at hd;subst hd;exact ⟨_,⟨rfl,hy⟩,fun j v hv=>by
    match j,hv with
    | 0,hv=>simp at hv;subst hv;simp [Ycd,Addr.add,hg,intL]
    | j+1,hv=>simp at hv⟩
  | i+2,hd=>simp at hd
 refine zW ?_;refine Yi (fun q σ fz2 H'=>∃ k:Nat,k<=2/\q=2 - k/\σ=[(8,Zk k),(7,Zk 2),(6,Zv g 2 c),(3,Zk 0)]/\fz1=fz2/\H'=[]/\(1<=k->x=0)/\(2<=k->y=0)) ⟨0,Z0 _,rfl,rfl,rfl,rfl,by omega,by omega⟩ Zw Zb ?_;rintro q σ fz' H' ⟨k,hk,rfl,rfl,rfl,rfl,h1,h2⟩;refine wC ?_ ?_<;>intro c1
 ·obtain ⟨z,hz⟩:=Yc (l:=[x,y]) (k:=k) (by simp;omega);refine wI h hz (fun p1 hp1=>?_)
  ((refine zG ?_);refine YeN T Zz Zz Zz hp1 (fun hi1=>?_));refine wC ?_ ?_<;>intro c2
  ·refine zW ?_;refine ret1 rfl rfl Zb ⟨rfl,?_⟩
   match k,hz,h1 with
   | 0,hz,_=>simp at hz;subst hz;rw [if_pos c2]
   | 1,hz,h1=>simp at hz;subst hz;rw [if_neg (by rw [h1 (Zs _)];decide)]
   | k+2,hz,_=>simp at hz
  refine zW ?_;refine Wr ⟨k+1,by omega,rfl,rfl,rfl,rfl,?_,?_⟩ Zi Zw Zb
  ·intro _
   match k,hz,h1 with
   | 0,hz,_=>simp at hz;omega
   | k+1,hz,h1=>exact h1 Zi
  intro hk3;have:k=1:=by omega
  subst this;simp at hz;omega
 refine zW ?_;refine ret1 rfl rfl Zb ⟨rfl,?_⟩;rw [if_neg (by rw [h1 Zi];decide),h2 Zi]
theorem Yqe {fz:FZ} {a b:Atom} {va vb:Value} (ha:AtomR fz a va) (hb:AtomR fz b vb):GFn prog 45 [.agg #[Zy a.name,va],.agg #[Zy b.name,vb]] fz [] (fun r fz' H'=>H'=[]/\r=Zk (cmpA a b)):=by
 obtain ⟨A,n,c,rfl,ia⟩:=ha.args;obtain ⟨B,m,d,rfl,ib⟩:=hb.args;refine zF Tryz.func45 Tryz.ntmps45 (fun w0=>?_);refine pX (fun g0=>?_);refine pY (fun g1=>?_);refine zWN ?_;refine YS [_,_] ?_;refine wc (Yqi (a:=a.name) (b:=b.name)) ?_;refine wc (cmpL_q ia ib) ?_;refine pU ?_;refine Yf (Yb (cs:=[Zk (cmpS a.name b.name),Zk (cmpL a.args b.args)]) (fun gb=>⟨⟨Zd,Zx⟩,?_⟩));refine Yf (Yh [_] [_,_] Zz (or_f (YlL _ _) (YlM _ _) ⟨Zs _,by decide⟩) (fun v2 fz2 H2 hle2 hR2=>?_));obtain ⟨rfl,rfl⟩:=hR2;refine ⟨⟨hle2,Zx⟩,?_⟩;refine Ch.q (YE ⟨⟨hle2,Zx⟩,?_⟩);refine Ch.done ?_;refine zW ?_;exact Yb3 rfl rfl (fun fz3 hle3 hf3=>⟨rfl,rfl⟩)
end
theorem YbN {l:List Bs} (h:Sl strL fz A n c l) (hn:n<=1000000000):
 GFn prog 37 [Zc A n c] fz [] (fun v fz' H'=>Grow strL 9 fz' v n H' l):=by
 have l1:=h.len;refine zF Tryz.func37 Tryz.ntmps37 (fun w0=>?_);refine vG ?_;refine WS (fun eA=>?_) (fun eA=>?_)
 ·subst eA;have hl:l=[]:=by
   rcases h.elem with h0 | ⟨_,h0,_⟩
   ·exact List.eq_nil_of_length_eq_zero Zi
   cases h0
  subst hl;simp at l1;subst l1;refine zV ?_;refine Yd2 (H':=[]) (H2:=[]) rfl rfl (Zr _) (fun fz3 hle3 _=>Grow.nil _ _ _)
 refine zV ?_;refine Ya (Yaq (fun gb=>?_));refine zV ?_;refine Ya (XF T (Hr:=[]) (n:=0) (l:=[]) Zz Zz Zz Zz Zz Zz Zz Zz (Zr _) (Grow.block (ys:=[]) rfl rfl (by intro p hp;cases hp) rfl) WP h (by show _*16<=_;omega) Zi (fun v' Hs' hO'=>?_));obtain ⟨Av',cv',rfl,_,_⟩:=hO'.form;refine zV ?_;refine Yd2 (H':=Hs') (H2:=[]) rfl rfl (by simp) (fun fz3 hle3 _=>(hO'.mono hle3).of (by simp) Zi)
structure Kn where
 l:List Param
 os:List Param
 init:List Atom
 chg:Bs->Bool
structure KnR (fz:FZ) (v:Value) (K:Kn):Prop where
 ex:∃ (g:Nat) (a0 a1 a2 a3 a4 a5 a6 a7 a8 a9 a10 a11 a12 a13 a14 a15 a16 a17 vf:Value) (A:Option Addr) (n c gc gi:Nat) (mc mi:List (Bs × Value)),
  v=Zp g/\fz g=some (Zu #[a0,a1,a2,a3,a4,a5,a6,a7,a8,a9,a10,a11,a12,a13,a14,a15,a16,a17,vf,Zc A n c,.map (some gc),.map (some gi)] 124)/\
  ForR fz vf K.l/\Sl paramL fz A n c K.os/\fz gc=some (mapS mc)/\(∀ x,(valS mc x).getD (Zo false)=Zo (K.chg x))/\fz gi=some (mapS mi)/\SetM fz mi K.init
 w:WFT K.l
 many:K.os.length<=2000000
variable {K:Kn}
theorem KnR.mono (h:KnR fz v K) (hle:Le fz fz'):KnR fz' v K:=by
 obtain ⟨⟨g,a0,a1,a2,a3,a4,a5,a6,a7,a8,a9,a10,a11,a12,a13,a14,a15,a16,a17,vf,A,n,c,gc,gi,mc,mi,h1,h2,h3,h4,h5,h6,h7,h8⟩,hw,hm⟩:=h;exact ⟨⟨g,a0,a1,a2,a3,a4,a5,a6,a7,a8,a9,a10,a11,a12,a13,a14,a15,a16,a17,vf,A,n,c,gc,gi,mc,mi,h1,hle _ _ h2,h3.mono hle,h4.mono hle,hle _ _ h5,h6,hle _ _ h7,h8.mono hle⟩,hw,hm⟩
def ofK (K:Kn) (t:Bs):List Bs:=ofT K.l t K.os
theorem YoY (K:Kn) (t:Bs):(ofK K t).length<=K.os.length:=by
 unfold ofK ofT;rw [List.length_map];exact List.length_filter_le _ _
theorem kof_f {t:Bs} (h:KnR fz v K):GFn prog 145 [v,Zy t] fz [] (fun v fz' H'=>H'=[]/\∃ B m cc,v=Zc B m cc/\Sl strL fz' B m cc (ofK K t)):=by
 obtain ⟨⟨g,a0,a1,a2,a3,a4,a5,a6,a7,a8,a9,a10,a11,a12,a13,a14,a15,a16,a17,vf,A,n,c,gc,gi,mc,mi,rfl,hg,hF,hO,h5,h6,h7,h8⟩,hw,hm⟩:=h;have ln:=hO.len;have hF0:=hF;obtain ⟨gf,gm,rfl,hf1,hf2⟩:=hF;refine zF Tryz.func145 Tryz.ntmps145 (fun w0=>?_);refine zWN ?_;refine YS [] ?_;refine zW ?_;refine pU ?_;refine Yf (Yh [] [] Zz (of_q hF0 hw hO Zi) (fun v2 fz2 H2 hle2 hR2=>⟨⟨hle2,by intro p hp;cases hp⟩,?_⟩));obtain ⟨rfl,B,m,cc,rfl,hS⟩:=hR2;refine Ch.qk ⟨hle2,by intro p hp;cases hp⟩ (YE ?_);refine Ch.done ?_;refine zW ?_;exact Yb3 rfl rfl (fun fz3 hle3 _=>⟨rfl,B,m,cc,rfl,hS.mono hle3⟩)
def Yd5 (K:Kn) (most:Nat) (out:List (List Bs)) (p:Param):List (List Bs):=(out.flatMap fun l=>(ofK K p.typ).map fun o=>l++ [o]).take (most+1)
def Yc6 (K:Kn) (ps:List Param) (most:Nat):List (List Bs):=ps.foldl (Yd5 K most) [[]]
theorem YjH {l:List α} {x:α} {m:Nat}:(l++ [x]).take (m+1)=if (l.take (m+1)).length<=m then l.take (m+1)++ [x] else l.take (m+1):=by
 split
 ·rename_i h;rw [List.length_take] at h;have:l.length<=m:=by omega
  rw [Zl (by simp;omega),Zl Zi]
 rename_i h;rw [List.length_take] at h;rw [List.take_append_of_le_length Zi]
theorem Ykg (K:Kn) (most:Nat) (out:List (List Bs)) (p:Param):(Yd5 K most out p).length<=most+1:=by
 unfold Yd5;rw [List.length_take];omega
theorem Yeq (K:Kn) (most:Nat):∀ (ps:List Param) (out:List (List Bs)),out.length<=most+1->(ps.foldl (Yd5 K most) out).length<=most+1
 | [],_,h=>h
 | p::ps,out,_=>Yeq K most ps _ (Ykg K most out p)
theorem YkO (K:Kn) (most:Nat):∀ (ps:List Param) (out:List (List Bs)) (k:Nat),(∀ l∈out,l.length=k)->∀ l∈ps.foldl (Yd5 K most) out,l.length=k+ps.length
 | [],_,_,h=>h
 | p::ps,out,k,h=>by
  intro l hl;have:=YkO K most ps (Yd5 K most out p) (k+1) (fun l hl=>by
   have h1:=List.mem_of_mem_take hl;obtain ⟨l',h2,h3⟩:=List.mem_flatMap.1 h1;obtain ⟨o,_,rfl⟩:=List.mem_map.1 h3;rw [List.length_append,h l' h2];rfl) l hl
  rw [this,List.length_cons];omega
theorem Ye4 {ps:List Param} {most:Nat} {l:List Bs} (h:l∈Yc6 K ps most):l.length=ps.length:=by
 have:=YkO K most ps [[]] 0 (by simp) l h;omega
theorem sl_one {α:Type} {L:Lay α}:OneC (slL L):=by
 intro fz d cs h u hu;obtain ⟨A,n,c,rfl,_⟩:=h;simp at hu;subst hu;rfl
theorem comb_f {ps:List Param} {most:Nat} (hK:KnR fz v K) (hps:Sl paramL fz A n c ps) (hn:n<=2000000) (hm:most<=2000000):
 GFn prog 98 [v,Zc A n c,Zk most] fz [] (fun r fz' H'=>H'=[]/\∃ B m d,r=Zc B m d/\Sl (slL strL) fz' B m d (Yc6 K ps most)):=by
 have lp:=hps.len;have hK0:=hK;have hmany:=hK.many;obtain ⟨⟨g,a0,a1,a2,a3,a4,a5,a6,a7,a8,a9,a10,a11,a12,a13,a14,a15,a16,a17,vf,Ao,no,co,gc,gi,mc,mi,rfl,hg,hF,hO,h5,h6,h7,h8⟩,hw,_⟩:=hK;refine zF Tryz.func98 Tryz.ntmps98 (fun w0=>?_);refine zW ?_;refine Ya (Yb (cs:=[Zn]) (fun gb=>?_));refine Seq.freezeAll (H1:=[]) (H2:=[_]) (Zr _) (fun fz1 hle1 hf1=>?_);have hgb:Grow (slL strL) 31 fz (Zv gb 1 1) 1 [(gb,Zu #[Zn] 31)] [[]]:=
  Grow.block (ys:=[(([]:List Bs),[Value.slice none 0 0])]) rfl rfl (by intro p hp;simp at hp;subst hp;exact ⟨none,0,0,rfl,Sl.nil⟩) rfl
 obtain ⟨B1,d1,e1,hS1⟩:=hgb.sl hle1 hf1 Zh;injection e1 with e11 e12 e13
 subst e11;subst e13;refine zW ?_;refine Yi (fun q σ fz' H'=>∃ (k:Nat) (B:Option Addr) (m d:Nat),k<=n/\q=n - k/\σ=[(18,Zk k),(17,Zk n),(16,Zc A n c),(7,Zc B m d),(2,Zk most),(0,Zp g)]/\Le fz fz'/\H'=[]/\Sl (slL strL) fz' B m d (Yc6 K (ps.take k) most)) ⟨0,_,_,_,Z0 _,rfl,rfl,hle1,rfl,hS1⟩ Zw Zb ?_;rintro q σ fz2 H' ⟨k,B,m,d,hk,rfl,rfl,hle2,rfl,hS⟩;have lm:=hS.len;have hml:=Yeq K most (ps.take k) [[]] (by simp);have hml2:m<=most+1:=by rw [<- lm];exact hml
 refine wC ?_ ?_<;>intro c1
 ·obtain ⟨x,hx⟩:=Yc (l:=ps) (k:=k) Zi;refine wI (hps.mono hle2) hx (fun p1 hp1=>?_);refine zL hp1 ?_;intro cs hcs;obtain ⟨rfl,hRx⟩:=Yz hcs;refine zW ?_;intros;rename_i g9;refine Yi (fun q σ fz' H'=>∃ (j mm:Nat) (vn:Value) (Hn:HP),j<=m/\q=m - j/\σ=[(24,Zk j),(23,Zk m),(22,Zc B m d),(18,Zk k),(17,Zk n),(16,Zc A n c),(10,vn),(9,Zp g9),(2,Zk most),(0,Zp g)]/\Le fz2 fz'/\H'=(g9,Zu #[Zy x.name,Zy x.typ] 132)::Hn/\Grow (slL strL) 31 fz' vn mm Hn (Yd5 K most ((Yc6 K (ps.take k) most).take j) x)) ⟨0,0,_,[],Z0 _,rfl,rfl,Zd,rfl,Grow.nil _ _ _⟩ Zw Zb ?_;rintro q σ fz3 H' ⟨j,mm,vn,Hn,hj,rfl,rfl,hle3,rfl,hG⟩;obtain ⟨An,cn,rfl,_,_⟩:=hG.form;refine wC ?_ ?_<;>intro c2
  ·obtain ⟨y,hy⟩:=Yc (l:=Yc6 K (ps.take k) most) (k:=j) Zi;have hyl:=Ye4 (Zm hy);refine wI (hS.mono hle3) hy (fun p2 hp2=>?_)
   ((refine zG ?_);refine XQ hp2 (fun Ay ny cy hy2=>?_));have ly:=hy2.len;have hny:ny<=2000000:=by rw [<- ly,hyl,List.length_take];omega
   refine zW ?_;refine Ya (Yh [] (_::Hn) Zz (kof_f (t:=x.typ) (hK0.mono (hle2.trans hle3))) (fun v4 fz4 H4 hle4 hR4=>?_));obtain ⟨rfl,Bo,mo,do_,rfl,hSo⟩:=hR4;have lo:=hSo.len;have hmo:mo<=2000000:=by rw [<- lo];exact Nat.le_trans (YoY K x.typ) hmany
   refine zW ?_;refine Yi (fun q σ fz' H'=>∃ (i mm:Nat) (vn:Value) (Hn:HP),i<=mo/\q=mo - i/\σ=[(33,Zk i),(32,Zk mo),(31,Zc Bo mo do_),(24,Zk j),(23,Zk m),(22,Zc B m d),(18,Zk k),(17,Zk n),(16,Zc A n c),(12,Zc Ay ny cy),(10,vn),(9,Zp g9),(2,Zk most),(0,Zp g)]/\Le fz4 fz'/\H'=(g9,Zu #[Zy x.name,Zy x.typ] 132)::Hn/\Grow (slL strL) 31 fz' vn mm Hn (((((Yc6 K (ps.take k) most).take j).flatMap fun l=>(ofK K x.typ).map fun o=>l++ [o])++((ofK K x.typ).take i).map fun o=>y++ [o]).take (most+1)))
    ⟨0,mm,_,Hn,Z0 _,rfl,rfl,Zd,rfl,(hG.mono hle4).of (by simp [Yd5]) rfl⟩ Zw Zb ?_
   rintro q σ fz5 H' ⟨i,mm5,vn5,Hn5,hi,rfl,rfl,hle5,rfl,hG5⟩;obtain ⟨A5,c5,rfl,_,_⟩:=hG5.form;have l5:=hG5.len;refine wC ?_ ?_<;>intro c3
   ·obtain ⟨o,ho⟩:=Yc (l:=ofK K x.typ) (k:=i) Zi;have e6:((ofK K x.typ).take (i+1)).map (fun o=>y++ [o])=((ofK K x.typ).take i).map (fun o=>y++ [o])++ [y++ [o]]:=by rw [List.take_add_one,ho];simp
    refine wI (hSo.mono hle5) ho (fun p3 hp3=>?_);refine zH hp3 (fun hso=>?_);refine wC ?_ ?_<;>intro c4
    ·refine zW ?_;refine Ya (Yh [] (_::Hn5) Zz (YbN (hy2.mono (hle4.trans hle5)) Zi) (fun v6 fz6 H6 hle6 hR6=>?_));obtain ⟨A6,c6,rfl,_,_⟩:=hR6.form;refine zW ?_;refine Ya (Yb (cs:=[Zy o]) (fun gc7=>?_));refine Ya (YD (Hr:=(gc7,_)::(g9,_)::Hn5) (d:=o) (by exact (List.Perm.cons _ (List.perm_append_comm.trans (Zr _)))) hR6 WP (.head _) ⟨rfl,hso⟩ (fun v8 H8 hO8=>?_));obtain ⟨A8,c8,rfl,_,_⟩:=hO8.form;refine Seq.freezeAll (H1:=(gc7,_)::(g9,_)::Hn5) (H2:=H8) (Zr _) (fun fz8 hle8 hf8=>?_);obtain ⟨B8,d8,e8,hS8⟩:=hO8.sl hle8 hf8 Zi;injection e8 with e81 e82 e83
     subst e81;subst e83;refine Ya (Yb (cs:=[Zc A8 (ny+1) c8]) (fun gc9=>?_));refine Ya (YD (Hr:=(gc9,_)::(gc7,_)::(g9,_):: []) (d:=y++ [o]) (Zr _) (hG5.mono (hle6.trans hle8)) sl_one (.head _) ⟨_,_,_,rfl,hS8⟩ (fun v10 H10 hO10=>?_));obtain ⟨A10,c10,rfl,_,_⟩:=hO10.form;exact wP (h:=by exact ⟨i+1,mm5+1,_,H10,by omega,rfl,rfl,hle5.trans (hle6.trans hle8),rfl,hO10.of (by rw [e6,<- List.append_assoc,YjH,if_pos Zi]) rfl⟩)
    exact wP (h:=by exact ⟨i+1,mm5,_,Hn5,by omega,rfl,rfl,hle5,rfl,hG5.of (by rw [e6,<- List.append_assoc,YjH,if_neg Zi]) rfl⟩)
   have hi2:i=mo:=by omega
   subst hi2;rw [Zl (show (ofK K x.typ).length<=i by omega)] at hG5;refine zW ?_;exact Wr ⟨j+1,mm5,_,Hn5,by omega,rfl,rfl,hle3.trans (hle4.trans hle5),rfl,hG5.of (by
    have e7:(Yc6 K (ps.take k) most).take (j+1)=(Yc6 K (ps.take k) most).take j++ [y]:=by rw [List.take_add_one,hy];rfl
    unfold Yd5;rw [e7,List.flatMap_append];simp) rfl⟩ Zi Zw Zb
  have hj2:j=m:=by omega
  subst hj2;rw [Zl (show (Yc6 K (ps.take k) most).length<=j by omega)] at hG;have l6:=hG.len;have h6l:=Ykg K most (Yc6 K (ps.take k) most) x
  first
  | refine Wp.freezeAll (H1:=[]) (H2:=_::Hn) (Zr _) (fun fz9 hle9 hf9=>?_)
  | refine Seq.freezeAll (H1:=[]) (H2:=_::Hn) (Zr _) (fun fz9 hle9 hf9=>?_)
  obtain ⟨B9,d9,e9,hS9⟩:=hG.sl hle9 (fun p hp=>hf9 p (by simp [hp])) Zi;injection e9 with e91 e92 e93
  subst e91;subst e93;exact wP (h:=by exact ⟨k+1,_,_,_,by omega,rfl,rfl,hle2.trans (hle3.trans hle9),rfl,by rw [Yc6,List.take_add_one,hx,List.foldl_append];exact hS9⟩)
 have hk2:k=n:=by omega
 subst hk2;rw [Zl (show ps.length<=k by omega)] at hS;refine zW ?_;exact Yb3 rfl rfl (fun fz3 hle3 _=>⟨rfl,B,m,d,rfl,hS.mono hle3⟩)
inductive ShN:Formula->Prop
 | mk {f:Formula} (h1:f.op=kSame->2<=f.args.length) (h2:f.op=kNot\/f.op=kForall\/f.op=kExists->f.kids≠ []) (h3:∀ k∈f.kids,ShN k):ShN f
theorem ShN.head (h:ShN f):f.op=kNot\/f.op=kForall\/f.op=kExists->f.kids≠ []:=by cases h with | mk _ h2 _=>exact h2
theorem ShN.kid {k:Formula} (h:ShN f) (hk:k∈f.kids):ShN k:=by cases h with | mk _ _ h3=>exact h3 k hk
def powT (n:Nat):Nat->Nat->Nat
 | 0,out=>out
 | k+1,out=>if 64<out*n\/out*n=0 then min (out*n) 65 else powT n k (out*n)
def Yd7 (K:Kn) (ps:List Param):Nat:=ps.foldl (fun m p=>min (m*(ofK K p.typ).length) 1048576) 1
def quantT (K:Kn) (op:Bs) (ps:List Param) (n:Nat):Nat:=
 if 64<n then 65 else if op=kExists then min (n*Yd7 K ps) 65 else if Yd7 K ps=0\/n=1 then 1 else powT n (Yd7 K ps) 1
mutual
def termsM (K:Kn):Formula->Nat
 | .mk op _ _ params _ kids=>
  if op=kAnd then andT K 1 kids
  else if op=kOr then orT K 0 kids
  else if op=kForall\/op=kExists then quantT K op params (headT K kids)
  else 1
def headT (K:Kn):List Formula->Nat
 | []=>0
 | g::_=>termsM K g
def andT (K:Kn):Nat->List Formula->Nat
 | n,[]=>n
 | n,g::r=>if 64<n*termsM K g\/64<termsM K g then 65 else andT K (n*termsM K g) r
def orT (K:Kn):Nat->List Formula->Nat
 | n,[]=>n
 | n,g::r=>if 64<n+termsM K g then 65 else orT K (n+termsM K g) r
end
theorem YcM (f:Formula):termsM K f=if f.op=kAnd then andT K 1 f.kids else if f.op=kOr then orT K 0 f.kids else if f.op=kForall\/f.op=kExists then quantT K f.op f.params (headT K f.kids) else 1:=by
 cases f;rw [termsM];rfl
theorem YoW (n:Nat):∀ (k out:Nat),out<=64->powT n k out<=65
 | 0,out,h=>by unfold powT;omega
 | k+1,out,h=>by
  unfold powT;split
  ·omega
  exact YoW n k _ Zi
theorem YoN {op:Bs} {ps:List Param}:quantT K op ps n<=65:=by
 unfold quantT;split
 ·omega
 split
 ·omega
 split
 ·omega
 exact YoW _ _ _ Zi
theorem Yqu {K:Kn}:∀ (l:List Formula) (n:Nat),n<=64->andT K n l<=65
 | [],n,h=>by unfold andT;omega
 | g::r,n,h=>by
  unfold andT;split
  ·omega
  exact Yqu r _ Zi
theorem orT_le {K:Kn}:∀ (l:List Formula) (n:Nat),n<=64->orT K n l<=65
 | [],n,h=>by unfold orT;omega
 | g::r,n,h=>by
  unfold orT;split
  ·omega
  exact orT_le r _ Zi
theorem Yf7 (f:Formula):termsM K f<=65:=by
 rw [YcM];split
 ·exact Yqu _ _ Zi
 split
 ·exact orT_le _ _ Zi
 split
 ·exact YoN
 omega
theorem YiO (K:Kn):∀ (ps:List Param) (m:Nat),m<=1048576->ps.foldl (fun m p=>min (m*(ofK K p.typ).length) 1048576) m<=1048576
 | [],_,h=>h
 | p::ps,m,_=>YiO K ps _ (Nat.min_le_right _ _)
theorem YkR {a b:Nat}:min ((a:Int)*(b:Int)) 1048576=((min (a*b) 1048576:Nat):Int):=by
 rw [<- Int.natCast_mul];omega
theorem quant_of {g:Formula} {rest:List Formula} (hK:KnR fz v K) (hR:FormulaR fz f va vp ve vk) (hk:f.kids=g::rest)
 (ih:∀ {fz':FZ} {wa wp we wk:Value},Le fz fz'->FormulaR fz' g wa wp we wk->QFn prog 99 [v,.agg #[Zy g.op,Zy g.name,wa,wp,we,wk]] fz' (Zk (termsM K g))):
 QFn prog 194 [v,.agg #[Zy f.op,Zy f.name,va,vp,ve,vk]] fz (Zk (quantT K f.op f.params (termsM K g))):=by
 obtain ⟨⟨B1,m1,d1,rfl,ia⟩,⟨B2,m2,d2,rfl,ip⟩,⟨B3,m3,d3,rfl,ie⟩,⟨B4,m4,d4,rfl,ik⟩⟩:=hR.sls;have l2:=ip.len;have l4:=ik.len;have s2:=ip.short;have hg0:f.kids[0]?=some g:=by rw [hk];rfl
 have hm4:0<m4:=by rw [<- l4,hk];simp
 have hT:=Yf7 (K:=K) g;have hmany:=hK.many;have hK0:=hK;obtain ⟨⟨gk,a0,a1,a2,a3,a4,a5,a6,a7,a8,a9,a10,a11,a12,a13,a14,a15,a16,a17,vf,Ao,no,co,gc,gi,mc,mi,rfl,hg,hF,hO,h5,h6,h7,h8⟩,hw,_⟩:=hK;refine qF Tryz.func194 Tryz.ntmps194 (fun w0=>?_);refine pX (fun g0=>?_);refine wI ik hg0 (fun p1 hp1=>?_);refine zL hp1 ?_;intro cs hcs;obtain ⟨wa,wp,we,wk,rfl,hRg⟩:=Yn hcs;obtain ⟨⟨E1,r1,q1,rfl,_⟩,⟨E2,r2,q2,rfl,_⟩,⟨E3,r3,q3,rfl,_⟩,⟨E4,r4,q4,rfl,_⟩⟩:=hRg.sls;refine wG ?_;refine Yu (ih Zd hRg) ?_;generalize hn0:termsM K g=n0 at hT ih;refine wC ?_ ?_<;>intro c1
 ·exact wR (h:=by rw [quantT,if_pos Zi];rfl)
 refine zW ?_;refine Yi (fun q σ fz' H'=>∃ k:Nat,k<=m2/\q=m2 - k/\σ=[(21,Zk k),(20,Zk m2),(19,Zc B2 m2 d2),(6,Zk ((Yd7 K (f.params.take k):Nat):Int)),(5,Zk n0),(3,Zp g0),(0,Zp gk)]/\Le fz fz'/\H'=[(g0,Zu #[Zy f.op,Zy f.name,Zc B1 m1 d1,Zc B2 m2 d2,Zc B3 m3 d3,Zc B4 m4 d4] 35)]) ⟨0,Z0 _,rfl,rfl,Zd,rfl⟩ Zw Zb ?_;rintro q σ fz' H' ⟨k,hk2,rfl,rfl,hle,rfl⟩;refine wC ?_ ?_<;>intro c2
 ·obtain ⟨x,hx⟩:=Yc (l:=f.params) (k:=k) Zi;refine wI (ip.mono hle) hx (fun p2 hp2=>?_);refine zL hp2 ?_;intro cs hcs;obtain ⟨rfl,hRx⟩:=Yz hcs;refine zW ?_;intros;refine Ya (Yh [] [_,_] Zz (kof_f (t:=x.typ) (hK0.mono hle)) (fun v4 fz4 H4 hle4 hR4=>?_));obtain ⟨rfl,Bo,mo,do_,rfl,hSo⟩:=hR4;have lo:=hSo.len;have hmo:mo<=2000000:=by rw [<- lo];exact Nat.le_trans (YoY K x.typ) hmany
  have hml:=YiO K (f.params.take k) 1 Zh;have hm1:Yd7 K (f.params.take k)<=1048576:=hml;have hmm:Yd7 K (f.params.take k)*mo<=1048576*2000000:=Nat.mul_le_mul hm1 hmo;have hmz:((Yd7 K (f.params.take k):Nat):Int)*(mo:Int)=((Yd7 K (f.params.take k)*mo:Nat):Int):=(Int.natCast_mul _ _).symm;refine wG ?_;refine YjY Zz Zz (Xb (by rw [hmz];omega)) ?_;refine wG ?_;refine YoQ ?_;rw [show min (((Yd7 K (f.params.take k):Nat):Int)*(mo:Int)) 1048576=((Yd7 K (f.params.take (k+1)):Nat):Int) from by
   rw [YkR,Yd7,Yd7,List.take_add_one,hx,List.foldl_append,<- lo];rfl]
  exact wP (h:=by exact ⟨k+1,by omega,rfl,rfl,hle.trans hle4,rfl⟩)
 have hk3:k=m2:=by omega
 subst hk3;rw [Zl (show f.params.length<=k by omega)];have hml:=YiO K f.params 1 Zh;have hm1:Yd7 K f.params<=1048576:=hml;generalize hmn:Yd7 K f.params=mn at hm1;have hmm:n0*mn<=64*1048576:=Nat.mul_le_mul Zi hm1;have hmz:(n0:Int)*(mn:Int)=((n0*mn:Nat):Int):=(Int.natCast_mul _ _).symm;by_cases w1:f.op=kExists
 ·refine wG ?_;refine YjY Zz Zz (Xb (by rw [hmz];omega)) ?_;refine wG ?_;refine YoQ ?_;refine zW ?_
  (exact ret1 rfl rfl Zb (by
   rw [quantT,if_neg Zi,if_pos w1,hmn,hmz]
   congr 1
   omega))
 refine wC ?_ ?_<;>intro c3
 ·exact wR (h:=by rw [quantT,if_neg Zi,if_neg w1,hmn,if_pos (.inl Zi)];rfl)
 refine wC ?_ ?_<;>intro c4
 ·exact wR (h:=by rw [quantT,if_neg Zi,if_neg w1,hmn,if_pos (.inr Zi)];rfl)
 refine zW ?_;refine Yi (fun q σ fz2 H'=>∃ k out:Nat,k<=mn/\q=mn - k/\σ=[(48,Zk k),(47,Zk mn),(9,Zk out),(5,Zk n0)]/\fz'=fz2/\H'=[]/\out<=64/\powT n0 (mn - k) out=powT n0 mn 1) ⟨0,1,Z0 _,rfl,rfl,rfl,rfl,by omega,rfl⟩ Zw Zb ?_;rintro q σ fz2 H' ⟨j,out,hj,rfl,rfl,rfl,rfl,ho,hpw⟩;have hoz:(out:Int)*(n0:Int)=((out*n0:Nat):Int):=(Int.natCast_mul _ _).symm;have hon:out*n0<=64*65:=Nat.mul_le_mul ho Zi;have hq:quantT K f.op f.params n0=powT n0 mn 1:=by rw [quantT,if_neg Zi,if_neg w1,hmn,if_neg Zi]
 refine wC ?_ ?_<;>intro c5
 ·have e1:mn - j=(mn - (j+1))+1:=by omega
  rw [e1,powT] at hpw;refine wG ?_;refine YjY Zz Zz (Xb (by rw [hoz];omega)) ?_;rw [hoz];refine wC ?_ ?_<;>intro c6
  ·rw [if_pos (.inl Zi)] at hpw;refine wG ?_;refine YoQ ?_;exact wR (h:=by rw [hq,<- hpw];congr 1;omega)
  refine wC ?_ ?_<;>intro c7
  ·rw [if_pos (.inr Zi)] at hpw;refine wG ?_;refine YoQ ?_;exact wR (h:=by rw [hq,<- hpw];congr 1;omega)
  rw [if_neg Zi] at hpw;exact wP (h:=by exact ⟨j+1,out*n0,by omega,rfl,rfl,rfl,rfl,by omega,hpw⟩)
 rw [show mn - j=0 from by omega,powT] at hpw;exact wR (h:=by rw [hq,<- hpw])
theorem andT_at {l:List Formula} {x:Formula} (hx:l[k]?=some x) (h:andT K n (l.drop k)=andT K 1 l):(if 64<n*termsM K x\/64<termsM K x then 65 else andT K (n*termsM K x) (l.drop (k+1)))=andT K 1 l:=by
 obtain ⟨h1,h2⟩:=Zg hx;rw [<- h,List.drop_eq_getElem_cons h1,h2,andT]
theorem orT_at {l:List Formula} {x:Formula} (hx:l[k]?=some x) (h:orT K n (l.drop k)=orT K 0 l):(if 64<n+termsM K x then 65 else orT K (n+termsM K x) (l.drop (k+1)))=orT K 0 l:=by
 obtain ⟨h1,h2⟩:=Zg hx;rw [<- h,List.drop_eq_getElem_cons h1,h2,orT]
theorem Yf6:∀ (s:Nat) {fz:FZ} {v:Value} {K:Kn} {f:Formula} {va vp ve vk:Value},SizeOf.sizeOf f<=s->KnR fz v K->FormulaR fz f va vp ve vk->ShN f->
 QFn prog 99 [v,.agg #[Zy f.op,Zy f.name,va,vp,ve,vk]] fz (Zk (termsM K f))
 | 0,_,_,_,f,_,_,_,_,hse,_,_,_=>by cases f;simp at hse
 | s+1,fz,v,K,f,va,vp,ve,vk,hse,hK,hR,hS=>by
  have hR0:=hR;obtain ⟨⟨B1,m1,d1,rfl,ia⟩,⟨B2,m2,d2,rfl,ip⟩,⟨B3,m3,d3,rfl,ie⟩,⟨B4,m4,d4,rfl,ik⟩⟩:=hR.sls;have l4:=ik.len;have s4:=ik.short;have hK0:=hK;obtain ⟨⟨gk,a0,a1,a2,a3,a4,a5,a6,a7,a8,a9,a10,a11,a12,a13,a14,a15,a16,a17,vf,Ao,no,co,gc,gi,mc,mi,rfl,hg,hF,hO,h5,h6,h7,h8⟩,hw,_⟩:=hK;refine qF Tryz.func99 Tryz.ntmps99 (fun w0=>?_);refine pX (fun g0=>?_);by_cases w1:f.op=kAnd
  ·have e1:termsM K f=andT K 1 f.kids:=by rw [YcM,if_pos w1]
   refine zW ?_;refine Yi (fun q σ fz' H'=>∃ k n:Nat,k<=m4/\q=m4 - k/\σ=[(18,Zk k),(17,Zk m4),(16,Zc B4 m4 d4),(5,Zk n),(0,Zp gk)]/\fz=fz'/\H'=[]/\n<=64/\andT K n (f.kids.drop k)=andT K 1 f.kids) ⟨0,1,Z0 _,rfl,rfl,rfl,rfl,by omega,rfl⟩ Zw Zb ?_;rintro q σ fz' H' ⟨k,n,hk,rfl,rfl,rfl,rfl,hn,ha⟩;refine wC ?_ ?_<;>intro c1
   ·obtain ⟨x,hx⟩:=Yc (l:=f.kids) (k:=k) Zi;have hxm:=Zm hx;have hlt:=Formula.kids_lt hxm;have ha2:=andT_at hx ha;have hT:=Yf7 (K:=K) x;have hz:(n:Int)*((termsM K x:Nat):Int)=((n*termsM K x:Nat):Int):=(Int.natCast_mul _ _).symm;have hb:n*termsM K x<=64*65:=Nat.mul_le_mul hn hT;refine wI ik hx (fun p1 hp1=>?_);refine zL hp1 ?_;intro cs hcs;obtain ⟨wa,wp,we,wk,rfl,hRg⟩:=Yn hcs;obtain ⟨⟨E1,r1,q1,rfl,_⟩,⟨E2,r2,q2,rfl,_⟩,⟨E3,r3,q3,rfl,_⟩,⟨E4,r4,q4,rfl,_⟩⟩:=hRg.sls;refine zW ?_;intros
    ((refine zG ?_);refine Yu (Yf6 s Zi hK0 hRg (hS.kid hxm)) ?_);refine wG ?_;refine YjY Zz Zz (Xb (by rw [hz];omega)) ?_;rw [hz];refine wC ?_ ?_<;>intro c2
    ·rw [if_pos (.inl Zi)] at ha2;exact wR (h:=by rw [e1,<- ha2];rfl)
    refine wG ?_;refine Yu (Yf6 s Zi hK0 hRg (hS.kid hxm)) ?_;refine wC ?_ ?_<;>intro c3
    ·rw [if_pos (.inr Zi)] at ha2;exact wR (h:=by rw [e1,<- ha2];rfl)
    rw [if_neg Zi] at ha2;exact wP (h:=by exact ⟨k+1,n*termsM K x,by omega,rfl,rfl,rfl,rfl,by omega,ha2⟩)
   rw [List.drop_eq_nil_of_le Zi,andT] at ha;exact wR (h:=by rw [e1,<- ha])
  by_cases w2:f.op=kOr
  ·have e1:termsM K f=orT K 0 f.kids:=by rw [YcM,if_neg w1,if_pos w2]
   refine zW ?_;refine Yi (fun q σ fz' H'=>∃ k n:Nat,k<=m4/\q=m4 - k/\σ=[(42,Zk k),(41,Zk m4),(40,Zc B4 m4 d4),(8,Zk n),(0,Zp gk)]/\fz=fz'/\H'=[]/\n<=64/\orT K n (f.kids.drop k)=orT K 0 f.kids) ⟨0,0,Z0 _,rfl,rfl,rfl,rfl,by omega,rfl⟩ Zw Zb ?_;rintro q σ fz' H' ⟨k,n,hk,rfl,rfl,rfl,rfl,hn,ha⟩;refine wC ?_ ?_<;>intro c1
   ·obtain ⟨x,hx⟩:=Yc (l:=f.kids) (k:=k) Zi;have hxm:=Zm hx;have hlt:=Formula.kids_lt hxm;have ha2:=orT_at hx ha;have hT:=Yf7 (K:=K) x;refine wI ik hx (fun p1 hp1=>?_);refine zL hp1 ?_;intro cs hcs;obtain ⟨wa,wp,we,wk,rfl,hRg⟩:=Yn hcs;obtain ⟨⟨E1,r1,q1,rfl,_⟩,⟨E2,r2,q2,rfl,_⟩,⟨E3,r3,q3,rfl,_⟩,⟨E4,r4,q4,rfl,_⟩⟩:=hRg.sls;refine zW ?_;intros
    ((refine zG ?_);refine Yu (Yf6 s Zi hK0 hRg (hS.kid hxm)) ?_);refine wC ?_ ?_<;>intro c2
    ·rw [if_pos Zi] at ha2;exact wR (h:=by rw [e1,<- ha2];rfl)
    rw [if_neg Zi] at ha2;exact wP (h:=by exact ⟨k+1,n+termsM K x,by omega,rfl,rfl,rfl,rfl,by omega,ha2⟩)
   rw [List.drop_eq_nil_of_le Zi,orT] at ha;exact wR (h:=by rw [e1,<- ha])
  by_cases hq:f.op=kForall\/f.op=kExists
  ·have e1:termsM K f=quantT K f.op f.params (headT K f.kids):=by rw [YcM,if_neg w1,if_neg w2,if_pos hq]
   obtain ⟨x,rest,hkd⟩:∃ x rest,f.kids=x::rest:=by
    cases hf:f.kids with
    | nil=>exact absurd hf (hS.head (.inr hq))
    | cons x rest=>exact ⟨x,rest,rfl⟩
   have hxm:x∈f.kids:=by rw [hkd];simp
   have hlt:=Formula.kids_lt hxm;have hh:headT K f.kids=termsM K x:=by rw [hkd,headT]
   have hqq:=quant_of hK0 hR0 hkd (fun hle hRg=>Yf6 s Zi (hK0.mono hle) hRg (hS.kid hxm));rcases hq with w3 | w3
   ·refine wc hqq ?_;exact wR (h:=by rw [e1,hh])
   have w4:¬f.op=kForall:=by rw [w3];decide
   refine wc hqq ?_;exact wR (h:=by rw [e1,hh])
  have w3:¬f.op=kForall:=fun h=>hq (.inl h)
  have w4:¬f.op=kExists:=fun h=>hq (.inr h)
  exact wR (h:=by rw [YcM,if_neg w1,if_neg w2,if_neg hq];rfl)
theorem You (hK:KnR fz v K) (hR:FormulaR fz f va vp ve vk) (hS:ShN f):
 QFn prog 99 [v,.agg #[Zy f.op,Zy f.name,va,vp,ve,vk]] fz (Zk (termsM K f)):=Yf6 _ (Zs _) hK hR hS
end Go.Proofs.YtacfpcbladaohaaGreatDoor
namespace Go.Lx
open Go.RowKit
variable {α:Type} {Hs:HP} {fz fz':FZ} {n g:Nat} {v:Value} {L:Lay α}
theorem Yej {α:Type} {z:Nat} {d:α × List Value} (hd:d.2.length=z):∀ {xs:List (α × List Value)} {i:Nat},(∀ p∈xs,p.2.length=z)->i<xs.length->
 (xs.flatMap Prod.snd).take (i*z)++d.2++(xs.flatMap Prod.snd).drop (i*z+z)=(xs.set i d).flatMap Prod.snd
 | [],i,_,hi=>by simp at hi
 | x::r,0,h,_=>by
  have hx:=h x (by simp);simp only [List.flatMap_cons,Nat.zero_mul,List.take_zero,List.nil_append,Nat.zero_add,List.set_cons_zero];rw [<- hx,List.drop_left]
 | x::r,i+1,h,hi=>by
  have hx:=h x (by simp);have ih:=Yej hd (xs:=r) (i:=i) (fun p hp=>h p (by simp [hp])) (by simpa using hi);simp only [List.flatMap_cons,List.set_cons_succ];rw [<- ih,Nat.succ_mul];have e1:i*z+z=x.2.length+i*z:=by omega
  have e2:i*z+z+z=x.2.length+(i*z+z):=by omega
  rw [e2,List.drop_append,e1,List.take_append];simp only [Zl (show x.2.length<=x.2.length+i*z by omega),Nat.add_sub_cancel_left,List.append_assoc];have e3:List.drop (x.2.length+(x.2.length+i*z)) x.2=[]:=List.drop_eq_nil_of_le Zi;simp [e3]
structure GrowB {α:Type} (L:Lay α) (e:Nat) (fz:FZ) (g n cap:Nat) (cur:List Value) (l:List α):Prop where
 pairs:∃ xs:List (α × List Value),xs.map Prod.fst=l/\(∀ p∈xs,L.rep fz p.1 p.2)/\cur.take (n*L.size)=xs.flatMap Prod.snd
 len:l.length=n
 capn:n<=cap
 max:cap<=maxLen
 size:cur.length=cap*L.size
theorem Grow.b {e:Nat} {l:List α} (hg:Grow L e fz v n Hs l) (hn:0<n):∃ g cap cur,v=Zv g n cap/\Hs=[(g,.cells (List.toArray cur) e (0,0))]/\GrowB L e fz g n cap cur l:=by
 obtain ⟨xs,h1,h2,h3,h4⟩:=hg;rcases h4.2 with ⟨_,h0,_⟩ | ⟨g,cap,cur,h5,h6,h7,h8,h9,h10⟩
 ·omega
 exact ⟨g,cap,cur.toList,h5,by rw [h6],⟨xs,h1,h2,h10⟩,h3,h7,h8,by simpa using h9⟩
theorem GrowB.grow {e:Nat} {cap:Nat} {cur:List Value} {l:List α} (h:GrowB L e fz g n cap cur l):Grow L e fz (Zv g n cap) n [(g,.cells (List.toArray cur) e (0,0))] l:=by
 obtain ⟨xs,h1,h2,h3⟩:=h.pairs;have hl:xs.length=n:=by have:=h.len;rw [<- h1,List.length_map] at this;exact this
 exact ⟨xs,h1,h2,h.len,by rw [Yau (fun p hp=>L.len (h2 p hp)),hl],.inr ⟨g,cap,cur.toArray,rfl,rfl,h.capn,h.max,by simpa using h.size,by simpa using h3⟩⟩
theorem GrowB.mono {e:Nat} (hle:Le fz fz') {cap:Nat} {cur:List Value} {l:List α} (h:GrowB L e fz g n cap cur l):GrowB L e fz' g n cap cur l:=by
 obtain ⟨xs,h1,h2,h3⟩:=h.pairs;exact ⟨⟨xs,h1,fun p hp=>L.mono hle (h2 p hp),h3⟩,h.len,h.capn,h.max,h.size⟩
section
variable {P:Program} {cx:Cx} {r:Operand->Option Value} {fz:FZ} {H:HP} {V:Value->Prop} {dst:Option Nat} {ty:TypeId} {pos:String} {af:Array Edge} {gd:Option (Nat × Bool)}
theorem Yv {t e:TypeId} {x i:Operand} {X Y:Ty} {g n c z:Nat} {k:IntKind} {j:Int}
 (hs:Y.size=z) (h:V (.pointer (some ⟨g,j.toNat*z,none⟩))) (T:Tab P:=by exact T) (hT:T.inf t=some X:=by exact rfl) (hd:X.desc=.slice e:=by exact rfl) (hY:T.inf e=some Y:=by exact rfl) (hx:r x=some (Zv g n c):=by exact rfl) (hi:r i=some (.int k j):=by exact rfl) (h0:0<=j:=by omega) (hn:j<n:=by omega):DoesQ P cx ⟨dst,.indexAddr t x i,ty,pos,af,gd⟩ r fz H V:=by
  refine Ycs T hT hd hY hx hi h0 hn ?_;have hadd:(⟨g,0,none⟩:Addr).add (j.toNat*Y.size)=⟨g,j.toNat*z,none⟩:=by rw [hs];unfold Addr.add;split<;>simp_all
  rw [hadd];exact h
theorem Xr {t t':TypeId} {x y:Operand} {X:Ty} {pre post:HP} {g j n cap:Nat} {v:Value} {cs cur:List Value} {α:Type} {L:Lay α} {l:List α} {d:α} {K:Value->FZ->HP->Prop}
 (hH:H=pre++(g,.cells cur.toArray t' (0,0))::post) (hv:v.cells=cs.toArray) (h1:OneC L) (hr:L.rep fz d cs) (hb:GrowB L t' fz g n cap cur l)
  (h:∀ cur',GrowB L t' fz g n cap cur' (l.set j d)->K undef fz (pre++(g,.cells cur'.toArray t' (0,0))::post)) (T:Tab P:=by exact T) (hT:T.inf t=some X:=by exact rfl) (hx:r x=some (.pointer (some ⟨g,j*L.size,none⟩)):=by exact rfl) (hy:r y=some v:=by exact rfl) (hs:X.size=L.size:=by exact rfl) (hj:j<n:=by omega):Does P cx ⟨dst,.store t x y,ty,pos,af,gd⟩ r fz H K:=by
  refine Does.of fun ρ w hrd hw=>?_
  subst hH;have hcs:=L.len hr;have hgb:=(hw.hp.own (g,.cells cur.toArray t' (0,0)) (by simp)).1;obtain ⟨xs,e1,e2,e3⟩:=hb.pairs;have hxl:xs.length=n:=by have:=hb.len;rw [<- e1,List.length_map] at this;exact this
  have hsz:=hb.size;have hcap:=hb.capn;have hjn:j*L.size+L.size<=n*L.size:=by rw [<- Nat.succ_mul];exact Nat.mul_le_mul_right _ hj
  have hnc:n*L.size<=cap*L.size:=Nat.mul_le_mul_right _ hcap;have hle:j*L.size+0+cs.length<=cur.toArray.size:=by simp;omega
  have hst:=run_storeCells_at (P:=P) g (j*L.size) t' cs 0 cur.toArray w hgb hle (fun u hu=>h1 _ _ _ hr u hu);simp only [Nat.add_zero] at hst;have hz:=run_sizeOf T hT w;rw [hs,<- hcs] at hz;have hvl:v.cells.toList=cs:=by rw [hv]
  have:(execOp ρ ⟨dst,.store t x y,ty,pos,af,gd⟩).run P w=.ok .skip (w.setRow g (cur.take (j*L.size)++cs++cur.drop (j*L.size+cs.length)).toArray):=by
   simp only [execOp,hrd _ _ hx,hrd _ _ hy,Instr.storeAt,Instr.sureAddr,Sem.run_bind,Sem.run_pure,Result.andThen_ok,storeVar,hz,hvl];simp [hst,hv]
  rw [this];have hflat:(xs.flatMap Prod.snd).length=n*L.size:=by rw [Yau (fun p hp=>L.len (e2 p hp)),hxl]
  have hcur:cur=xs.flatMap Prod.snd++cur.drop (n*L.size):=by rw [<- e3,List.take_append_drop]
  have hnew:(cur.take (j*L.size)++cs++cur.drop (j*L.size+cs.length)).take (n*L.size)=(xs.set j (d,cs)).flatMap Prod.snd:=by
   rw [<- Yej (z:=L.size) (d:=(d,cs)) hcs (fun p hp=>L.len (e2 p hp)) Zi,hcs];generalize hf:xs.flatMap Prod.snd=fl at*;generalize hT':cur.drop (n*L.size)=tl at*;subst hcur;have a1:(fl++tl).take (j*L.size)=fl.take (j*L.size):=List.take_append_of_le_length Zi;have a2:(fl++tl).drop (j*L.size+L.size)=fl.drop (j*L.size+L.size)++tl:=List.drop_append_of_le_length Zi;rw [a1,a2,<- List.append_assoc,List.take_append_of_le_length (by simp only [List.length_append,List.length_take,List.length_drop];omega),Zl (by simp only [List.length_append,List.length_take,List.length_drop];omega)]
  refine ⟨fz,_,hw.write (o':=.cells (cur.take (j*L.size)++cs++cur.drop (j*L.size+cs.length)).toArray t' (0,0)) rfl rfl rfl (by simp) ?_ (fun k hk=>?_),h _ ⟨⟨xs.set j (d,cs),?_,fun p hp=>?_,hnew⟩,by rw [List.length_set];exact hb.len,hcap,hb.max,?_⟩⟩
  ·simp [World.setRow,Array.getElem?_modify,hgb]
  ·simp only [World.setRow,Array.getElem?_modify];rw [if_neg Zi]
  ·rw [<- e1,List.map_set]
  ·rcases List.mem_or_eq_of_mem_set hp with hp | rfl
   ·exact e2 p hp
   exact hr
  simp only [List.length_append,List.length_take,List.length_drop];omega
end
end Go.Lx
