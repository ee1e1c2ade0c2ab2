/- The texts NG, NH, NQ, ShelfP, NL, NJ, NM, NP, NR, NT, UO, NU, laid together. Conditions: none. -/
import Derived.Test.YtiligkgjcmokbaaGreatDoorKSP
import Derived.Shelf.Small.Strs
set_option linter.all false
set_option maxHeartbeats 16000000
set_option maxRecDepth 20000
open Go.Lx Go.RowKit
attribute [local instance 10] Classical.propDecidable
open Go.Proofs.Tryz (prog)
namespace Go.Lx
variable {H:HP} {fz:FZ} {n:Nat} {o:Oper}
theorem CI.sub {P:Program} {cx:Cx} {H':HP} {K:Env->FZ->HP->Prop} {r:List Oper} {σ:Env} (hs:H'.Sublist H) (h:CI P cx n K (o::r) σ fz H'):CI P cx n K (o::r) σ fz H:=by
 obtain ⟨dst,op,ty,pos,af,gd⟩:=o;obtain ⟨h1,h2,h3⟩:=h;cases dst with
 | some d=>exact ⟨h1,h2,h3.1,fun ρ w hr hi=>h3.2 ρ w hr (hi.forget hs)⟩
 | none=>exact ⟨h1,h2,fun ρ w hr hi=>h3 ρ w hr (hi.forget hs)⟩
theorem CI.perm {P:Program} {cx:Cx} {H':HP} {K:Env->FZ->HP->Prop} {r:List Oper} {σ:Env} (hs:H'.Perm H) (h:CI P cx n K (o::r) σ fz H'):CI P cx n K (o::r) σ fz H:=by
 obtain ⟨dst,op,ty,pos,af,gd⟩:=o;obtain ⟨h1,h2,h3⟩:=h;cases dst with
 | some d=>exact ⟨h1,h2,h3.1,fun ρ w hr hi=>h3.2 ρ w hr (hi.perm hs)⟩
 | none=>exact ⟨h1,h2,fun ρ w hr hi=>h3 ρ w hr (hi.perm hs)⟩
theorem CI.nil {P:Program} {cx:Cx} {K:Env->FZ->HP->Prop} {σ:Env} (h:K σ fz H):CI P cx n K [] σ fz H:=h
end Go.Lx
namespace Go.Proofs.YtiligkgjcmokbaaGreatDoor
variable {A:Option Addr} {fz:FZ} {n:Nat}
theorem values_f {gcap c L:Nat} {l:List Param} {o:Obj} {B0:Nat->HP->Prop} {H0:HP} (hg:fz gcap=some (Zu #[Zc A n c] 22)) (hS:Sl paramL fz A n c l) (h0:B0 0 H0)
 (hR:∀ (cx:Cx) (k:Nat) (x:Param) (H1:HP) (K:Value->FZ->HP->Prop) (r:Operand->Option Value) (ff xo:Operand) (ats:Array TypeId) (dst:Option Nat) (ty:TypeId) (pos:String) (af:Array Edge) (gd:Option (Nat × Bool)),l[k]?=some x->paramL.rep fz x [.string x.name,.string x.typ]->k<n->B0 k H1->r ff=some (.func (.yield L) #[] #[])->r xo=some (.agg #[.string x.name,.string x.typ])->(∀ H2,B0 (k+1) H2->K (.bool true) fz ((L,o)::H2))->Yos prog cx ⟨dst,.call {callee:=.value ff,args:=#[xo],argTypes:=ats},ty,pos,af,gd⟩ r fz ((L,o)::H1) K):
 GFn prog 124 [.func (.yield L) #[] #[],Zp gcap] fz ((L,o)::H0) (fun _ fz' H'=>fz=fz'/\∃ H2,H'=(L,o)::H2/\B0 n H2):=by
 have hl:=hS.len;have hsh:=hS.short;refine zF Tryz.func124 Tryz.ntmps124 (fun w0=>?_);refine zW ?_;intros;refine Yi (fun q σ fz' H'=>∃ (k:Nat) (H1:HP),k<=n/\q=n - k/\σ=[(7,Zk k),(6,Zk n),(5,Zc A n c),(0,.func (.yield L) #[] #[])]/\fz=fz'/\H'=(L,o)::H1/\B0 k H1) ⟨0,H0,Z0 _,rfl,rfl,rfl,rfl,h0⟩ Zw Zb ?_;rintro q σ fz' H' ⟨k,H1,hk,rfl,rfl,rfl,rfl,hB⟩;refine zW ?_;intros;refine zC ?_ ?_<;>intro c1
 ·obtain ⟨x,hx⟩:=Ye (l:=l) (k:=k) Zi;refine zW ?_;intros;refine zI hS hx (fun p1 hp1=>?_);refine zL hp1 ?_;intro cs hcs;obtain ⟨rfl,hRx⟩:=YJ hcs;refine zWX ?_;intros;refine Yr (Wp.ofCI ?_);refine CI.q (XC ?_);refine CI.q (Yy 0 ?_);refine CI.sub (List.sublist_cons_self _ _) (CI.i (hR _ k x H1 _ _ _ _ _ _ _ _ _ _ hx hcs Zi hB rfl rfl (fun H2 hB2=>?_)));refine CI.q (q_not Zz ?_);refine CI.nil ?_;refine zW ?_;intros;exact wP (h:=by exact ⟨k+1,H2,by omega,rfl,rfl,rfl,rfl,hB2⟩)
 obtain rfl:k=n:=by omega
 refine zW ?_;intros;exact Ycc rfl Zb ⟨rfl,H1,rfl,hB⟩
theorem Ymt {gcap c:Nat} {l:List Param} (hg:fz gcap=some (Zu #[Zc A n c] 22)) (hS:Sl paramL fz A n c l) (hn:n<=1000000000):
 GFn prog 187 [Zn,.func (.func 124) #[] #[Zp gcap]] fz [] (fun r fz' H'=>fz=fz'/\Grow paramL 123 fz r n H' l):=by
 refine YjT Tryz.func187 rfl Tryz.ntmps187 rfl rfl rfl (lb:=[Zp gcap])
  ⟨Tryz.f124,Tryz.func124,rfl,rfl⟩ (fun w0=>?_)
 refine W3 (Ya (YhX _ (fun g2=>?_)));refine zG ?_;refine YV ?_;refine Seq.nil ⟨rfl,?_⟩;refine W3 ?_;refine zG ?_;refine XC ?_;refine Seq.nil ⟨rfl,rfl,fun L D fnA tt hT=>⟨_,values_f (B0:=fun k H1=>∃ (v:Value) (Hs E:HP),H1.Perm ((D,.deferred (some []))::(g2,Zu #[v] 22)::(E++Hs))/\Grow paramL 123 fz v k Hs (l.take k)) hg hS ⟨_,[],[],Zr _,Grow.nil _ _ _⟩ ?_,?_⟩⟩
 ·rintro cx k x H1 K r ff xo ats dst ty pos af gd hx hrx hk ⟨v,Hs,E,hpm,hG⟩ hf hxo hK;refine YnK hT hf hxo ?_;refine CI.k (Y7 (fun g5=>?_));refine CI.k0 (YG ?_);refine CI.nil ⟨_,List.Perm.swap _ _ _,?_⟩;obtain ⟨A0,c0,rfl,_,_⟩:=hG.form;refine CI.perm (H':=(g5,_)::(L,_)::(D,.deferred (some []))::(g2,_)::(E++Hs)) ((List.Perm.swap _ _ _).trans (((hpm.symm).cons _).cons _)) ?_;refine CI.q (Yx 3 ?_ (hv:=by exact rfl));refine CI.q (Yy 0 ?_);refine CI.k (Yb (cs:=[Zy x.name,Zy x.typ]) (fun gc=>?_));refine CI.k (YN (Hr:=(gc,_)::(g5,_)::(L,_)::(D,.deferred (some []))::(g2,_)::E) (d:=x) (Zr _) hG WY (.head _) hrx (fun v8 H8 hO8=>?_));obtain ⟨A8,c8,rfl,_,_⟩:=hO8.form;refine CI.k0 (Yaz (pre:=[_,_,_,_]) rfl ?_);exact CI.nil ⟨(gc,Zu #[Zy x.name,Zy x.typ] 123)::(g5,Zu #[Zy x.name,Zy x.typ] 123)::(D,.deferred (some []))::(g2,Zu #[Zc A8 (k+1) c8] 22)::(E++H8),List.perm_middle (l₁:=[_,_]),hK _ ⟨_,H8,(gc,Zu #[Zy x.name,Zy x.typ] 123)::(g5,Zu #[Zy x.name,Zy x.typ] 123)::E,(Zq (l₁:=[_,_]) (l₂:=[_,_])).append_right _,hO8.of (by rw [List.take_add_one,hx];rfl) rfl⟩⟩
 rintro u fz3 H3 ⟨rfl,H2,rfl,v,Hs,E,hpm,hG⟩;rw [Zl (by rw [hS.len];exact Zs _)] at hG;refine ⟨(g2,Zu #[v] 22)::(E++Hs),hpm.cons _,?_⟩;obtain ⟨A0,c0,rfl,_,_⟩:=hG.form;refine CI.q (Yx 2 ?_ (hv:=by exact rfl));refine CI.q (YV ?_);exact CI.nil ⟨_,_,Hs,rfl,List.Perm.swap _ _ _,((List.sublist_append_right E Hs).cons _).cons _,rfl,hG⟩
end Go.Proofs.YtiligkgjcmokbaaGreatDoor
namespace Go.Lx
open Go.RowKit
variable {H:HP} {fz:FZ} {v:Value}
theorem GFn.ofQ {P:Program} {f:FuncId} {args:List Value} (hc:Ya4 P f) (h:∀ fz2,QFn P f args fz2 v):GFn P f args fz H fun u fz' H'=>u=v/\fz'=fz/\H'=H:=by
 refine GFn.of hc fun w hw=>?_
 have hi:Inv ⟨w,H.map Prod.fst,fz⟩ fz ([]++H) w:=⟨hw,Fr.refl _ _,⟨fun _ _ h=>h,fun _ _ _=>rfl,fun p hp=>.inl (List.mem_map.2 ⟨p,hp,rfl⟩)⟩⟩;obtain ⟨fz2,h1,h2,h3⟩:=WA H fz [] hi;refine ((h fz2).out w h3.hp).mono fun e w' ⟨he,hfr⟩=>?_
 have hi2:=hi.quiet hfr;exact ⟨v,fz,H,he,⟨rfl,rfl,rfl⟩,hi2.hp,hi2.fr,hi2.nw⟩
end Go.Lx
namespace Go.Proofs.YtiligkgjcmokbaaGreatDoor
variable {α:Type} {A:Option Addr} {fz:FZ} {Hs:HP} {n:Nat} {v:Value} {l:List α}
theorem YcD {Λ:Lay α} {fw fr fi fm fs:FuncId} (hty:SrT Λ fw fr fi fm fs) {c:Nat} {vc:Value}:QFn prog fi [Zc A 0 c,Zk 0,Zk 0,vc] fz (.tuple #[]):=by
 refine GFn.quiet ?_;cases hty
 all_goals
  first
   | refine zF Tryz.func248 Tryz.ntmps248 (fun w0=>?_)
   | refine zF Tryz.func125 Tryz.ntmps125 (fun w0=>?_)
   | refine zF Tryz.func128 Tryz.ntmps128 (fun w0=>?_)
   | refine zF Tryz.func130 Tryz.ntmps130 (fun w0=>?_)
   | refine zF Tryz.func132 Tryz.ntmps132 (fun w0=>?_)
   | refine zF Tryz.func138 Tryz.ntmps138 (fun w0=>?_)
  refine zW ?_;intros;refine Yi (fun q σ fz' H'=>q=0/\σ=[(8,Zk 1),(2,Zk 0)]/\fz=fz'/\H'=[]) ⟨rfl,rfl,rfl,rfl⟩ Zw Zb ?_;rintro q σ fz' H' ⟨rfl,rfl,rfl,rfl⟩;refine zW ?_;intros;refine zC ?_ ?_<;>intro c1
  ·exact absurd c1 Zh
  refine zW ?_;intros;exact Ycc rfl Zb rfl
theorem YoU {Λ:Lay α} {fw fr fi fm fs:FuncId} (hty:SrT Λ fw fr fi fm fs) {c:Nat} {vc:Value}:QFn prog fs [Zc A 0 c,Zk 0,vc] fz (.tuple #[]):=by
 refine GFn.quiet ?_;cases hty
 all_goals
  first
   | refine zF Tryz.func188 Tryz.ntmps188 (fun w0=>?_)
   | refine zF Tryz.func60 Tryz.ntmps60 (fun w0=>?_)
   | refine zF Tryz.func62 Tryz.ntmps62 (fun w0=>?_)
   | refine zF Tryz.func63 Tryz.ntmps63 (fun w0=>?_)
   | refine zF Tryz.func64 Tryz.ntmps64 (fun w0=>?_)
   | refine zF Tryz.func69 Tryz.ntmps69 (fun w0=>?_)
  refine zW ?_;intros;refine Yi (fun q σ fz' H'=>q=0/\σ=[(8,Zk 20),(7,Zk 0),(6,Zk 20),(0,Zc A 0 c),(1,Zk 0),(2,vc)]/\fz=fz'/\H'=[]) ⟨rfl,rfl,rfl,rfl⟩ Zw Zb ?_;rintro q σ fz' H' ⟨rfl,rfl,rfl,rfl⟩;refine zW ?_;intros;refine zC ?_ ?_<;>intro c1
  ·exact absurd c1 Zh
  refine zW ?_;intros
  first
   | refine zc (YcD .pa) ?_
   | refine zc (YcD .pr) ?_
   | refine zc (YcD .fu) ?_
   | refine zc (YcD .ac) ?_
   | refine zc (YcD .du) ?_
   | refine zc (YcD .va) ?_
  refine zW ?_;intros;refine Yi (fun q σ fz' H'=>q=0/\σ=[(6,Zk 20),(1,Zk 0)]/\fz=fz'/\H'=[]) ⟨rfl,rfl,rfl,rfl⟩ Zw Zb ?_;rintro q σ fz' H' ⟨rfl,rfl,rfl,rfl⟩;refine zW ?_;intros;refine zC ?_ ?_<;>intro c2
  ·exact absurd c2 Zh
  refine zW ?_;intros;exact Ycc rfl Zb rfl
inductive SrU:{α:Type}->Lay α->FuncId->FuncId->FuncId->FuncId->FuncId->TypeId->FuncId->Prop
 | pa:SrU paramL 319 289 248 249 188 123 123
 | pr:SrU predicateL 250 189 125 126 60 61 20
 | fu:SrU functionL 251 190 128 129 62 63 23
 | ac:SrU actionL 252 191 130 131 63 52 25
 | du:SrU durativeL 253 192 132 133 64 55 27
 | va:SrU valueL 259 204 138 139 69 80 31
theorem SrU.ty {Λ:Lay α} {fw fr fi fm fs:FuncId} {te:TypeId} {fq:FuncId} (h:SrU Λ fw fr fi fm fs te fq):SrT Λ fw fr fi fm fs:=by cases h<;>constructor
theorem SrT.call {Λ:Lay α} {fw fr fi fm fs:FuncId} (h:SrT Λ fw fr fi fm fs):Ya4 prog fs:=by
 cases h
 ·exact ⟨_,Tryz.func188,by decide,by decide⟩
 ·exact ⟨_,Tryz.func60,by decide,by decide⟩
 ·exact ⟨_,Tryz.func62,by decide,by decide⟩
 ·exact ⟨_,Tryz.func63,by decide,by decide⟩
 ·exact ⟨_,Tryz.func64,by decide,by decide⟩
 exact ⟨_,Tryz.func69,by decide,by decide⟩
theorem Yfk {Λ:Lay α} {fw fr fi fm fs:FuncId} {te:TypeId} {fq:FuncId} (hu:SrU Λ fw fr fi fm fs te fq) {fc:Nat} {cmp:α->α->Int} (hG:Grow Λ te fz v n Hs l) (hC:CmpQ Λ fc fz cmp) (w:SWk (ltC cmp)) (hn:n<=1000000000):
 GFn prog fq [v,.func (.func fc) #[] #[]] fz Hs (fun _ fz' H'=>fz=fz'/\Grow Λ te fz v n H' (srtC cmp l)):=by
 have hl:=hG.len;have hs:GFn prog fs [v,Zk n,.func (.func fc) #[] #[]] fz Hs (fun _ fz' H'=>fz=fz'/\Grow Λ te fz v n H' (srtC cmp l)):=by
  rcases Nat.eq_zero_or_pos n with h0 | hp
  ·subst h0;have hl0:l=[]:=List.eq_nil_of_length_eq_zero hl;subst hl0;obtain ⟨A0,c0,rfl,_,_⟩:=hG.form;exact (GFn.ofQ hu.ty.call (fun _=>YoU hu.ty)).mono fun r fz' H' ⟨_,h2,h3⟩=>⟨h2.symm,by rw [h3];exact hG⟩
  obtain ⟨g,cap,cur,rfl,rfl,hb⟩:=hG.b hp;exact (stable_o hu.ty hb hC w hn).mono fun r fz' H' ⟨h1,cur',h2,h3⟩=>⟨h1,by rw [h2];exact h3.grow⟩
 obtain ⟨A0,c0,rfl,_,_⟩:=hG.form;cases hu
 all_goals
  first
   | refine zF Tryz.func123 Tryz.ntmps123 (fun w0=>?_)
   | refine zF Tryz.func20 Tryz.ntmps20 (fun w0=>?_)
   | refine zF Tryz.func23 Tryz.ntmps23 (fun w0=>?_)
   | refine zF Tryz.func25 Tryz.ntmps25 (fun w0=>?_)
   | refine zF Tryz.func27 Tryz.ntmps27 (fun w0=>?_)
   | refine zF Tryz.func31 Tryz.ntmps31 (fun w0=>?_)
  refine zW ?_;intros;refine Ya (Ym _ [] (List.append_nil _).symm hs (fun v4 fz4 H4 hle4 hR4=>?_));obtain ⟨rfl,hR⟩:=hR4;rw [List.append_nil];refine zW ?_;intros;exact Ycc rfl (List.Sublist.refl _) ⟨rfl,hR⟩
theorem YqB {gcap c:Nat} {l:List Param} (hg:fz gcap=some (Zu #[Zc A n c] 22)) (hS:Sl paramL fz A n c l) (hn:n<=1000000000):
 GFn prog 122 [.func (.func 124) #[] #[Zp gcap]] fz [] (fun r fz' H'=>fz=fz'/\Grow paramL 123 fz r n H' l):=by
 refine zF Tryz.func122 Tryz.ntmps122 (fun w0=>?_);refine zW ?_;intros;refine Ya (Ym [] [] Zz (Ymt hg hS hn) (fun v4 fz4 H4 hle4 hR4=>?_));obtain ⟨rfl,hR⟩:=hR4;rw [List.append_nil];refine zW ?_;intros;exact ret1 rfl rfl (List.Sublist.refl _) ⟨rfl,hR⟩
theorem YoV {gcap c fc:Nat} {l:List Param} {cmp:Param->Param->Int} (hg:fz gcap=some (Zu #[Zc A n c] 22)) (hS:Sl paramL fz A n c l) (hn:n<=1000000000) (hC:CmpQ paramL fc fz cmp) (w:SWk (ltC cmp)):
 GFn prog 51 [.func (.func 124) #[] #[Zp gcap],.func (.func fc) #[] #[]] fz [] (fun r fz' H'=>fz=fz'/\Grow paramL 123 fz r n H' (srtC cmp l)):=by
 refine zF Tryz.func51 Tryz.ntmps51 (fun w0=>?_);refine zW ?_;intros;refine Ya (Ym [] [] Zz (YqB hg hS hn) (fun v4 fz4 H4 hle4 hR4=>?_));obtain ⟨rfl,hG⟩:=hR4;rw [List.append_nil];obtain ⟨A0,c0,rfl,_,_⟩:=hG.form;refine zW ?_;intros;refine Ya (Ym _ [] (List.append_nil _).symm (Yfk .pa hG hC w hn) (fun v5 fz5 H5 hle5 hR5=>?_));obtain ⟨rfl,hG5⟩:=hR5;rw [List.append_nil];refine zW ?_;intros;exact ret1 rfl rfl (List.Sublist.refl _) ⟨rfl,hG5⟩
end Go.Proofs.YtiligkgjcmokbaaGreatDoor
namespace Go.Lx
variable {cs:List Value} {fz:FZ}
theorem Ycl {x:Predicate} (h:predicateL.rep fz x cs):∃ A0 n0 c0,cs=[Zy x.name,Zc A0 n0 c0]/\PredicateR fz x (Zc A0 n0 c0):=by
 obtain ⟨_,rfl,hR⟩:=Xo h;obtain ⟨A0,n0,c0,rfl,_⟩:=id hR.params;exact ⟨_,_,_,rfl,hR⟩
theorem Ydb {x:Function} (h:functionL.rep fz x cs):∃ A0 n0 c0,cs=[Zy x.name,Zc A0 n0 c0,Zk x.lo,Zk x.hi]/\FunctionR fz x (Zc A0 n0 c0):=by
 obtain ⟨_,rfl,hR⟩:=YW h;obtain ⟨A0,n0,c0,rfl,_⟩:=id hR.params;exact ⟨_,_,_,rfl,hR⟩
theorem YeA {x:Action} (h:actionL.rep fz x cs):∃ A0 n0 c0 A1 n1 c1 A2 n2 c2 A3 n3 c3 A4 n4 c4 A5 n5 c5,cs=[Zy x.name,Zc A0 n0 c0,Zk x.cost,Zy x.pre.op,Zy x.pre.name,Zc A1 n1 c1,Zc A2 n2 c2,Zc A3 n3 c3,Zc A4 n4 c4,Zc A5 n5 c5]/\ActionR fz x (Zc A0 n0 c0) (Zc A1 n1 c1) (Zc A2 n2 c2) (Zc A3 n3 c3) (Zc A4 n4 c4) (Zc A5 n5 c5):=by
 obtain ⟨_,_,_,_,_,_,rfl,hR⟩:=Xh h;obtain ⟨A0,n0,c0,rfl,_⟩:=id hR.params;obtain ⟨⟨A1,n1,c1,rfl,_⟩,⟨A2,n2,c2,rfl,_⟩,⟨A3,n3,c3,rfl,_⟩,⟨A4,n4,c4,rfl,_⟩⟩:=id hR.pre.sls;obtain ⟨A5,n5,c5,rfl,_⟩:=id hR.changes;exact ⟨_,_,_,_,_,_,_,_,_,_,_,_,_,_,_,_,_,_,rfl,hR⟩
theorem Ydd {x:Durative} (h:durativeL.rep fz x cs):∃ A0 n0 c0 A1 n1 c1 A2 n2 c2 A3 n3 c3 A4 n4 c4 A5 n5 c5 A6 n6 c6 A7 n7 c7 A8 n8 c8 A9 n9 c9 A10 n10 c10 A11 n11 c11 A12 n12 c12 A13 n13 c13 A14 n14 c14,cs=[Zy x.name,Zc A0 n0 c0,Zk x.duration,Zy x.start.op,Zy x.start.name,Zc A1 n1 c1,Zc A2 n2 c2,Zc A3 n3 c3,Zc A4 n4 c4,Zy x.over.op,Zy x.over.name,Zc A5 n5 c5,Zc A6 n6 c6,Zc A7 n7 c7,Zc A8 n8 c8,Zy x.fin.op,Zy x.fin.name,Zc A9 n9 c9,Zc A10 n10 c10,Zc A11 n11 c11,Zc A12 n12 c12,Zc A13 n13 c13,Zc A14 n14 c14]/\DurativeR fz x (Zc A0 n0 c0) (Zc A1 n1 c1) (Zc A2 n2 c2) (Zc A3 n3 c3) (Zc A4 n4 c4) (Zc A5 n5 c5) (Zc A6 n6 c6) (Zc A7 n7 c7) (Zc A8 n8 c8) (Zc A9 n9 c9) (Zc A10 n10 c10) (Zc A11 n11 c11) (Zc A12 n12 c12) (Zc A13 n13 c13) (Zc A14 n14 c14):=by
 obtain ⟨_,_,_,_,_,_,_,_,_,_,_,_,_,_,_,rfl,hR⟩:=YZ h;obtain ⟨A0,n0,c0,rfl,_⟩:=id hR.params;obtain ⟨⟨A1,n1,c1,rfl,_⟩,⟨A2,n2,c2,rfl,_⟩,⟨A3,n3,c3,rfl,_⟩,⟨A4,n4,c4,rfl,_⟩⟩:=id hR.start.sls;obtain ⟨⟨A5,n5,c5,rfl,_⟩,⟨A6,n6,c6,rfl,_⟩,⟨A7,n7,c7,rfl,_⟩,⟨A8,n8,c8,rfl,_⟩⟩:=id hR.over.sls;obtain ⟨⟨A9,n9,c9,rfl,_⟩,⟨A10,n10,c10,rfl,_⟩,⟨A11,n11,c11,rfl,_⟩,⟨A12,n12,c12,rfl,_⟩⟩:=id hR.fin.sls;obtain ⟨A13,n13,c13,rfl,_⟩:=id hR.atStart;obtain ⟨A14,n14,c14,rfl,_⟩:=id hR.atEnd;exact ⟨_,_,_,_,_,_,_,_,_,_,_,_,_,_,_,_,_,_,_,_,_,_,_,_,_,_,_,_,_,_,_,_,_,_,_,_,_,_,_,_,_,_,_,_,_,rfl,hR⟩
theorem Yff {x:Value_} (h:valueL.rep fz x cs):∃ A0 n0 c0,cs=[Zy x.fluent.name,Zc A0 n0 c0,Zk x.n]/\Value_R fz x (Zc A0 n0 c0):=by
 obtain ⟨_,rfl,hR⟩:=Yam h;obtain ⟨A0,n0,c0,rfl,_⟩:=id hR.fluent.args;exact ⟨_,_,_,rfl,hR⟩
theorem Ymq {x:Change} (h:changeL.rep fz x cs):∃ A0 n0 c0 A1 n1 c1 A2 n2 c2 A3 n3 c3 A4 n4 c4 A5 n5 c5 A6 n6 c6 A7 n7 c7,cs=[Zk x.kind,Zc A0 n0 c0,Zy x.when_.op,Zy x.when_.name,Zc A1 n1 c1,Zc A2 n2 c2,Zc A3 n3 c3,Zc A4 n4 c4,Zy x.name,Zc A5 n5 c5,Zy x.value.op,Zy x.value.name,Zk x.value.n,Zc A6 n6 c6,Zc A7 n7 c7]/\ChangeR fz x (Zc A0 n0 c0) (Zc A1 n1 c1) (Zc A2 n2 c2) (Zc A3 n3 c3) (Zc A4 n4 c4) (Zc A5 n5 c5) (Zc A6 n6 c6) (Zc A7 n7 c7):=by
 obtain ⟨_,_,_,_,_,_,_,_,rfl,hR⟩:=Y8 h;obtain ⟨A0,n0,c0,rfl,_⟩:=id hR.params;obtain ⟨⟨A1,n1,c1,rfl,_⟩,⟨A2,n2,c2,rfl,_⟩,⟨A3,n3,c3,rfl,_⟩,⟨A4,n4,c4,rfl,_⟩⟩:=id hR.when_.sls;obtain ⟨A5,n5,c5,rfl,_⟩:=id hR.args;obtain ⟨⟨A6,n6,c6,rfl,_⟩,⟨A7,n7,c7,rfl,_⟩⟩:=id hR.value.sls;exact ⟨_,_,_,_,_,_,_,_,_,_,_,_,_,_,_,_,_,_,_,_,_,_,_,_,rfl,hR⟩
theorem YkV {x:Formula} (h:YK.rep fz x cs):∃ A0 n0 c0 A1 n1 c1 A2 n2 c2 A3 n3 c3,cs=[Zy x.op,Zy x.name,Zc A0 n0 c0,Zc A1 n1 c1,Zc A2 n2 c2,Zc A3 n3 c3]/\FormulaR fz x (Zc A0 n0 c0) (Zc A1 n1 c1) (Zc A2 n2 c2) (Zc A3 n3 c3):=by
 obtain ⟨_,_,_,_,rfl,hR⟩:=Yv h;obtain ⟨⟨A0,n0,c0,rfl,_⟩,⟨A1,n1,c1,rfl,_⟩,⟨A2,n2,c2,rfl,_⟩,⟨A3,n3,c3,rfl,_⟩⟩:=id hR.sls;exact ⟨_,_,_,_,_,_,_,_,_,_,_,_,rfl,hR⟩
theorem Yqe {x:Lx.Expr} (h:exprL.rep fz x cs):∃ A0 n0 c0 A1 n1 c1,cs=[Zy x.op,Zy x.name,Zk x.n,Zc A0 n0 c0,Zc A1 n1 c1]/\ExprR fz x (Zc A0 n0 c0) (Zc A1 n1 c1):=by
 obtain ⟨_,_,rfl,hR⟩:=YD h;obtain ⟨⟨A0,n0,c0,rfl,_⟩,⟨A1,n1,c1,rfl,_⟩⟩:=id hR.sls;exact ⟨_,_,_,_,_,_,rfl,hR⟩
end Go.Lx
namespace Go.Proofs
open Go.Shelf
def Ygl:Go.Shelf.Ren:=⟨fun | 106=>22 | 213=>61 | 265=>127 | n=>n,fun | 9=>9 | 3=>3 | n=>n,fun | n=>n⟩
theorem Ylm:Go.Proofs.Lays.n106 Tryz.prog Ygl:={
 mixed:=by kernel_rfl
 f106:=Tryz.func22.trans (congrArg some (by kernel_rfl))
 f213:=Tryz.func61.trans (congrArg some (by kernel_rfl))
 f265:=Tryz.func127.trans (congrArg some (by kernel_rfl))
 t3:=Tryz.underlying3
 a3:=Tryz.isAgg3
 z3:=Tryz.sizeOf3
 v3:=Tryz.zeroValue3
 t9:=Tryz.underlying9
 a9:=Tryz.isAgg9
 z9:=Tryz.sizeOf9
 v9:=Tryz.zeroValue9}
open Go.RowKit in
/-- strings.Compare: "Compare returns an integer comparing two strings lexicographically. The result will be 0 if a == b, -1 if a < b, and +1 if a > b.": IT RETURNS 'Lib.compareBytes a b'; the world is as1 it was. (LAID: no walk: one application.) -/
theorem Tryz.strings_Compare (a b:ByteArray) (w:World):
 Calls Tryz.prog 22 #[.string a,.string b] w fun e w'=>e=.returned (.int .i64 (Lib.compareBytes a.data.toList b.data.toList))/\w'=w:=Any.strings_Compare Ylm a b w
end Go.Proofs
namespace Go.Proofs.YtiligkgjcmokbaaGreatDoor
variable {α β:Type} {fz:FZ} {A:Option Addr} {n:Nat} {va:Value}
theorem YqE:∀ a b:List UInt8,Lib.compareBytes a b=if a<b then -1 else if a=b then 0 else 1
 | [],[]=>by rw [Lib.compareBytes,if_neg (List.lt_irrefl _),if_pos rfl]
 | [],b::m=>by rw [Lib.compareBytes,if_pos (List.nil_lt_cons _ _)]
 | a::l,[]=>by rw [Lib.compareBytes,if_neg (List.not_lt_nil _),if_neg (by simp)]
 | a::l,b::m=>by
  rw [Lib.compareBytes,YqE l m];by_cases h1:a<b
  ·rw [if_pos h1,if_pos (List.cons_lt_cons_iff.2 (.inl h1))]
  rw [if_neg h1];by_cases h2:b<a
  ·have h3:¬a=b:=fun e=>by subst e;exact absurd h2 (UInt8.lt_irrefl _)
   rw [if_pos h2,if_neg (fun h=>(List.cons_lt_cons_iff.1 h).elim h1 (fun h=>h3 h.1)),if_neg (by simp [h3])]
  have h3:a=b:=UInt8.le_antisymm (UInt8.not_lt.1 h2) (UInt8.not_lt.1 h1);subst h3;rw [if_neg h2];by_cases h4:l<m
  ·rw [if_pos h4,if_pos (List.cons_lt_cons_iff.2 (.inr ⟨rfl,h4⟩))]
  rw [if_neg h4,if_neg (fun h=>(List.cons_lt_cons_iff.1 h).elim h1 (fun h=>h4 h.2))];by_cases h5:l=m
  ·rw [if_pos h5,if_pos (by rw [h5])]
  rw [if_neg h5,if_neg (by simp [h5])]
theorem Yia {a b:Bs}:QFn prog 22 [Zy a,Zy b] fz (Zk (cmpS a b)):=by
 unfold QFn;refine ⟨⟨_,Tryz.func22,by decide,by decide⟩,fun w hw=>(Tryz.strings_Compare a b w).mono fun e w' ⟨he,h⟩=>?_⟩;subst h;refine ⟨he.trans ?_,Fr.refl _ _⟩;have h1:ltB a b=true↔a.data.toList<b.data.toList:=by rw [Yc0,ByteArray.toList_eq,ByteArray.toList_eq]
 have h2:a=b↔a.data.toList=b.data.toList:=⟨fun h=>by rw [h],fun h=>Ynf (by rw [ByteArray.toList_eq,ByteArray.toList_eq,h])⟩;rw [YqE,cmpS];simp only [h1,h2]
abbrev byC {α:Type} (f:α->Bs):α->α->Int:=fun x y=>cmpS (f x) (f y)
theorem OrdC.swk {C:α->α->Int} (h:OrdC C) (f:β->α):SWk (ltC fun x y=>C (f x) (f y)) where
 as_ x y h1 h2:=by have:=(h.anti _ _).1 h1;have h3:C (f y) (f x)<0:=h2;omega
 nt x y z h1 h2 h3:=by
  have g1:¬C (f y) (f x)<0:=h1;have g2:¬C (f z) (f y)<0:=h2;have g3:C (f z) (f x)<0:=h3;have tot:∀ u v,¬C u v<0->C v u<0\/v=u:=fun u v k=>by
   rcases Int.lt_trichotomy (C u v) 0 with k1 | k1 | k1
   ·exact absurd k1 k
   ·exact .inr (h.eq0 _ _ k1).symm
   exact .inl ((h.anti _ _).2 k1)
  rcases tot _ _ g1 with k | k
  ·rcases tot _ _ g2 with k2 | k2
   ·exact absurd (h.trans _ _ _ (h.trans _ _ _ k k2) g3) (by rw [h.refl];decide)
   rw [k2] at k;exact absurd (h.trans _ _ _ k g3) (by rw [h.refl];decide)
  rw [k] at g3;exact g2 g3
theorem byNPa_q:CmpQ paramL 53 fz (byC Param.name):=by
 intro x y cs ds hx hy;obtain ⟨rfl,hR⟩:=YJ hx;obtain ⟨rfl,hS⟩:=YJ hy;refine qF Tryz.func53 Tryz.ntmps53 (fun w0=>?_);refine zW ?_;intros;refine zc Yia ?_;refine zW ?_;intros;exact zR (h:=rfl)
theorem byNPr_q:CmpQ predicateL 21 fz (byC Predicate.name):=by
 intro x y cs ds hx hy;obtain ⟨A0,n0,c0,rfl,hR⟩:=Ycl hx;obtain ⟨A0,n0,c0,rfl,hS⟩:=Ycl hy;refine qF Tryz.func21 Tryz.ntmps21 (fun w0=>?_);refine zW ?_;intros;refine zc Yia ?_;refine zW ?_;intros;exact zR (h:=rfl)
theorem byNFu_q:CmpQ functionL 24 fz (byC Function.name):=by
 intro x y cs ds hx hy;obtain ⟨A0,n0,c0,rfl,hR⟩:=Ydb hx;obtain ⟨A0,n0,c0,rfl,hS⟩:=Ydb hy;refine qF Tryz.func24 Tryz.ntmps24 (fun w0=>?_);refine zW ?_;intros;refine zc Yia ?_;refine zW ?_;intros;exact zR (h:=rfl)
theorem byNAc_q:CmpQ actionL 26 fz (byC Action.name):=by
 intro x y cs ds hx hy;obtain ⟨A0,n0,c0,A1,n1,c1,A2,n2,c2,A3,n3,c3,A4,n4,c4,A5,n5,c5,rfl,hR⟩:=YeA hx;obtain ⟨A0,n0,c0,A1,n1,c1,A2,n2,c2,A3,n3,c3,A4,n4,c4,A5,n5,c5,rfl,hS⟩:=YeA hy;refine qF Tryz.func26 Tryz.ntmps26 (fun w0=>?_);refine zW ?_;intros;refine zc Yia ?_;refine zW ?_;intros;exact zR (h:=rfl)
theorem byNDu_q:CmpQ durativeL 28 fz (byC Durative.name):=by
 intro x y cs ds hx hy;obtain ⟨A0,n0,c0,A1,n1,c1,A2,n2,c2,A3,n3,c3,A4,n4,c4,A5,n5,c5,A6,n6,c6,A7,n7,c7,A8,n8,c8,A9,n9,c9,A10,n10,c10,A11,n11,c11,A12,n12,c12,A13,n13,c13,A14,n14,c14,rfl,hR⟩:=Ydd hx;obtain ⟨A0,n0,c0,A1,n1,c1,A2,n2,c2,A3,n3,c3,A4,n4,c4,A5,n5,c5,A6,n6,c6,A7,n7,c7,A8,n8,c8,A9,n9,c9,A10,n10,c10,A11,n11,c11,A12,n12,c12,A13,n13,c13,A14,n14,c14,rfl,hS⟩:=Ydd hy;refine qF Tryz.func28 Tryz.ntmps28 (fun w0=>?_);refine zW ?_;intros;refine zc Yia ?_;refine zW ?_;intros;exact zR (h:=rfl)
theorem YaU {c:Nat} {l:List Param} (h:Sl paramL fz A n c l) (hn:n<=1000000000):
 GFn prog 17 [Zc A n c] fz [] (fun v fz' H'=>Grow paramL 123 fz' v n H' l):=by
 refine zF Tryz.func17 Tryz.ntmps17 (fun w0=>?_);refine zW ?_;intros;refine Ya (Ym [] [] Zz (Ybb h hn) (fun v1 fz1 H1 hle1 hR1=>?_));rw [List.append_nil];refine zW ?_;intros;exact ret1 rfl rfl (List.Sublist.refl _) hR1
theorem Ymg:∀ (s:Nat) {fz:FZ} {e:Lx.Expr} {va vk:Value},SizeOf.sizeOf e<=s->ExprR fz e va vk->eW e<=1000000000->
 GFn prog 58 [.agg #[Zy e.op,Zy e.name,Zk e.n,va,vk]] fz [] (fun v fz' H'=>H'=[]/\ExprV fz' e v)
 | 0,_,e,_,_,hse,_,_=>by cases e;simp at hse
 | s+1,fz,e,va,vk,hse,hR,hW=>by
  have hweq:=Yqr e;have hkl:=WG eW_pos e.kids;obtain ⟨⟨B1,m1,d1,rfl,ia⟩,⟨B2,m2,d2,rfl,ik⟩⟩:=hR.sls;have l1:=ia.len;have l2:=ik.len;refine zF Tryz.func58 Tryz.ntmps58 (fun w0=>?_);refine zW ?_;intros;rename_i g1 g2;refine Ya (Ym [] [_,_] Zz (Ye6 ia Zi) (fun v1 fz1 H1 hle1 hR1=>?_));obtain ⟨B3,d3,rfl,_,_⟩:=hR1.form;refine Seq.freezeAll (H1:=[_,_]) (H2:=H1) Zq (fun fz2 hle2 hf2=>?_);obtain ⟨B4,d4,e4,ia4⟩:=hR1.sl hle2 hf2 Zi;injection e4 with e41 e42 e43
  subst e41;subst e43;have hx:=hle1.trans hle2;refine zW ?_;intros;refine Ya (Ym [] [_,_] Zz (Ynz (ik.mono hx) Zi) (fun v2 fz3 H2 hle3 hR2=>?_));obtain ⟨B5,d5,rfl,_,_⟩:=hR2.form;refine Seq.perm Zq ?_;refine zW ?_;intros;refine Yi (fun q σ fz' H'=>∃ (k:Nat) (Hk:HP),k<=m2/\q=m2 - k/\σ=[(15,Zk k),(14,Zk m2),(2,Zp g2),(1,Zp g1)]/\Le fz3 fz'/\
   H'=(g2,Zu #[Ze,Ze,Zk 0,Zn,Zn] 112)::(g1,Zu #[Zy e.op,Zy e.name,Zk e.n,Zc B3 m1 d3,Zc B5 m2 d5] 112)::Hk/\
   Grow exprL 112 fz' (Zc B5 m2 d5) m2 Hk e.kids) ⟨0,H2,Z0 _,rfl,rfl,Zd,rfl,hR2⟩ Zw Zb ?_
  rintro q σ fz' H' ⟨k,Hk,hk,rfl,rfl,hle,rfl,hG⟩;refine zW ?_;intros;refine zC ?_ ?_<;>intro c1
  ·obtain ⟨x,hxx⟩:=Ye (l:=e.kids) (k:=k) Zi;have hxm:=Zm hxx;have hlt:=Expr.kids_lt hxm;have hxw:=Wh (w:=eW) hxm;obtain ⟨gk,cap,cur,e8,rfl,hB⟩:=hG.b Zi;injection e8 with e81 e82 e83
   subst e81;subst e83;obtain ⟨cs,hrx,hcx⟩:=Wf hB hxx;obtain ⟨wa,wk,rfl,hRx⟩:=YD hrx;obtain ⟨⟨E1,r1,q1,rfl,_⟩,⟨E2,r2,q2,rfl,_⟩⟩:=hRx.sls;refine zWN ?_;intros;refine XF [_,_,_] ?_;refine zW ?_;intros;refine zG ?_;refine Yq rfl ?_;refine zG ?_;refine Yc (vs:=[Zy x.op,Zy x.name,Zk x.n,Zc E1 r1 q1,Zc E2 r2 q2]) 2 ?_ (hv:=hcx);refine pU ?_;refine Yj (Ym [] [_,_,_] Zz (Ymg s Zi hRx Zi) (fun v5 fz5 H5 hle5 hR5=>⟨⟨hle5,Zx⟩,?_⟩));obtain ⟨rfl,wa5,wk5,rfl,hR5⟩:=hR5;refine Ch.qk ⟨hle5,Zx⟩ (Yq rfl ?_);refine Ch.hard0 (YI (pre:=[_,_]) (L:=exprL) (j:=k) rfl rfl Ym4 (Ya8 hR5) (hB.mono hle5) (fun cur1 hB1=>?_));refine Ch.done ?_;refine zW ?_;intros;exact wP (h:=by exact ⟨k+1,_,by omega,rfl,rfl,hle.trans hle5,rfl,hB1.grow.of (YeJ hxx) rfl⟩)
  refine zW ?_;intros;refine XJ (i:=0) rfl (fun fz9 hle9 hf9=>?_);obtain ⟨A9,c9,e9,h9⟩:=hG.sl hle9 (fun p hp=>hf9 p (by simp [hp])) Zi;injection e9 with e91 e92 e93
  subst e91;subst e93;exact ⟨rfl,_,_,rfl,{hR with args:=(ia4.mono (hle3.trans (hle.trans hle9))).is,kids:=h9.is}⟩
theorem perm2 {H5 H2:HP} {a b:Nat × Obj}:(a::b::(H5++H2)).Perm (H5++(H2++ [a,b])):=by
 rw [show H5++(H2++ [a,b])=(H5++H2)++ [a,b] from by simp [List.append_assoc]];exact Zq (l₁:=[a,b])
theorem Yev:∀ (s:Nat) {fz:FZ} {f:Formula} {va vp ve vk:Value},SizeOf.sizeOf f<=s->FormulaR fz f va vp ve vk->fW f<=1000000000->
 GFn prog 18 [.agg #[Zy f.op,Zy f.name,va,vp,ve,vk]] fz [] (fun v fz' H'=>H'=[]/\FormulaV fz' f v)
 | 0,_,f,_,_,_,_,hse,_,_=>by cases f;simp at hse
 | s+1,fz,f,va,vp,ve,vk,hse,hR,hW=>by
  have hweq:=Yl9 f;have hkl:=WG fW_pos f.kids;have hel:=WG eW_pos f.exprs;obtain ⟨⟨B1,m1,d1,rfl,ia⟩,⟨B2,m2,d2,rfl,ip⟩,⟨B3,m3,d3,rfl,ie⟩,⟨B4,m4,d4,rfl,ik⟩⟩:=hR.sls;have l1:=ia.len;have l2:=ip.len;have l3:=ie.len;have l4:=ik.len;refine zF Tryz.func18 Tryz.ntmps18 (fun w0=>?_);refine zWN ?_;intros;rename_i g1 g2;refine XF [_,_] ?_;refine zW ?_;intros;refine Yk ?_;refine zW ?_;intros;refine Yk ?_;refine zW ?_;intros;refine pU ?_;refine Yj (Ym [] [_,_] Zz (Ye6 ia Zi) (fun v5 fz5 H5 hle5 hR5=>⟨⟨hle5,Zx⟩,?_⟩));obtain ⟨A5,c5,rfl,_,_⟩:=hR5.form;refine Yj (Ym [] (H5++ [_,_]) Zz (YaU (ip.mono hle5) Zi) (fun v6 fz6 H6 hle6 hR6=>⟨⟨hle5.trans hle6,Zx⟩,?_⟩));obtain ⟨A6,c6,rfl,_,_⟩:=hR6.form;refine Ch.hard0 (Does.perm perm2 (Y9 ?_));refine Ch.hard Zj (DoesQ.does (Yt ?_));refine Ch.hard0 (Y9 ?_);refine Ch.done ?_;refine Yds ?_;refine Wp.freezeAll (H1:=[_,_]) (H2:=H6++H5) (Zr _) (fun fz7 hle7 hf7=>?_);obtain ⟨A5',c5',e5,ia5⟩:=hR5.sl (hle6.trans hle7) (fun p hp=>hf7 p (by simp [hp])) Zi;injection e5 with e51 e52 e53
  subst e51;subst e53;obtain ⟨A6',c6',e6,ip6⟩:=hR6.sl hle7 (fun p hp=>hf7 p (by simp [hp])) Zi;injection e6 with e61 e62 e63
  subst e61;subst e63;have hx:=hle5.trans (hle6.trans hle7);refine zWN ?_;intros;refine XF [_,_] ?_;refine zW ?_;intros;refine Yk ?_;refine zW ?_;intros;refine Yk ?_;refine zW ?_;intros;refine pU ?_;refine Yj (Ym [] [_,_] Zz (Ynz (ie.mono hx) Zi) (fun v8 fz8 H8 hle8 hR8=>⟨⟨hle8,Zx⟩,?_⟩));obtain ⟨A8,c8,rfl,_,_⟩:=hR8.form;refine Yj (Ym [] (H8++ [_,_]) Zz (cloneF_q (ik.mono (hx.trans hle8)) Zi) (fun v9 fz9 H9 hle9 hR9=>⟨⟨hle8.trans hle9,Zx⟩,?_⟩));obtain ⟨A9,c9,rfl,_,_⟩:=hR9.form;refine Ch.hard0 (Does.perm perm2 (Y9 ?_));refine Ch.hard Zj (DoesQ.does (Yt ?_));refine Ch.hard0 (Y9 ?_);refine Ch.done ?_;refine Yds ?_;refine Wp.perm (List.Perm.cons _ (List.Perm.cons _ Zq)) ?_;refine zW ?_;intros;refine Yi (fun q σ fz' H'=>∃ (k:Nat) (Hk:HP),k<=m3/\q=m3 - k/\σ=[(24,Zk k),(23,Zk m3),(2,Zp g2),(1,Zp g1)]/\Le fz9 fz'/\
   H'=(g2,Zu #[Ze,Ze,Zn,Zn,Zn,Zn] 35)::(g1,Zu #[Zy f.op,Zy f.name,Zc A5 m1 c5,Zc A6 m2 c6,Zc A8 m3 c8,Zc A9 m4 c9] 35)::(Hk++H9)/\
   Grow exprL 112 fz' (Zc A8 m3 c8) m3 Hk f.exprs) ⟨0,H8,Z0 _,rfl,rfl,Zd,rfl,hR8.mono hle9⟩ Zw Zb ?_
  rintro q σ fz' H' ⟨k,Hk,hk,rfl,rfl,hle,rfl,hG⟩;refine zW ?_;intros;refine zC ?_ ?_<;>intro c1
  ·obtain ⟨x,hxx⟩:=Ye (l:=f.exprs) (k:=k) Zi;have hxm:=Zm hxx;have hxw:=Wh (w:=eW) hxm;obtain ⟨gk,cap,cur,e8,rfl,hB⟩:=hG.b Zi;injection e8 with e81 e82 e83
   subst e81;subst e83;obtain ⟨cs,hrx,hcx⟩:=Wf hB hxx;obtain ⟨E1,r1,q1,E2,r2,q2,rfl,hRx⟩:=Yqe hrx;refine zWN ?_;intros;refine XF [_,_,_] ?_;refine zW ?_;intros;refine zG ?_;refine Yq rfl ?_;refine zG ?_;refine Yc (vs:=[Zy x.op,Zy x.name,Zk x.n,Zc E1 r1 q1,Zc E2 r2 q2]) 2 ?_ (hv:=hcx);refine pU ?_;refine Yj (Ym [] (_::_::_::H9) Zz (Ymg _ (Zs _) hRx Zi) (fun v10 fz10 H10 hle10 hR10=>⟨⟨hle10,Zx⟩,?_⟩));obtain ⟨rfl,wa5,wk5,rfl,hR10⟩:=hR10;refine Ch.qk ⟨hle10,Zx⟩ (Yq rfl ?_);refine Ch.hard0 (YI (pre:=[_,_]) (L:=exprL) (j:=k) rfl rfl Ym4 (Ya8 hR10) (hB.mono hle10) (fun cur1 hB1=>?_));refine Ch.done ?_;refine zW ?_;intros;exact wP (h:=by exact ⟨k+1,[_],by omega,rfl,rfl,hle.trans hle10,rfl,hB1.grow.of (YeJ hxx) rfl⟩)
  first
  | refine Wp.freezeAll (H1:=_::_::H9) (H2:=Hk) (List.Perm.cons _ (List.Perm.cons _ Zq)) (fun fz10 hle10 hf10=>?_)
  | refine Seq.freezeAll (H1:=_::_::H9) (H2:=Hk) (List.Perm.cons _ (List.Perm.cons _ Zq)) (fun fz10 hle10 hf10=>?_)
  obtain ⟨A10,c10,e10,ie10⟩:=hG.sl hle10 hf10 Zi;injection e10 with e101 e102 e103
  subst e101;subst e103;refine zW ?_;intros;refine Yi (fun q σ fz' H'=>∃ (k:Nat) (Hk:HP),k<=m4/\q=m4 - k/\σ=[(41,Zk k),(40,Zk m4),(2,Zp g2),(1,Zp g1)]/\Le fz10 fz'/\
   H'=(g2,Zu #[Ze,Ze,Zn,Zn,Zn,Zn] 35)::(g1,Zu #[Zy f.op,Zy f.name,Zc A5 m1 c5,Zc A6 m2 c6,Zc A8 m3 c8,Zc A9 m4 c9] 35)::Hk/\
   Grow YK 35 fz' (Zc A9 m4 c9) m4 Hk f.kids) ⟨0,H9,Z0 _,rfl,rfl,Zd,rfl,hR9.mono (hle.trans hle10)⟩ Zw Zb ?_
  rintro q σ fz11 H' ⟨k,Hk,hk,rfl,rfl,hle11,rfl,hG11⟩;refine zW ?_;intros;refine zC ?_ ?_<;>intro c2
  ·obtain ⟨x,hxx⟩:=Ye (l:=f.kids) (k:=k) Zi;have hxm:=Zm hxx;have hlt:=Formula.kids_lt hxm;have hxw:=Wh (w:=fW) hxm;obtain ⟨gk,cap,cur,e8,rfl,hB⟩:=hG11.b Zi;injection e8 with e81 e82 e83
   subst e81;subst e83;obtain ⟨cs,hrx,hcx⟩:=Wf hB hxx;obtain ⟨E1,r1,q1,E2,r2,q2,E3,r3,q3,E4,r4,q4,rfl,hRx⟩:=YkV hrx;refine zWN ?_;intros;refine XF [_,_,_] ?_;refine zW ?_;intros;refine zG ?_;refine Yq rfl ?_;refine zG ?_;refine Yc (vs:=[Zy x.op,Zy x.name,Zc E1 r1 q1,Zc E2 r2 q2,Zc E3 r3 q3,Zc E4 r4 q4]) 2 ?_ (hv:=hcx);refine pU ?_;refine Yj (Ym [] [_,_,_] Zz (Yev s Zi hRx Zi) (fun v12 fz12 H12 hle12 hR12=>⟨⟨hle12,Zx⟩,?_⟩));obtain ⟨rfl,wa5,wp5,we5,wk5,rfl,hR12⟩:=hR12;refine Ch.qk ⟨hle12,Zx⟩ (Yq rfl ?_);refine Ch.hard0 (YI (pre:=[_,_]) (L:=YK) (j:=k) rfl rfl YlU (WB hR12) (hB.mono hle12) (fun cur1 hB1=>?_));refine Ch.done ?_;refine zW ?_;intros;exact wP (h:=by exact ⟨k+1,[_],by omega,rfl,rfl,hle11.trans hle12,rfl,hB1.grow.of (YeJ hxx) rfl⟩)
  refine zW ?_;intros;refine XJ (i:=0) rfl (fun fz13 hle13 hf13=>?_);obtain ⟨A13,c13,e13,h13⟩:=hG11.sl hle13 (fun p hp=>hf13 p (by simp [hp])) Zi;injection e13 with e131 e132 e133
  subst e131;subst e133;have hy:=hle8.trans (hle9.trans (hle.trans (hle10.trans (hle11.trans hle13))));exact ⟨rfl,_,_,_,_,rfl,{hR with args:=(ia5.mono hy).is,params:=(ip6.mono hy).is,exprs:=(ie10.mono (hle11.trans hle13)).is,kids:=h13.is}⟩
theorem YqA {a:Atom} (hR:AtomR fz a va) (hW:a.args.length<=1000000000):
 GFn prog 30 [.agg #[Zy a.name,va]] fz [] (fun r fz' H'=>H'=[]/\∃ va',r=.agg #[Zy a.name,va']/\AtomR fz' a va'):=by
 obtain ⟨A,n,c,rfl,ia⟩:=hR.args;have l1:=ia.len;refine zF Tryz.func30 Tryz.ntmps30 (fun w0=>?_);refine zWN ?_;intros;rename_i g1 g2;refine XF [_,_] ?_;refine zW ?_;intros;refine pU ?_;refine Yj (Ym [] [_,_] Zz (Ye6 ia Zi) (fun v5 fz5 H5 hle5 hR5=>⟨⟨hle5,Zx⟩,?_⟩));obtain ⟨A5,c5,rfl,_,_⟩:=hR5.form;refine Ch.qk ⟨hle5,Zx⟩ (YaY ?_);refine Ch.hard0 (Does.perm Zq (YG ?_));refine Ch.done ?_;refine zW ?_;intros;refine XJ (i:=0) rfl (fun fz6 hle6 hf6=>?_);obtain ⟨A6,c6,e6,h6⟩:=hR5.sl hle6 (fun p hp=>hf6 p (by simp [hp])) Zi;injection e6 with e61 e62 e63
 subst e61;subst e63;exact ⟨rfl,_,rfl,⟨hR.name,h6.is⟩⟩
theorem cloneC_q {c:Nat} {l:List Change} (h:Sl changeL fz A n c l) (hn:n<=100000000):
 GFn prog 59 [Zc A n c] fz [] (fun v fz' H'=>Grow changeL 114 fz' v n H' l):=by
 have l1:=h.len;refine zF Tryz.func59 Tryz.ntmps59 (fun w0=>?_);refine zV ?_;intros;refine zG ?_;refine WI (fun eA=>?_) (fun eA=>?_)
 ·subst eA;have hl:l=[]:=by
   rcases h.elem with h0 | ⟨_,h0,_⟩
   ·exact List.eq_nil_of_length_eq_zero Zi
   cases h0
  subst hl;simp at l1;subst l1;refine zV ?_;intros;refine Yel (H':=[]) (H2:=[]) rfl rfl (Zr _) (fun fz3 hle3 _=>Grow.nil _ _ _)
 refine zV ?_;intros;refine Ya (W7 (fun gb=>?_));refine zV ?_;intros;refine Ya (WZ T (Hr:=[]) (n:=0) (l:=[]) Zz Zz Zz Zz Zz Zz Zz Zz (Zr _) (Grow.block (ys:=[]) rfl rfl (by intro p hp;cases hp) rfl) Yii h (by show _*288<=_;omega) Zi (fun v' Hs' hO'=>?_));obtain ⟨Av',cv',rfl,_,_⟩:=hO'.form;refine zV ?_;intros;refine Yel (H':=Hs') (H2:=[]) rfl rfl (by simp) (fun fz3 hle3 _=>(hO'.mono hle3).of (by simp) Zi)
theorem Ymi {c:Nat} {l:List Change} (h:Sl changeL fz A n c l) (hn:n<=100000000) (hW:∀ x∈l,x.params.length<=1000000000/\fW x.when_<=1000000000/\x.args.length<=1000000000/\eW x.value<=1000000000):
 GFn prog 19 [Zc A n c] fz [] (fun v fz' H'=>Grow changeL 114 fz' v n H' l):=by
 have l1:=h.len;refine zF Tryz.func19 Tryz.ntmps19 (fun w0=>?_);refine zW ?_;intros;refine Ya (Ym [] [] Zz (cloneC_q h hn) (fun v1 fz1 H1 hle1 hR1=>?_));rw [List.append_nil];obtain ⟨B,d,rfl,_,_⟩:=hR1.form;refine zW ?_;intros;refine Yi (fun q σ fz' H'=>∃ (k:Nat),k<=n/\q=n - k/\σ=[(10,Zk k),(9,Zk n),(8,Zc B n d),(3,Zc B n d)]/\Le fz1 fz'/\Grow changeL 114 fz' (Zc B n d) n H' l) ⟨0,Z0 _,rfl,rfl,Zd,hR1⟩ Zw (List.Sublist.refl _) ?_;rintro q σ fz2 H' ⟨k,hk,rfl,rfl,hle2,hG⟩;refine zW ?_;intros;refine zC ?_ ?_<;>intro c1
 ·obtain ⟨x,hx⟩:=Ye (l:=l) (k:=k) Zi;obtain ⟨w1,w2,w3,w4⟩:=hW x (Zm hx);obtain ⟨gk,cap,cur,e8,rfl,hB⟩:=hG.b Zi;injection e8 with e81 e82 e83
  subst e81;subst e83;obtain ⟨cs,hrx,hcx⟩:=Wf hB hx;obtain ⟨A0,n0,c0,A1,n1,c1,A2,n2,c2,A3,n3,c3,A4,n4,c4,A5,n5,c5,A6,n6,c6,A7,n7,c7,rfl,hR⟩:=Ymq hrx;obtain ⟨_,_,_,e0,i0⟩:=id hR.params;injection e0 with e01 e02 e03
  subst e01;subst e02;subst e03;obtain ⟨_,_,_,e5,i5⟩:=id hR.args;injection e5 with e51 e52 e53
  subst e51;subst e52;subst e53;have l0:=i0.len;have l5:=i5.len;refine zW ?_;intros;refine zG ?_;refine Yq rfl ?_;refine zG ?_;refine Yc (vs:=[Zk x.kind,Zc A0 n0 c0,Zy x.when_.op,Zy x.when_.name,Zc A1 n1 c1,Zc A2 n2 c2,Zc A3 n3 c3,Zc A4 n4 c4,Zy x.name,Zc A5 n5 c5,Zy x.value.op,Zy x.value.name,Zk x.value.n,Zc A6 n6 c6,Zc A7 n7 c7]) 0 ?_ (hv:=hcx);refine zWN ?_;intros;rename_i g5;refine XF [_,_] ?_;refine zW ?_;intros;refine Yk ?_;refine zW ?_;intros
  ((refine zG ?_);refine Yc (vs:=[Zy x.when_.op,Zy x.when_.name,Zc A1 n1 c1,Zc A2 n2 c2,Zc A3 n3 c3,Zc A4 n4 c4]) 0 ?_);refine Yk ?_;refine zW ?_;intros;refine Yk ?_;refine zW ?_;intros
  ((refine zG ?_);refine Yc (vs:=[Zy x.value.op,Zy x.value.name,Zk x.value.n,Zc A6 n6 c6,Zc A7 n7 c7]) 0 ?_);refine Yk ?_;refine zW ?_;intros;refine pU ?_;refine Yj (Ym [] [_,_] Zz (YaU i0 Zi) (fun v5 fz5 H5 hle5 hR5=>⟨⟨hle5,Zx⟩,?_⟩));obtain ⟨A8,c8,rfl,_,_⟩:=hR5.form;refine Yj (Ym [] (H5++ [_,_]) Zz (Yev _ (Zs _) (hR.when_.mono hle5) w2) (fun v6 fz6 H6 hle6 hR6=>⟨⟨hle5.trans hle6,Zx⟩,?_⟩));obtain ⟨rfl,wa,wp,we,wk,rfl,hR6⟩:=hR6;refine Yj (Ym [] (H5++ [_,_]) Zz (Ye6 (i5.mono (hle5.trans hle6)) Zi) (fun v7 fz7 H7 hle7 hR7=>⟨⟨hle5.trans (hle6.trans hle7),Zx⟩,?_⟩));obtain ⟨A9,c9,rfl,_,_⟩:=hR7.form;have hx7:=hle5.trans (hle6.trans hle7);refine Yj (Ym [] (H7++(H5++ [_,_])) Zz (Ymg _ (Zs _) (hR.value.mono hx7) w4) (fun v8 fz8 H8 hle8 hR8=>⟨⟨hx7.trans hle8,Zx⟩,?_⟩));obtain ⟨rfl,va,vk,rfl,hR8⟩:=hR8;obtain ⟨⟨D1,m1,d1,rfl,_⟩,⟨D2,m2,d2,rfl,_⟩,⟨D3,m3,d3,rfl,_⟩,⟨D4,m4,d4,rfl,_⟩⟩:=id hR6.sls;obtain ⟨⟨D5,m5,d5,rfl,_⟩,⟨D6,m6,d6,rfl,_⟩⟩:=id hR8.sls;refine Ch.hard0 (Does.perm perm2 (YG ?_));refine Ch.hard Zj (DoesQ.does (Yt ?_));refine Ch.hard0 (YG ?_);refine Ch.hard Zj (DoesQ.does (Yt ?_));refine Ch.hard0 (YG ?_);refine Ch.hard Zj (DoesQ.does (Yt ?_));refine Ch.hard0 (YG ?_);refine Ch.done ?_;refine Yds ?_;refine Wp.freezeAll (H1:=[_,_]) (H2:=H7++H5) (Zr _) (fun fz9 hle9 hf9=>?_);obtain ⟨A8',c8',e8,i8⟩:=hR5.sl (hle6.trans (hle7.trans (hle8.trans hle9))) (fun p hp=>hf9 p (by simp [hp])) Zi;injection e8 with e81 e82 e83
  subst e81;subst e83;obtain ⟨A9',c9',e9,i9⟩:=hR7.sl (hle8.trans hle9) (fun p hp=>hf9 p (by simp [hp])) Zi;injection e9 with e91 e92 e93
  subst e91;subst e93;have hx9:=hx7.trans (hle8.trans hle9);refine zW ?_;intros;refine zG ?_;refine Yq rfl ?_;refine Yz (YI (pre:=[_]) (L:=changeL) (j:=k) rfl rfl Yii (Yf9 ({hR with params:=i8.is,when_:=hR6.mono (hle7.trans (hle8.trans hle9)),args:=i9.is,value:=hR8.mono hle9}:ChangeR fz9 x _ _ _ _ _ _ _ _)) (hB.mono hx9) (fun cur1 hB1=>?_));refine zW ?_;intros;exact wP (h:=by exact ⟨k+1,by omega,rfl,rfl,hle2.trans hx9,hB1.grow.of (YeJ hx) rfl⟩)
 refine zW ?_;intros;obtain rfl:k=n:=by omega
 exact ret1 rfl rfl (List.Sublist.refl _) hG
theorem Yek (f:α->Bs):SWk (ltC (byC f)):=ordS.swk f
theorem Yn4 {c:Nat}:GFn prog 52 [Zc A n c] fz [] (fun r fz' H'=>fz=fz'/\∃ g,r=.func (.func 124) #[] #[Zp g]/\H'=[(g,Zu #[Zc A n c] 22)]):=by
 refine zF Tryz.func52 Tryz.ntmps52 (fun w0=>?_);refine pX (fun g1=>?_);refine zW ?_;intros;refine zG ?_;refine Yao ?_;refine zW ?_;intros;exact ret1 rfl rfl (List.Sublist.refl _) ⟨rfl,g1,rfl,rfl⟩
theorem Yi1 {c:Nat} {l:List Param} (h:Sl paramL fz A n c l) (hn:n<=1000000000):
 GFn prog 16 [Zc A n c] fz [] (fun r fz' H'=>Grow paramL 123 fz' r n H' (srtC (byC Param.name) l)):=by
 refine zF Tryz.func16 Tryz.ntmps16 (fun w0=>?_);refine zW ?_;intros;refine Ya (Ym [] [] Zz Yn4 (fun v4 fz4 H4 hle4 hR4=>?_));obtain ⟨rfl,g,rfl,rfl⟩:=hR4;refine Seq.freezeAll (H1:=[]) (H2:=[_]) (Zr _) (fun fz5 hle5 hf5=>?_);refine Ya (Ym [] [] Zz (YoV (hf5 _ (.head _)) (h.mono hle5) hn byNPa_q (Yek _)) (fun v6 fz6 H6 hle6 hR6=>?_));obtain ⟨rfl,hG⟩:=hR6;rw [List.append_nil];refine zW ?_;intros;exact ret1 rfl rfl (List.Sublist.refl _) hG
end Go.Proofs.YtiligkgjcmokbaaGreatDoor
namespace Go.Lx
variable {H:HP} {fz:FZ} {o:Oper}
theorem Yfc {P:Program} {cx:Cx} {r:Operand->Option Value} {H1 H2:HP} {K:Value->FZ->HP->Prop} (hp:H.Perm (H1++H2)) (h:∀ fz',Le fz fz'->(∀ p∈H2,fz' p.1=some p.2)->Does P cx o r fz' H1 K):Does P cx o r fz H K:=
 Does.of fun ρ w hr hi=>by
  obtain ⟨fz',a,b,c⟩:=WA H2 fz H1 (hi.perm hp.symm);exact (h fz' a b).run ρ w hr c
end Go.Lx
namespace Go.Proofs.YtiligkgjcmokbaaGreatDoor
variable {d:Domain} {fz:FZ} {v1 v2 v3 v4 v5 v6 va vb v u1 u2 u3 u4 u5 u6 u7:Value} {g n:Nat} {Hs:HP}
theorem p3a {H7 H6:HP} {a b c:Nat × Obj}:(a::b::c::(H7++H6)).Perm (a::(H7++(H6++ [b,c]))):=perm2.cons _
theorem p3b {H7 H6:HP} {a b c:Nat × Obj}:(a::b::c::(H7++H6)).Perm (H7++(a::(H6++ [b,c]))):=p3a.trans List.perm_middle.symm
theorem p3c {H7 H6:HP} {a b c:Nat × Obj}:(a::b::c::(H7++H6)).Perm (H7++(H6++ [a,b,c])):=by
 rw [show H7++(H6++ [a,b,c])=(H7++H6)++ [a,b,c] from by simp [List.append_assoc]];exact Zq (l₁:=[a,b,c])
structure CanSm (d:Domain):Prop where
 t:d.types.length<=1000000
 c:d.constants.length<=1000000
 p:d.predicates.length<=1000000
 f:d.functions.length<=1000000
 a:d.actions.length<=1000000
 u:d.duratives.length<=1000000
 pp:∀ x∈d.predicates,x.params.length<=100000000
 fp:∀ x∈d.functions,x.params.length<=100000000
 ap:∀ x∈d.actions,x.params.length<=100000000/\fW x.pre<=1000000000/\x.changes.length<=1000000/\∀ y∈x.changes,y.params.length<=1000000000/\fW y.when_<=1000000000/\y.args.length<=1000000000/\eW y.value<=1000000000
 up:∀ x∈d.duratives,x.params.length<=100000000/\fW x.start<=1000000000/\fW x.over<=1000000000/\fW x.fin<=1000000000/\x.atStart.length<=1000000/\x.atEnd.length<=1000000/\(∀ y∈x.atStart,y.params.length<=1000000000/\fW y.when_<=1000000000/\y.args.length<=1000000000/\eW y.value<=1000000000)/\∀ y∈x.atEnd,y.params.length<=1000000000/\fW y.when_<=1000000000/\y.args.length<=1000000000/\eW y.value<=1000000000
def canD (d:Domain):Domain:=⟨d.name,srtC (byC Param.name) d.types,srtC (byC Param.name) d.constants,srtC (byC Predicate.name) d.predicates,srtC (byC Function.name) d.functions,srtC (byC Action.name) d.actions,srtC (byC Durative.name) d.duratives⟩
theorem YqN (hD:DomainR fz d v1 v2 v3 v4 v5 v6) (hS:CanSm d):
 GFn prog 6 [ZD d v1 v2 v3 v4 v5 v6] fz [] (fun r fz' H'=>H'=[]/\∃ u1 u2 u3 u4 u5 u6,r=ZD d u1 u2 u3 u4 u5 u6/\DomainR fz' (canD d) u1 u2 u3 u4 u5 u6):=by
 obtain ⟨⟨A1,n1,c1,rfl,i1⟩,⟨A2,n2,c2,rfl,i2⟩,⟨A3,n3,c3,rfl,i3⟩,⟨A4,n4,c4,rfl,i4⟩,⟨A5,n5,c5,rfl,i5⟩,⟨A6,n6,c6,rfl,i6⟩⟩:=hD.sls;have l1:=i1.len;have l2:=i2.len;have l3:=i3.len;have l4:=i4.len;have l5:=i5.len;have l6:=i6.len;have s1:=hS.t;have s2:=hS.c;have s3:=hS.p;have s4:=hS.f;have s5:=hS.a;have s6:=hS.u;refine zF Tryz.func6 Tryz.ntmps6 (fun w0=>?_);refine pX (fun g1=>?_);refine Ya (Y7 (fun g2=>?_));refine zWX ?_;intros;refine Yr (YY (fun σ fz' H'=>∃ (g3:Nat) (B1 B2:Option Addr) (b1 b2:Nat),σ=[(3,Zp g3),(2,Zp g2),(1,Zp g1)]/\Le fz fz'/\
  H'=[(g3,Zu #[Zy d.name,Zc B1 n1 b1,Zc B2 n2 b2,Zn,Zn,Zn,Zn] 28),(g2,Zu #[Ze,Zn,Zn,Zn,Zn,Zn,Zn] 28),(g1,Zu #[Zy d.name,Zc A1 n1 c1,Zc A2 n2 c2,Zc A3 n3 c3,Zc A4 n4 c4,Zc A5 n5 c5,Zc A6 n6 c6] 28)]/\
  Sl paramL fz' B1 n1 b1 (srtC (byC Param.name) d.types)/\Sl paramL fz' B2 n2 b2 (srtC (byC Param.name) d.constants)) ?_ ?_)
 ·refine zWN ?_;intros;refine WP [] [_,_] ?_;refine zW ?_;intros;refine Yn ?_;refine zW ?_;intros;refine pT ?_
  repeat' first
   | refine Po.done ?_
   | (refine Yh ?_)
   | (refine XD ?_ ?_)
   | (refine Yd (i:=4) (Ym [] _ Zz (Yi1 i1 Zi) (fun v6 fz6 H6 hle6 hR6=>⟨⟨hle6,Zkx⟩,?_⟩));obtain ⟨B1,b1,rfl,_,_⟩:=hR6.form)
   | (refine Yd (i:=7) (Ym [] _ Zz (Yi1 (i2.mono hle6) Zi) (fun v7 fz7 H7 hle7 hR7=>⟨⟨hle6.trans hle7,Zkx⟩,?_⟩));obtain ⟨B2,b2,rfl,_,_⟩:=hR7.form)
   | refine PoS.qk ⟨hle6.trans hle7,Zkx⟩ (YaY ?_)
   | refine Yd (i:=9) (Y7 (fun g3=>⟨⟨Zd,Zkx⟩,?_⟩))
   | refine Yd (i:=9) (Y7 (fun g3=>⟨⟨hle6,Zkx⟩,?_⟩))
   | refine Yd (i:=9) (Y7 (fun g3=>⟨⟨hle6.trans hle7,Zkx⟩,?_⟩))
   | refine PoS.hard0 (Does.perm p3a (YG ?_))
   | refine PoS.hard0 (Does.perm p3b (YG ?_))
   | refine PoS.hard0 (Does.perm p3c (YG ?_))
  all_goals
   refine midF (σ':=[(3,Zp g3),(2,Zp g2),(1,Zp g1)]) (H':=[_,_,_]) (Zr _) (fun fz8 hle8 hf8=>?_) Zw;obtain ⟨B1',b1',e1,j1⟩:=hR6.sl (hle7.trans hle8) (fun p hp=>hf8 p (by simp [hp])) Zi;injection e1 with e11 e12 e13
   subst e11;subst e13;obtain ⟨B2',b2',e2,j2⟩:=hR7.sl hle8 (fun p hp=>hf8 p (by simp [hp])) Zi;injection e2 with e21 e22 e23
   subst e21;subst e23;exact ⟨g3,_,_,_,_,rfl,hle6.trans (hle7.trans hle8),rfl,j1,j2⟩
 rintro σ fz1 H' ⟨g3,B1,B2,b1,b2,rfl,hle1,rfl,j1,j2⟩;refine zW ?_;intros;refine Yi (fun q σ fz' H'=>∃ (k:Nat) (v:Value) (Hp:HP),k<=n3/\q=n3 - k/\σ=[(24,Zk k),(23,Zk n3),(22,Zc A3 n3 c3),(3,Zp g3),(2,Zp g2),(1,Zp g1)]/\Le fz1 fz'/\
  H'=(g3,Zu #[Zy d.name,Zc B1 n1 b1,Zc B2 n2 b2,v,Zn,Zn,Zn] 28)::(g2,Zu #[Ze,Zn,Zn,Zn,Zn,Zn,Zn] 28)::(g1,Zu #[Zy d.name,Zc A1 n1 c1,Zc A2 n2 c2,Zc A3 n3 c3,Zc A4 n4 c4,Zc A5 n5 c5,Zc A6 n6 c6] 28)::Hp/\Grow predicateL 61 fz' v k Hp (d.predicates.take k)) ⟨0,_,[],Z0 _,rfl,rfl,Zd,rfl,Grow.nil _ _ _⟩ Zw Zb ?_
 rintro q σ fz2 H' ⟨k,v,Hp,hk,rfl,rfl,hle2,rfl,hG⟩;obtain ⟨B3,b3,rfl,_,_⟩:=hG.form;refine zW ?_;intros;refine zC ?_ ?_<;>intro f1
 ·obtain ⟨x,hx⟩:=Ye (l:=d.predicates) (k:=k) Zi;have w1:=hS.pp x (Zm hx);refine zW ?_;intros;refine zI (i3.mono (hle1.trans hle2)) hx (fun p1 hp1=>?_);refine zL hp1 ?_;intro cs hcs;obtain ⟨X0,x0,y0,rfl,hR⟩:=Ycl hcs;obtain ⟨_,_,_,e0,ix⟩:=id hR.params;injection e0 with e01 e02 e03
  subst e01;subst e02;subst e03;have l0:=ix.len;refine zWN ?_;intros;rename_i g5;refine XF [_,_] ?_;refine zW ?_;intros;refine Yk (Yk (Yk (Yk ?_)));refine zW ?_;intros;refine pU ?_;refine Yj (Ym [] (_::_::_::_::Hp) Zz (YaU ix Zi) (fun v8 fz8 H8 hle8 hR8=>⟨⟨hle8,Zx⟩,?_⟩));obtain ⟨A8,c8,rfl,_,_⟩:=hR8.form;refine Ch.qk ⟨hle8,Zx⟩ (YaY ?_);refine Yj (Yfc (H1:=_::_::_::_::Hp) (H2:=H8) Zq (fun fz9 hle9 hf9=>?_));obtain ⟨A9,c9,e9,i9⟩:=hR8.sl hle9 hf9 Zi;injection e9 with e91 e92 e93
  subst e91;subst e93;refine Yb (cs:=[Zy x.name,Zc A8 x0 c8]) (fun gb=>⟨⟨hle8.trans hle9,Zx⟩,?_⟩);refine Yj (YN (Hr:=[_,_,_,_,_]) (d:=x) (Zr _) (hG.mono (hle8.trans hle9)) YeS (.head _) (YaZ ⟨hR.name,i9.is⟩) (fun v10 H10 hO10=>⟨⟨hle8.trans hle9,Zx⟩,?_⟩));obtain ⟨A10,c10,rfl,_,_⟩:=hO10.form;refine Ch.hard0 (WT ?_);refine Ch.done ?_;refine zW ?_;intros;exact Wj ⟨k+1,_,H10,by omega,rfl,rfl,hle2.trans (hle8.trans hle9),rfl,hO10.of (by rw [List.take_add_one,hx];rfl) rfl⟩ Zi Zw ((List.Sublist.refl _).cons _ |>.cons _)
 obtain rfl:n3=k:=by omega
 rw [Zl Zi] at hG;refine zW ?_;intros;refine Yi (fun q σ fz' H'=>∃ (k:Nat) (v:Value) (Hq:HP),k<=n4/\q=n4 - k/\σ=[(43,Zk k),(42,Zk n4),(41,Zc A4 n4 c4),(3,Zp g3),(2,Zp g2),(1,Zp g1)]/\Le fz2 fz'/\
  H'=(g3,Zu #[Zy d.name,Zc B1 n1 b1,Zc B2 n2 b2,Zc B3 n3 b3,v,Zn,Zn] 28)::(g2,Zu #[Ze,Zn,Zn,Zn,Zn,Zn,Zn] 28)::(g1,Zu #[Zy d.name,Zc A1 n1 c1,Zc A2 n2 c2,Zc A3 n3 c3,Zc A4 n4 c4,Zc A5 n5 c5,Zc A6 n6 c6] 28)::(Hp++Hq)/\Grow functionL 63 fz' v k Hq (d.functions.take k)) ⟨0,_,[],Z0 _,rfl,rfl,Zd,by rw [List.append_nil],Grow.nil _ _ _⟩ Zw (List.Sublist.refl _) ?_
 rintro q σ fz3 H' ⟨k,v,Hq4,hk,rfl,rfl,hle3,rfl,hG4⟩;obtain ⟨B4,b4,rfl,_,_⟩:=hG4.form;refine zW ?_;intros;refine zC ?_ ?_<;>intro f1
 ·obtain ⟨x,hx⟩:=Ye (l:=d.functions) (k:=k) Zi;have w1:=hS.fp x (Zm hx);refine zW ?_;intros;refine zI (i4.mono (hle1.trans (hle2.trans hle3))) hx (fun p1 hp1=>?_);refine zL hp1 ?_;intro cs hcs;obtain ⟨X0,x0,y0,rfl,hR⟩:=Ydb hcs;obtain ⟨_,_,_,e0,ix⟩:=id hR.params;injection e0 with e01 e02 e03
  subst e01;subst e02;subst e03;have l0:=ix.len;refine zW ?_;intros;rename_i g5;refine Ya (Ym [] (_::_::_::_::(Hp++Hq4)) Zz (YaU ix Zi) (fun v8 fz8 H8 hle8 hR8=>?_));obtain ⟨A8,c8,rfl,_,_⟩:=hR8.form;refine Seq.freezeAll (H1:=_::_::_::_::(Hp++Hq4)) (H2:=H8) Zq (fun fz9 hle9 hf9=>?_);obtain ⟨A9,c9,e9,i9⟩:=hR8.sl hle9 hf9 Zi;injection e9 with e91 e92 e93
  subst e91;subst e93;refine zW ?_;intros;refine Ya (Yb (cs:=[Zy x.name,Zc A8 x0 c8,Zk x.lo,Zk x.hi]) (fun gb=>?_));refine Ya (YN (Hr:=_::_::_::_::_::Hp) (d:=x) (Zr _) (hG4.mono (hle8.trans hle9)) Yf2 (.head _) (Ybg ⟨hR.name,i9.is,hR.lo,hR.hi⟩) (fun v10 H10 hO10=>?_));obtain ⟨A10,c10,rfl,_,_⟩:=hO10.form;refine zW ?_;intros;exact Wj ⟨k+1,_,H10,by omega,rfl,rfl,hle3.trans (hle8.trans hle9),rfl,hO10.of (by rw [List.take_add_one,hx];rfl) rfl⟩ Zi Zw ((List.Sublist.refl _).cons _ |>.cons _)
 obtain rfl:n4=k:=by omega
 rw [Zl Zi] at hG4;refine zW ?_;intros;refine Yi (fun q σ fz' H'=>∃ (k:Nat) (v:Value) (Hq:HP),k<=n5/\q=n5 - k/\σ=[(61,Zk k),(60,Zk n5),(59,Zc A5 n5 c5),(3,Zp g3),(2,Zp g2),(1,Zp g1)]/\Le fz3 fz'/\
  H'=(g3,Zu #[Zy d.name,Zc B1 n1 b1,Zc B2 n2 b2,Zc B3 n3 b3,Zc B4 n4 b4,v,Zn] 28)::(g2,Zu #[Ze,Zn,Zn,Zn,Zn,Zn,Zn] 28)::(g1,Zu #[Zy d.name,Zc A1 n1 c1,Zc A2 n2 c2,Zc A3 n3 c3,Zc A4 n4 c4,Zc A5 n5 c5,Zc A6 n6 c6] 28)::((Hp++Hq4)++Hq)/\Grow actionL 52 fz' v k Hq (d.actions.take k)) ⟨0,_,[],Z0 _,rfl,rfl,Zd,by rw [List.append_nil],Grow.nil _ _ _⟩ Zw (List.Sublist.refl _) ?_
 rintro q σ fz4 H' ⟨k,v,Hq5,hk,rfl,rfl,hle4,rfl,hG5⟩;obtain ⟨B5,b5,rfl,_,_⟩:=hG5.form;refine zW ?_;intros;refine zC ?_ ?_<;>intro f1
 ·obtain ⟨x,hx⟩:=Ye (l:=d.actions) (k:=k) Zi;obtain ⟨w1,w2,w3,w4⟩:=hS.ap x (Zm hx);refine zW ?_;intros;refine zI (i5.mono (hle1.trans (hle2.trans (hle3.trans hle4)))) hx (fun p1 hp1=>?_);refine zL hp1 ?_;intro cs hcs;obtain ⟨X0,x0,y0,X1,x1,y1,X2,x2,y2,X3,x3,y3,X4,x4,y4,X5,x5,y5,rfl,hR⟩:=YeA hcs;obtain ⟨_,_,_,e0,ix⟩:=id hR.params;injection e0 with e01 e02 e03
  subst e01;subst e02;subst e03;obtain ⟨_,_,_,e5,iy⟩:=id hR.changes;injection e5 with e51 e52 e53
  subst e51;subst e52;subst e53;have l0:=ix.len;have l5':=iy.len;refine zWN ?_;intros;rename_i g5;refine XF [_,_] ?_;refine zW ?_;intros;refine Yk ?_;refine zW ?_;intros
  ((refine zG ?_);refine Yc (vs:=[Zy x.pre.op,Zy x.pre.name,Zc X1 x1 y1,Zc X2 x2 y2,Zc X3 x3 y3,Zc X4 x4 y4]) 0 ?_);refine Yk ?_;refine zW ?_;intros;refine Yk ?_;refine zW ?_;intros;refine pU ?_;refine Yj (Ym [] (_::_::_::_::(Hp++Hq4++Hq5)) Zz (YaU ix Zi) (fun v8 fz8 H8 hle8 hR8=>⟨⟨hle8,Zx⟩,?_⟩));obtain ⟨A8,c8,rfl,_,_⟩:=hR8.form;refine Yj (Ym [] (H8++_::_::_::_::(Hp++Hq4++Hq5)) Zz (Yev _ (Zs _) (hR.pre.mono hle8) w2) (fun v9 fz9 H9 hle9 hR9=>⟨⟨hle8.trans hle9,Zx⟩,?_⟩));obtain ⟨rfl,wa,wp,we,wk,rfl,hR9⟩:=hR9;obtain ⟨⟨D1,m1,d1,rfl,_⟩,⟨D2,m2,d2,rfl,_⟩,⟨D3,m3,d3,rfl,_⟩,⟨D4,m4,d4,rfl,_⟩⟩:=id hR9.sls;refine Yj (Ym [] (H8++_::_::_::_::(Hp++Hq4++Hq5)) Zz (Ymi (iy.mono (hle8.trans hle9)) Zi w4) (fun v10 fz10 H10 hle10 hR10=>⟨⟨hle8.trans (hle9.trans hle10),Zx⟩,?_⟩));obtain ⟨A9,c9,rfl,_,_⟩:=hR10.form;refine Ch.hard0 (Yfc (H1:=_::_::_::_::(Hp++Hq4++Hq5)) (H2:=H10++H8) (by rw [<- List.append_assoc];exact Zq) (fun fz11 hle11 hf11=>?_));obtain ⟨A8',c8',e8,i8⟩:=hR8.sl (hle9.trans (hle10.trans hle11)) (fun p hp=>hf11 p (by simp [hp])) Zi;injection e8 with e81 e82 e83
  subst e81;subst e83;obtain ⟨A9',c9',e9,i9⟩:=hR10.sl hle11 (fun p hp=>hf11 p (by simp [hp])) Zi;injection e9 with e91 e92 e93
  subst e91;subst e93;refine YG ?_;refine Ch.hard Zj (DoesQ.does (Yt ?_));refine Ch.hard0 (YG ?_);refine Ch.hard Zj (DoesQ.does (Yt ?_));refine Ch.hard0 (YG ?_);refine Ch.done ?_;have hx11:=hle8.trans (hle9.trans (hle10.trans hle11));refine zW ?_;intros;refine Ya (Yb (cs:=[Zy x.name,Zc A8 x0 c8,Zk x.cost,Zy x.pre.op,Zy x.pre.name,Zc D1 m1 d1,Zc D2 m2 d2,Zc D3 m3 d3,Zc D4 m4 d4,Zc A9 x5 c9]) (fun gb=>?_));refine Ya (YN (Hr:=_::_::_::_::_::(Hp++Hq4)) (d:=x) (Zr _) (hG5.mono hx11) Yij (.head _) (We ({hR with params:=i8.is,pre:=hR9.mono (hle10.trans hle11),changes:=i9.is}:ActionR fz11 x _ _ _ _ _ _)) (fun v12 H12 hO12=>?_));obtain ⟨A12,c12,rfl,_,_⟩:=hO12.form;refine zW ?_;intros;exact Wj ⟨k+1,_,H12,by omega,rfl,rfl,hle4.trans hx11,rfl,hO12.of (by rw [List.take_add_one,hx];rfl) rfl⟩ Zi Zw ((List.Sublist.refl _).cons _ |>.cons _)
 obtain rfl:n5=k:=by omega
 rw [Zl Zi] at hG5;refine zW ?_;intros;refine Yi (fun q σ fz' H'=>∃ (k:Nat) (v:Value) (Hq:HP),k<=n6/\q=n6 - k/\σ=[(87,Zk k),(86,Zk n6),(85,Zc A6 n6 c6),(3,Zp g3),(2,Zp g2)]/\Le fz4 fz'/\
  H'=(g3,Zu #[Zy d.name,Zc B1 n1 b1,Zc B2 n2 b2,Zc B3 n3 b3,Zc B4 n4 b4,Zc B5 n5 b5,v] 28)::(g2,Zu #[Ze,Zn,Zn,Zn,Zn,Zn,Zn] 28)::(g1,Zu #[Zy d.name,Zc A1 n1 c1,Zc A2 n2 c2,Zc A3 n3 c3,Zc A4 n4 c4,Zc A5 n5 c5,Zc A6 n6 c6] 28)::((Hp++Hq4++Hq5)++Hq)/\Grow durativeL 55 fz' v k Hq (d.duratives.take k)) ⟨0,_,[],Z0 _,rfl,rfl,Zd,by rw [List.append_nil],Grow.nil _ _ _⟩ Zw (List.Sublist.refl _) ?_
 rintro q σ fz5 H' ⟨k,v,Hq6,hk,rfl,rfl,hle5,rfl,hG6⟩;obtain ⟨B6,b6,rfl,_,_⟩:=hG6.form;refine zW ?_;intros;refine zC ?_ ?_<;>intro f1
 ·obtain ⟨x,hx⟩:=Ye (l:=d.duratives) (k:=k) Zi;obtain ⟨w1,w2,w3,w4,w5,w6,w7,w8⟩:=hS.up x (Zm hx);refine zW ?_;intros;refine zI (i6.mono (hle1.trans (hle2.trans (hle3.trans (hle4.trans hle5))))) hx (fun p1 hp1=>?_);refine zL hp1 ?_;intro cs hcs;obtain ⟨X0,x0,y0,X1,x1,y1,X2,x2,y2,X3,x3,y3,X4,x4,y4,X5,x5,y5,X6,x6,y6,X7,x7,y7,X8,x8,y8,X9,x9,y9,X10,x10,y10,X11,x11,y11,X12,x12,y12,X13,x13,y13,X14,x14,y14,rfl,hR⟩:=Ydd hcs;obtain ⟨_,_,_,e0,ix⟩:=id hR.params;injection e0 with e01 e02 e03
  subst e01;subst e02;subst e03;obtain ⟨_,_,_,e5,iy⟩:=id hR.atStart;injection e5 with e51 e52 e53
  subst e51;subst e52;subst e53;obtain ⟨_,_,_,e6,iz⟩:=id hR.atEnd;injection e6 with e61 e62 e63
  subst e61;subst e62;subst e63;have l0:=ix.len;have l13:=iy.len;have l14:=iz.len;refine zWN ?_;intros;rename_i g5;refine XF [_,_] ?_;refine zW ?_;intros;refine Yk ?_;refine zW ?_;intros
  ((refine zG ?_);refine Yc (vs:=[Zy x.start.op,Zy x.start.name,Zc X1 x1 y1,Zc X2 x2 y2,Zc X3 x3 y3,Zc X4 x4 y4]) 0 ?_);refine Yk ?_;refine zW ?_;intros
  ((refine zG ?_);refine Yc (vs:=[Zy x.over.op,Zy x.over.name,Zc X5 x5 y5,Zc X6 x6 y6,Zc X7 x7 y7,Zc X8 x8 y8]) 0 ?_);refine Yk ?_;refine zW ?_;intros
  ((refine zG ?_);refine Yc (vs:=[Zy x.fin.op,Zy x.fin.name,Zc X9 x9 y9,Zc X10 x10 y10,Zc X11 x11 y11,Zc X12 x12 y12]) 0 ?_);refine Yk ?_;refine zW ?_;intros;refine pU ?_;refine Yj (Ym [] (_::_::_::_::(Hp++Hq4++Hq5++Hq6)) Zz (YaU ix Zi) (fun v8 fz8 H8 hle8 hR8=>⟨⟨hle8,Zx⟩,?_⟩));obtain ⟨A8,c8,rfl,_,_⟩:=hR8.form;refine Yj (Ym [] (H8++_::_::_::_::(Hp++Hq4++Hq5++Hq6)) Zz (Yev _ (Zs _) (hR.start.mono hle8) w2) (fun v9 fz9 H9 hle9 hR9=>⟨⟨hle8.trans hle9,Zx⟩,?_⟩));obtain ⟨rfl,wSa,wSp,wSe,wSk,rfl,hR9⟩:=hR9;obtain ⟨⟨S1,mS1,eS1,rfl,_⟩,⟨S2,mS2,eS2,rfl,_⟩,⟨S3,mS3,eS3,rfl,_⟩,⟨S4,mS4,eS4,rfl,_⟩⟩:=id hR9.sls;refine Yj (Ym [] (H8++_::_::_::_::(Hp++Hq4++Hq5++Hq6)) Zz (Yev _ (Zs _) (hR.over.mono (hle8.trans hle9)) w3) (fun v10 fz10 H10 hle10 hR10=>⟨⟨hle8.trans (hle9.trans hle10),Zx⟩,?_⟩));obtain ⟨rfl,wOa,wOp,wOe,wOk,rfl,hR10⟩:=hR10;obtain ⟨⟨O1,mO1,eO1,rfl,_⟩,⟨O2,mO2,eO2,rfl,_⟩,⟨O3,mO3,eO3,rfl,_⟩,⟨O4,mO4,eO4,rfl,_⟩⟩:=id hR10.sls;have hx10:=hle8.trans (hle9.trans hle10);refine Yj (Ym [] (H8++_::_::_::_::(Hp++Hq4++Hq5++Hq6)) Zz (Yev _ (Zs _) (hR.fin.mono hx10) w4) (fun v11 fz11 H11 hle11 hR11=>⟨⟨hx10.trans hle11,Zx⟩,?_⟩));obtain ⟨rfl,wEa,wEp,wEe,wEk,rfl,hR11⟩:=hR11;obtain ⟨⟨E1,mE1,eE1,rfl,_⟩,⟨E2,mE2,eE2,rfl,_⟩,⟨E3,mE3,eE3,rfl,_⟩,⟨E4,mE4,eE4,rfl,_⟩⟩:=id hR11.sls;refine Ch.hard0 (Yfc (H1:=_::_::_::_::(Hp++Hq4++Hq5++Hq6)) (H2:=H8) (Zq (l₁:=H8) (l₂:=_::_::_::_::(Hp++Hq4++Hq5++Hq6))) (fun fz12 hle12 hf12=>?_));obtain ⟨A8',c8',e8,i8⟩:=hR8.sl (hle9.trans (hle10.trans (hle11.trans hle12))) hf12 Zi;injection e8 with e81 e82 e83
  subst e81;subst e83;refine YG ?_;refine Ch.hard Zj (DoesQ.does (Yt ?_));refine Ch.hard0 (YG ?_);refine Ch.hard Zj (DoesQ.does (Yt ?_));refine Ch.hard0 (YG ?_);refine Ch.hard Zj (DoesQ.does (Yt ?_));refine Ch.hard0 (YG ?_);refine Ch.done ?_;have hx12:=hx10.trans (hle11.trans hle12);refine zWN ?_;intros;refine XF [_,_] ?_;refine zW ?_;intros;refine Yk ?_;refine zW ?_;intros;refine Yk ?_;refine zW ?_;intros;refine pU ?_;refine Yj (Ym [] (_::_::_::_::(Hp++Hq4++Hq5++Hq6)) Zz (Ymi (iy.mono hx12) Zi w7) (fun v13 fz13 H13 hle13 hR13=>⟨⟨hle13,Zx⟩,?_⟩));obtain ⟨A13,c13,rfl,_,_⟩:=hR13.form;refine Yj (Ym [] (H13++_::_::_::_::(Hp++Hq4++Hq5++Hq6)) Zz (Ymi (iz.mono (hx12.trans hle13)) Zi w8) (fun v14 fz14 H14 hle14 hR14=>⟨⟨hle13.trans hle14,Zx⟩,?_⟩));obtain ⟨A14,c14,rfl,_,_⟩:=hR14.form;refine Ch.hard0 (Yfc (H1:=_::_::_::_::(Hp++Hq4++Hq5++Hq6)) (H2:=H14++H13) (by rw [<- List.append_assoc];exact Zq) (fun fz15 hle15 hf15=>?_));obtain ⟨A13',c13',e13,i13⟩:=hR13.sl (hle14.trans hle15) (fun p hp=>hf15 p (by simp [hp])) Zi;injection e13 with e131 e132 e133
  subst e131;subst e133;obtain ⟨A14',c14',e14,i14⟩:=hR14.sl hle15 (fun p hp=>hf15 p (by simp [hp])) Zi;injection e14 with e141 e142 e143
  subst e141;subst e143;refine YG ?_;refine Ch.hard Zj (DoesQ.does (Yt ?_));refine Ch.hard0 (YG ?_);refine Ch.done ?_;have hy15:=hle13.trans (hle14.trans hle15);have hx15:=hx12.trans hy15;refine zW ?_;intros;refine Ya (Yb (cs:=[Zy x.name,Zc A8 x0 c8,Zk x.duration,Zy x.start.op,Zy x.start.name,Zc S1 mS1 eS1,Zc S2 mS2 eS2,Zc S3 mS3 eS3,Zc S4 mS4 eS4,Zy x.over.op,Zy x.over.name,Zc O1 mO1 eO1,Zc O2 mO2 eO2,Zc O3 mO3 eO3,Zc O4 mO4 eO4,Zy x.fin.op,Zy x.fin.name,Zc E1 mE1 eE1,Zc E2 mE2 eE2,Zc E3 mE3 eE3,Zc E4 mE4 eE4,Zc A13 x13 c13,Zc A14 x14 c14]) (fun gb=>?_));refine Ya (YN (Hr:=_::_::_::_::_::(Hp++Hq4++Hq5)) (d:=x) (Zr _) (hG6.mono hx15) Yf3 (.head _) (YX ({hR with params:=(i8.mono hy15).is,start:=hR9.mono (hle10.trans (hle11.trans (hle12.trans hy15))),over:=hR10.mono (hle11.trans (hle12.trans hy15)),fin:=hR11.mono (hle12.trans hy15),atStart:=i13.is,atEnd:=i14.is}:DurativeR fz15 x _ _ _ _ _ _ _ _ _ _ _ _ _ _ _)) (fun v16 H16 hO16=>?_));obtain ⟨A16,c16,rfl,_,_⟩:=hO16.form;refine zW ?_;intros;exact Wj ⟨k+1,_,H16,by omega,rfl,rfl,hle5.trans hx15,rfl,hO16.of (by rw [List.take_add_one,hx];rfl) rfl⟩ Zi Zw ((List.Sublist.refl _).cons _ |>.cons _)
 obtain rfl:n6=k:=by omega
 rw [Zl Zi] at hG6;have hG':=hG.mono (hle3.trans (hle4.trans hle5));have hG4':=hG4.mono (hle4.trans hle5);have hG5':=hG5.mono hle5;refine zW ?_;intros;refine Ya (Does.perm (H':=Hp++(_::_::_::(Hq4++Hq5++Hq6))) (by simp only [List.append_assoc];exact List.perm_append_comm_assoc Hp [_,_,_] _) (Ym Hp _ rfl (Yfk .pr hG' byNPr_q (Yek _) Zi) (fun v20 fz20 H20 hle20 hR20=>?_)));obtain ⟨rfl,hG20⟩:=hR20;refine Seq.freezeAll (H1:=_::_::_::(Hq4++Hq5++Hq6)) (H2:=H20) Zq (fun fz21 hle21 hf21=>?_);obtain ⟨B3',b3',e3,k3⟩:=hG20.sl hle21 hf21 Zi;injection e3 with e31 e32 e33
 subst e31;subst e33;refine zW ?_;intros;refine Ya (Does.perm (H':=Hq4++(_::_::_::(Hq5++Hq6))) (by simp only [List.append_assoc];exact List.perm_append_comm_assoc Hq4 [_,_,_] _) (Ym Hq4 _ rfl (Yfk .fu (hG4'.mono hle21) byNFu_q (Yek _) Zi) (fun v22 fz22 H22 hle22 hR22=>?_)));obtain ⟨rfl,hG22⟩:=hR22;refine Seq.freezeAll (H1:=_::_::_::(Hq5++Hq6)) (H2:=H22) Zq (fun fz23 hle23 hf23=>?_);obtain ⟨B4',b4',e4,k4⟩:=hG22.sl hle23 hf23 Zi;injection e4 with e41 e42 e43
 subst e41;subst e43;refine zW ?_;intros;refine Ya (Does.perm (H':=Hq5++(_::_::_::Hq6)) (List.perm_append_comm_assoc Hq5 [_,_,_] _) (Ym Hq5 _ rfl (Yfk .ac (hG5'.mono (hle21.trans hle23)) byNAc_q (Yek _) Zi) (fun v24 fz24 H24 hle24 hR24=>?_)));obtain ⟨rfl,hG24⟩:=hR24;refine Seq.freezeAll (H1:=_::_::_::Hq6) (H2:=H24) Zq (fun fz25 hle25 hf25=>?_);obtain ⟨B5',b5',e5,k5⟩:=hG24.sl hle25 hf25 Zi;injection e5 with e51 e52 e53
 subst e51;subst e53;refine zW ?_;intros;refine Ya (Does.perm (H':=Hq6++ [_,_,_]) (Zq (l₁:=Hq6)) (Ym Hq6 _ rfl (Yfk .du (hG6.mono (hle21.trans (hle23.trans hle25))) byNDu_q (Yek _) Zi) (fun v26 fz26 H26 hle26 hR26=>?_)));obtain ⟨rfl,hG26⟩:=hR26;refine Seq.freezeAll (H1:=[_,_,_]) (H2:=H26) Zq (fun fz27 hle27 hf27=>?_);obtain ⟨B6',b6',e6,k6⟩:=hG26.sl hle27 hf27 Zi;injection e6 with e61 e62 e63
 subst e61;subst e63;refine zW ?_;intros;refine XJ (i:=1) rfl (fun fz28 hle28 hf28=>?_);have z0:=hle23.trans (hle25.trans (hle27.trans hle28));have z1:=hle2.trans (hle3.trans (hle4.trans (hle5.trans (hle21.trans z0))));exact ⟨rfl,_,_,_,_,_,_,rfl,⟨hD.name,(j1.mono z1).is,(j2.mono z1).is,(k3.mono z0).is,(k4.mono (hle25.trans (hle27.trans hle28))).is,(k5.mono (hle27.trans hle28)).is,(k6.mono hle28).is⟩⟩
theorem Yph {a b:Atom} (ha:AtomR fz a va) (hb:AtomR fz b vb):
 QFn prog 68 [.agg #[Zy a.name,va],.agg #[Zy b.name,vb]] fz (Zo (decide (a=b))):=by
 obtain ⟨A,n,c,rfl,ia⟩:=ha.args;obtain ⟨B,m,d,rfl,ib⟩:=hb.args;refine qF Tryz.func68 Tryz.ntmps68 (fun w0=>?_);refine pX (fun g0=>?_);refine pY (fun g1=>?_);refine zW ?_;intros;refine zC ?_ ?_<;>intro e1
 ·refine zW ?_;intros;refine zb (Yjt ia ib) (fun f1=>?_) (fun f1=>?_)
  ·refine zW ?_;intros;exact wR (h:=by exact Yu (atom_eta e1 (Zt f1)))
  refine zW ?_;intros;exact wR (h:=by exact Yl (fun h=>Zf f1 (by rw [h])))
 refine zW ?_;intros;exact wR (h:=by exact Yl (fun h=>e1 (by rw [h])))
theorem Yn2 {cap:Nat} {cur:List Value} {l:List Atom} {t:TypeId} (hB:GrowB atomL t fz g n cap cur l) (hn:0<n) (hn2:n<=2000000):
 GFn prog 67 [Zv g n cap,.func (.func 68) #[] #[]] fz [(g,Zu cur.toArray t)]
  (fun r fz' H'=>fz=fz'/\∃ m cur',r=Zv g m cap/\H'=[(g,Zu (List.toArray cur') t)]/\GrowB atomL t fz g m cap cur' (cptM l)):=by
 have hl:=hB.len;have hcn:=hB.capn;have hcs:=hB.size;have hmax:=hB.max;unfold maxLen at hmax;have hz:atomL.size=2:=rfl
 -- an atom of the row,as1 it lies there
 have look:∀ {cur':List Value} {l':List Atom} {m i:Nat} {a:Atom},GrowB atomL t fz g m cap cur' l'->l'[i]?=some a->∃ A n c,AtomR fz a (Zc A n c)/\∀ {j:Nat},j=i*2->(cur'.drop j).take 2=[Zy a.name,Zc A n c]:=by
  intro cur' l' m i a hb ha;obtain ⟨cs,hr,hc⟩:=Wf hb ha;obtain ⟨va,rfl,hR⟩:=XA hr;obtain ⟨A,n,c,rfl,_⟩:=id hR.args;exact ⟨A,n,c,hR,fun hj=>by subst hj;exact hc⟩
 refine zF Tryz.func67 Tryz.ntmps67 (fun w0=>?_);refine zW ?_;intros;refine zC ?_ ?_<;>intro c1
 ·have h1:n=1:=by omega
  obtain ⟨x,hx⟩:=Ye (l:=l) (k:=0) Zi;have hcp:cptM l=l:=by
   unfold cptM;rw [hl,h1,YjA hx (.inl rfl),cpt]
   match l,hl,hx with
   | [y],_,hx=>simpa using hx.symm
   | [],hl,_=>simp at hl;omega
   | _::_::_,hl,_=>simp at hl;omega
  refine zW ?_;intros;exact wR (h:=by exact ⟨rfl,n,cur,rfl,rfl,by rw [hcp];exact hB⟩)
 refine zW ?_;intros;refine Yi (fun q σ fz' H'=>∃ k:Nat,1<=k/\k<=n/\q=n - k/\σ=[(5,Zk k),(0,Zv g n cap),(1,.func (.func 68) #[] #[])]/\fz=fz'/\H'=[(g,Zu cur.toArray t)]/\cpt l k=l.take k) ⟨1,Zs _,by omega,rfl,rfl,rfl,rfl,?_⟩ Zw Zb ?_
 ·obtain ⟨x,hx⟩:=Ye (l:=l) (k:=0) Zi;rw [YjA hx (.inl rfl),cpt,List.take_add_one,hx];rfl
 rintro q σ fz' H' ⟨k,hk1,hk,rfl,rfl,rfl,rfl,hcp⟩;refine zW ?_;intros;refine zC ?_ ?_<;>intro c2
 ·obtain ⟨x,hx⟩:=Ye (l:=l) (k:=k) Zi;obtain ⟨y,hy⟩:=Ye (l:=l) (k:=k - 1) Zi;obtain ⟨Ax,nx,cx,hRx,hcx⟩:=look hB hx;obtain ⟨Ay,ny,cy,hRy,hcy⟩:=look hB hy;refine zW ?_;intros;refine zG ?_;refine Yq rfl ?_;refine zG ?_;refine Yc (vs:=[Zy x.name,Zc Ax nx cx]) 0 ?_ (hv:=hcx (j:=(k:Int).toNat*2) Zi);refine zW ?_;intros;refine zG ?_;refine Yq rfl ?_;refine zG ?_;refine Yc (vs:=[Zy y.name,Zc Ay ny cy]) 0 ?_ (hv:=hcy (j:=((k:Int) - 1).toNat*2) Zi);refine zW ?_;intros
  ((refine zG ?_);refine Yah Zz Zz Zz (Yph hRx hRy) (fun f1=>?_) (fun f1=>?_))
  ·have exy:x=y:=f1;subst exy;have hcp1:cpt l (k+1)=l.take k:=by rw [Yny Zi hx hy,hcp]
   refine zW ?_;intros;refine zG ?_;refine YfZ (z:=2) rfl ?_;refine zW ?_;intros;refine Yi (fun q σ fz' H'=>∃ (j m:Nat) (cur1:List Value),1<=j/\k+j<=n/\q=n - (k+j)/\m<k+j/\σ=[(7,Zk j),(6,Zc (some ⟨g,k*2,none⟩) (n - k) (cap - k)),(5,Zk m),(0,Zv g n cap),(1,.func (.func 68) #[] #[])]/\fz=fz'/\H'=[(g,Zu cur1.toArray t)]/\(cpt l (k+j)).length=m/\GrowB atomL t fz g n cap cur1 (cpt l (k+j)++l.drop m)) ⟨1,k,cur,Zs _,by omega,rfl,by omega,rfl,rfl,rfl,by rw [hcp1,List.length_take];omega,by rw [hcp1,List.take_append_drop];exact hB⟩ Zw Zb ?_;rintro q σ fz' H' ⟨j,m,cur1,hj1,hj,rfl,hm,rfl,rfl,rfl,hcl,hB1⟩;have hat:∀ i,m<=i->(cpt l (k+j)++l.drop m)[i]?=l[i]?:=fun i hi=>by
    rw [List.getElem?_append_right Zi,hcl,List.getElem?_drop,show m+(i - m)=i by omega]
   have hs1:=hB1.size;refine zW ?_;intros;refine zC ?_ ?_<;>intro c3
   ·obtain ⟨u,hu⟩:=Ye (l:=l) (k:=k+j) Zi;obtain ⟨v,hv⟩:=Ye (l:=l) (k:=k+j - 1) Zi;obtain ⟨Au,nu,cu,hRu,hcu⟩:=look hB1 ((hat (k+j) Zi).trans hu);obtain ⟨Av,nv,cv,hRv,hcv⟩:=look hB1 ((hat (k+j - 1) Zi).trans hv);refine zW ?_;intros;refine zG ?_;refine Ydz rfl ?_;refine zG ?_;refine Yc (vs:=[Zy u.name,Zc Au nu cu]) 0 ?_ (hv:=hcu (j:=(k+(j:Int).toNat)*2) Zi);refine zW ?_;intros;refine zG ?_;refine Ydz rfl ?_;refine zG ?_;refine Yc (vs:=[Zy v.name,Zc Av nv cv]) 0 ?_ (hv:=hcv (j:=(k+((j:Int) - 1).toNat)*2) Zi);refine zW ?_;intros
    ((refine zG ?_);refine Yah Zz Zz Zz (Yph hRu hRv) (fun f2=>?_) (fun f2=>?_))
    ·have euv:u=v:=f2;subst euv;have hc2:cpt l (k+j+1)=cpt l (k+j):=Yny Zi hu hv;refine zW ?_;intros;exact wP (h:=by exact ⟨j+1,m,cur1,by omega,by omega,rfl,by omega,rfl,rfl,rfl,by rw [<- Nat.add_assoc,hc2];exact hcl,by rw [<- Nat.add_assoc,hc2];exact hB1⟩)
    have euv:¬u=v:=f2;have hc2:cpt l (k+j+1)=cpt l (k+j)++ [u]:=YjA hu (.inr (by rw [hv];intro h;injection h with h;exact euv h.symm));have hset:(cpt l (k+j)++l.drop m).set m u=cpt l (k+j)++ [u]++l.drop (m+1):=by
     rw [List.set_append_right _ _ Zi,hcl,Nat.sub_self,List.drop_eq_getElem_cons Zi,List.set_cons_zero];simp
    refine zW ?_;intros;refine zG ?_;refine Ydz rfl ?_;refine zG ?_;refine Yc (vs:=[Zy u.name,Zc Au nu cu]) 0 ?_ (hv:=hcu (j:=(k+(j:Int).toNat)*2) Zi);refine zW ?_;intros;refine zG ?_;refine Yq rfl ?_;refine Yz (YI (pre:=[]) (L:=atomL) (j:=m) rfl rfl YnG (YbQ hRu) hB1 (fun cur2 hB2=>?_));refine zW ?_;intros;exact wP (h:=by exact ⟨j+1,m+1,cur2,by omega,by omega,rfl,by omega,rfl,rfl,rfl,by rw [<- Nat.add_assoc,hc2,List.length_append,hcl];rfl,by rw [<- Nat.add_assoc,hc2,<- hset];exact hB2⟩)
   have hkj:k+j=n:=by omega
   refine zW ?_;intros;refine zG ?_;refine YfZ (z:=2) rfl ?_;refine Yz (k_clear T (pre:=[]) (z:=2) Zz Zz Zz rfl rfl Zi Zz Zi rfl (by rw [hs1,hz];omega) (fun cur3 hl3 ht3=>?_));refine zW ?_;intros;refine zG ?_;refine Ypd T Zz Zz Zz Zz Zz Zi ?_;refine zW ?_;intros;rw [hkj] at hcl hB1;exact wR (h:=by exact ⟨rfl,m,cur3,rfl,rfl,by unfold cptM;rw [hl];exact hB1.cut hcl hl3 ht3⟩)
  have exy:¬x=y:=f1;refine zW ?_;intros;exact wP (h:=by exact ⟨k+1,by omega,by omega,rfl,rfl,rfl,rfl,by rw [YjA hx (.inr (by rw [hy];intro h;injection h with h;exact exy h.symm)),hcp,List.take_add_one,hx];rfl⟩)
 have hk2:n=k:=by omega
 subst hk2;refine zW ?_;intros;exact wR (h:=by exact ⟨rfl,n,cur,rfl,rfl,by unfold cptM;rw [hl,hcp,Zl Zi];exact hB⟩)
section
variable [Dr]
theorem Yn1 {fz:FZ} {a b:Atom} {va vb:Value} (ha:AtomR fz a va) (hb:AtomR fz b vb):GFn prog 66 [.agg #[Zy a.name,va],.agg #[Zy b.name,vb]] fz [] (fun r fz' H'=>H'=[]/\r=Zk (cmpA a b)):=by
 obtain ⟨A,n,c,rfl,ia⟩:=ha.args;obtain ⟨B,m,d,rfl,ib⟩:=hb.args;refine zF Tryz.func66 Tryz.ntmps66 (fun w0=>?_);refine pX (fun g0=>?_);refine pY (fun g1=>?_);refine zWN ?_;intros;refine XF [_,_] ?_;refine zW ?_;intros;refine zc (cmpS_q (a:=a.name) (b:=b.name)) ?_;refine zW ?_;intros;refine zc (cmpL_q ia ib) ?_;refine pU ?_;refine Yj (Yb (cs:=[Zk (cmpS a.name b.name),Zk (cmpL a.args b.args)]) (fun gb=>⟨⟨Zd,Zx⟩,?_⟩));refine Yj (Ym [_] [_,_] Zz (or_f (Ymk _ _) (Yml _ _) ⟨Zs _,by decide⟩) (fun v2 fz2 H2 hle2 hR2=>?_));obtain ⟨rfl,rfl⟩:=hR2;refine ⟨⟨hle2,Zx⟩,?_⟩;refine Ch.q (YV ⟨⟨hle2,Zx⟩,?_⟩);refine Ch.done ?_;refine zW ?_;intros;exact YnW rfl rfl (fun fz3 hle3 hf3=>⟨rfl,rfl⟩)
end
theorem psort_f {cap:Nat} {cur:List Value} {l:List Atom} {t:TypeId} (hB:GrowB atomL t fz g n cap cur l) (hn:0<n) (hn2:n<=2000000):
 GFn prog 65 [Zv g n cap,.func (.func 66) #[] #[]] fz [(g,Zu cur.toArray t)]
  (fun r fz' H'=>r=.tuple #[]/\fz=fz'/\∃ cur' l',H'=[(g,Zu (List.toArray cur') t)]/\GrowB atomL t fz g n cap cur' l'/\l'.Perm l/\YjQ cmpA l'):=
 sortG Yfa rfl ⟨_,Tryz.func65,by decide,by decide⟩ YnG (z:=2) rfl Zh
  (fun W=>(Go.Lx.run_isAgg T (t:=77) rfl W).trans rfl) (fun W=>(Go.Lx.run_sizeOf T (t:=77) rfl W).trans rfl) (fun f=>ordA.swo f)
  (enters_of Tryz.func66 Zj rfl) (fun ha hb=>by
   obtain ⟨va,rfl,hA⟩:=XA ha;obtain ⟨vb,rfl,hB⟩:=XA hb;exact @Yn1 drT _ _ _ _ _ hA hB) hB hn hn2
theorem YkU {f:FuncId} {args:List Value} {R:Value->FZ->HP->Prop} (h:QFn prog f args fz v) (hc:Ya4 prog f) (hR:R v fz []):GFn prog f args fz [] R:=
 GFn.of hc fun w hw=>(h.out w hw).mono fun e w' ⟨he,hf⟩=>⟨v,fz,[],he,hR,⟨fun b o hb=>by
  have h1:=hw.keep b o hb;rw [hf.block b (lt_of_heap h1) (by simp)];exact h1,by simp,by simp⟩,hf,⟨fun _ _ h=>h,fun _ _ _=>rfl,by simp⟩⟩
def GrowZ {α:Type} (L:Lay α) (e:Nat) (fz:FZ) (v:Value) (n:Nat) (Hs:HP) (l:List α):Prop:=(n=0->v=Zn/\Hs=[])/\Grow L e fz v n Hs l
def CptS (l:List Atom):Prop:=l.Nodup/\Ymv l
theorem Ylb {l:List Atom} (h:Ymv l):∀ i,(cpt l i).Nodup
 | 0=>List.nodup_nil
 | i+1=>by
  have ih:=Ylb h i;rw [cpt];split
  ·exact ih
  rename_i x hx;split
  ·exact ih
  rename_i hc;refine List.nodup_append.2 ⟨ih,by simp,fun y hy z hz e=>?_⟩;simp at hz;subst hz;subst e;obtain ⟨j,hj⟩:=List.getElem?_of_mem ((Ymf i).1 hy);have hji:j<i:=by
   have:=(Zg hj).1;rw [List.length_take] at this;omega
  rw [List.getElem?_take_of_lt hji] at hj;have hlt:=(Zg hx).1;obtain ⟨w,hw⟩:=Ye (l:=l) (k:=i - 1) Zi;have h1:=h (i - 1) i w y Zi hw hx;have h2:¬cmpA w y<0:=by
   by_cases e:j=i - 1
   ·subst e;rw [hj] at hw;injection hw with hw;subst hw;exact h1
   exact h j (i - 1) y w Zi hj hw
  have h3:¬0<cmpA w y:=fun h3=>h1 ((ordA.anti y w).2 h3)
  have e:=ordA.eq0 w y Zi;subst e;exact hc ⟨by omega,hw⟩
theorem cptS_of {l0:List Atom} (h:Ymv l0):CptS (cptM l0):=by
 refine ⟨Ylb h _,?_⟩;have hs:(cptM l0).Sublist l0:=by have:=Yqy l0 l0.length;rwa [List.take_length] at this
 have hp:l0.Pairwise (fun a b=>¬cmpA b a<0):=List.pairwise_iff_getElem.2 fun i j hi hj hij=>h i j _ _ hij (List.getElem?_eq_getElem hi) (List.getElem?_eq_getElem hj)
 intro i j a b hij ha hb;obtain ⟨hi,rfl⟩:=Zg ha;obtain ⟨hj,rfl⟩:=Zg hb;exact List.pairwise_iff_getElem.1 (hp.sublist hs) i j hi hj hij
theorem CptS.eq {l r:List Atom} (hl:CptS l) (hr:CptS r) (h:∀ a,a∈l↔a∈r):l=r:=by
 have hp:l.Perm r:=(List.perm_ext_iff_of_nodup hl.1 hr.1).2 h;refine hp.eq_of_pairwise (le:=fun a b=>¬cmpA b a<0) (fun a b _ _ h1 h2=>?_) (List.pairwise_iff_getElem.2 fun i j hi hj hij=>hl.2 i j _ _ hij (List.getElem?_eq_getElem hi) (List.getElem?_eq_getElem hj)) (List.pairwise_iff_getElem.2 fun i j hi hj hij=>hr.2 i j _ _ hij (List.getElem?_eq_getElem hi) (List.getElem?_eq_getElem hj));have h3:¬0<cmpA b a:=fun h3=>h2 ((ordA.anti a b).2 h3)
 exact (ordA.eq0 b a Zi).symm
theorem psortA_f {l:List Atom} (h:GrowZ atomL 77 fz v n Hs l) (hn2:n<=2000000):
 GFn prog 65 [v,.func (.func 66) #[] #[]] fz Hs (fun r fz' H'=>r=.tuple #[]/\fz=fz'/\∃ l',GrowZ atomL 77 fz v n H' l'/\l'.Perm l/\YjQ cmpA l'):=by
 rcases Nat.eq_zero_or_pos n with h0 | hp
 ·obtain ⟨rfl,rfl⟩:=h.1 h0;have hl:l=[]:=List.eq_nil_of_length_eq_zero (by rw [h.2.len];exact h0);subst hl;exact YkU sort0A_q ⟨_,Tryz.func65,by decide,by decide⟩ ⟨rfl,rfl,[],h,Zr _,fun i j a b _ ha=>by simp at ha⟩
 obtain ⟨g,cap,cur,rfl,rfl,hb⟩:=h.2.b hp;exact (psort_f hb hp hn2).mono fun r fz' H' ⟨h1,h2,cur',l',h3,h4,h5,h6⟩=>⟨h1,h2,l',⟨fun h=>absurd h Zi,h3 ▸ h4.grow⟩,h5,h6⟩
theorem YlT {l:List Atom} (h:GrowZ atomL 77 fz v n Hs l) (hn2:n<=2000000):
 GFn prog 67 [v,.func (.func 68) #[] #[]] fz Hs (fun r fz' H'=>fz=fz'/\∃ m,m<=n/\Grow atomL 77 fz r m H' (cptM l)):=by
 rcases Nat.eq_zero_or_pos n with h0 | hp
 ·obtain ⟨rfl,rfl⟩:=h.1 h0;have hl:l=[]:=List.eq_nil_of_length_eq_zero (by rw [h.2.len];exact h0);subst hl;exact YkU Yoi ⟨_,Tryz.func67,by decide,by decide⟩ ⟨rfl,0,by omega,Grow.nil _ _ _⟩
 obtain ⟨g,cap,cur,rfl,rfl,hb⟩:=h.2.b hp;have hbl:=hb.len;exact (Yn2 hb hp hn2).mono fun r fz' H' ⟨h1,m,cur',h2,h3,h4⟩=>⟨h1,m,by rw [<- h4.len,<- hbl];have:=Yqz l l.length;exact this,by rw [h2,h3];exact h4.grow⟩
theorem pinit_f {p:Problem} (hP:ProblemR fz p u1 u2 u3 u4 u5 u6 u7) (hn:p.init.length<=1000000) (hW:∀ a∈p.init,a.args.length<=1000000000):
 GFn prog 29 [ZP p u1 u2 u3 u4 u5 u6 u7] fz []
  (fun r fz' H'=>∃ m l,m<=1000000/\Grow atomL 77 fz' r m H' l/\CptS l/\∀ a,a∈l↔a∈p.init):=by
 obtain ⟨⟨B1,m1,d1,rfl,_⟩,⟨B2,n,d2,rfl,j2⟩,⟨B3,m3,d3,rfl,_⟩⟩:=id hP.sls;obtain ⟨⟨B4,m4,d4,rfl,_⟩,⟨B5,m5,d5,rfl,_⟩,⟨B6,m6,d6,rfl,_⟩,⟨B7,m7,d7,rfl,_⟩⟩:=id hP.goal.sls;have l2:=j2.len;refine zF Tryz.func29 Tryz.ntmps29 (fun w0=>?_);refine pX (fun g1=>?_);refine zW ?_;intros;refine Yi (fun q σ fz' H'=>∃ (k:Nat) (v:Value),k<=n/\q=n - k/\σ=[(9,Zk k),(8,Zk n),(7,Zc B2 n d2),(3,v)]/\Le fz fz'/\GrowZ atomL 77 fz' v k H' (p.init.take k)) ⟨0,_,Z0 _,rfl,rfl,Zd,⟨fun _=>⟨rfl,rfl⟩,Grow.nil _ _ _⟩⟩ Zw Zb ?_;rintro q σ fz2 Hk ⟨k,v,hk,rfl,rfl,hle2,hz,hG⟩;obtain ⟨Av,cv,rfl,_,_⟩:=hG.form;refine zW ?_;intros;refine zC ?_ ?_<;>intro f1
 ·obtain ⟨x,hx⟩:=Ye (l:=p.init) (k:=k) Zi;have w1:=hW x (Zm hx);refine zW ?_;intros;refine zI (j2.mono hle2) hx (fun p1 hp1=>?_);refine zL hp1 ?_;intro cs hcs;obtain ⟨vx,rfl,hR⟩:=XA hcs;obtain ⟨E1,r1,q1,rfl,ix⟩:=id hR.args;have l0:=ix.len;refine zWN ?_;intros;rename_i g5;refine XF [_] ?_;refine zW ?_;intros;refine pU ?_;refine Yj (Ym [] (_::Hk) Zz (Ye6 ix Zi) (fun v8 fz8 H8 hle8 hR8=>⟨⟨hle8,Zx⟩,?_⟩));obtain ⟨A8,c8,rfl,_,_⟩:=hR8.form;refine Ch.qk ⟨hle8,Zx⟩ (YaY ?_);refine Yj (Yfc (H1:=_::Hk) (H2:=H8) Zq (fun fz9 hle9 hf9=>?_));obtain ⟨A9,c9,e9,i9⟩:=hR8.sl hle9 hf9 Zi;injection e9 with e91 e92 e93
  subst e91;subst e93;refine Yb (cs:=[Zy x.name,Zc A8 r1 c8]) (fun gb=>⟨⟨hle8.trans hle9,Zx⟩,?_⟩);refine Yj (YN (Hr:=[_,_]) (d:=x) (Zr _) (hG.mono (hle8.trans hle9)) Ym5 (.head _) (YbQ ⟨hR.name,i9.is⟩) (fun v10 H10 hO10=>⟨⟨hle8.trans hle9,Zx⟩,?_⟩));obtain ⟨A10,c10,rfl,_,_⟩:=hO10.form;refine Ch.qk ⟨hle8.trans hle9,Zx⟩ (YV ?_);refine Ch.done ?_;refine zW ?_;intros;exact Wj ⟨k+1,_,by omega,rfl,rfl,hle2.trans (hle8.trans hle9),⟨fun h=>absurd h Zi,hO10.of (by rw [List.take_add_one,hx];rfl) rfl⟩⟩ Zi Zw ((List.Sublist.refl _).cons _ |>.cons _)
 obtain rfl:n=k:=by omega
 rw [Zl Zi] at hG;refine zW ?_;intros;refine Ya (Ym Hk [] (List.append_nil _).symm (psortA_f ⟨hz,hG⟩ Zi) (fun v3 fz3 H3 hle3 hR3=>?_));obtain ⟨rfl,rfl,l',hG3,hp3,hs3⟩:=hR3;rw [List.append_nil];refine zW ?_;intros;refine Ya (Ym H3 [] (List.append_nil _).symm (YlT hG3 Zi) (fun v4 fz4 H4 hle4 hR4=>?_));obtain ⟨rfl,m,hm,hG4⟩:=hR4;rw [List.append_nil];refine zW ?_;intros;exact ret1 rfl rfl (List.Sublist.refl _) ⟨m,_,by omega,hG4,cptS_of hs3,fun a=>by rw [cptM_mem];exact hp3.mem_iff⟩
end Go.Proofs.YtiligkgjcmokbaaGreatDoor
