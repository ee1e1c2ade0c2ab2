/- The texts POpenW, KRowB, laid together. Conditions: none. -/
import Derived.Test.YtiligkgjcmokbaaGreatDoorKSX
import Derived.Lay
import Derived.LaidOnce
import Derived.MakeChecks
import Derived.LaidSub
import Derived.Deep.DeepHandedRow
import Derived.Lib.LaidTab
import Derived.Shelf.Vars
set_option linter.all false
set_option maxRecDepth 100000
namespace Go.Proofs.YtiligkgjcmokbaaGreatDoor
open Go.Lx Go.RowKit Go.ChangeShapes Go.WideShapes Go.Deep
open Go.Proofs.Tryz (prog)
theorem YjK {H:Type} (d:DataW H):1<=Rows.uptoBulk d:=by
 cases d with
 | lit l=>cases l<;>simp [Rows.uptoBulk]
 | nil=>simp [Rows.uptoBulk]
 | ptr d=>simp [Rows.uptoBulk]
 | slice elems spare=>simp [Rows.uptoBulk]
 | agg parts=>simp [Rows.uptoBulk]
 | iface t d=>simp [Rows.uptoBulk]
 | map entries=>simp [Rows.uptoBulk]
 | held h=>simp [Rows.uptoBulk]
theorem YhE {H:Type} {d:DataW H}:∀ {l:List (DataW H)},d∈l->Rows.uptoBulk d<=Rows.uptoBulkAll l
 | [],h=>by cases h
 | x::r,h=>by
  simp only [Rows.uptoBulkAll];rcases List.mem_cons.1 h with rfl | h
  ·omega
  have:=YhE h;omega
theorem YnE {H:Type}:∀ (l:List (DataW H)),l.length<=Rows.uptoBulkAll l
 | []=>by simp [Rows.uptoBulkAll]
 | x::r=>by have:=YjK x;have:=YnE r;simp only [Rows.uptoBulkAll,List.length_cons];omega
theorem YnD {H α:Type} {wt:α->Nat}:∀ {l:List (DataW H)} {ds:List α},ds.length=l.length->(∀ (i:Nat) (d:α) (x:DataW H),ds[i]?=some d->l[i]?=some x->wt d<=Rows.uptoBulk x)->(ds.map wt).sum<=Rows.uptoBulkAll l
 | [],ds,h,_=>by
  have:ds=[]:=List.eq_nil_of_length_eq_zero (by simpa using h);subst this;simp
 | x::r,ds,h,hh=>by
  cases ds with
  | nil=>simp at h
  | cons d ds=>
   have h1:=hh 0 d x rfl rfl;have h2:=YnD (l:=r) (ds:=ds) (wt:=wt) (by simpa using h) (fun i e y he hy=>hh (i+1) e y (by simpa using he) (by simpa using hy));simp only [List.map_cons,List.sum_cons,Rows.uptoBulkAll];omega
section
variable {H:Type} {enc:TypeId × Value->H} {P:Program} {w:World} {base:Nat} {spare:Nat->Bool} {held:Bool}
def WO (enc:TypeId × Value->H) (P:Program) (w:World) (base:Nat) (spare:Nat->Bool) (held:Bool) {α:Type} (L:Lay α) (wt:α->Nat) (t:TypeId) (fuel:Nat):Prop:=
 ∀ cs x,DataW.trod enc P w base spare held fuel t cs=some x->Rows.uptoBulk x.1<=1048576->∃ d,L.rep (fzOf w) d cs/\wt d<=Rows.uptoBulk x.1
variable {α:Type} {e t:TypeId} {fuel:Nat} {L:Lay α}
theorem XS {wt:α->Nat} (ht:P.underlying t=some (.slice e)) (hc:P.cellsOf e=L.size) (he:∀ n,n<fuel->WO enc P w base spare held L wt e n):WO enc P w base spare held (slL L) (fun l=>(l.map wt).sum) t fuel:=fun cs x h hq=>by
 rcases DataW.trod_slice ht h with ⟨rfl,_⟩ | ⟨a,len,cap,elems,rest,n,hfu,rfl,rfl,_,hl,hm,hlen,hel,_,_⟩
 ·exact ⟨[],⟨none,0,0,rfl,Sl.nil⟩,by simp⟩
 have hbd:Rows.uptoBulkAll (elems.map (·.1))+1<=Rows.uptoBulk (.slice (elems.map (·.1)) (rest.map (·.1)):DataW H):=by simp only [Rows.uptoBulk];omega
 have hbl:=YnE (elems.map (·.1));rw [List.length_map] at hbl;obtain ⟨ds,h1,h2⟩:=YpN (p:=fun i d=>At L (fzOf w) (a.add (i*L.size)) d/\∀ y,elems[i]?=some y->wt d<=Rows.uptoBulk y.1) (n:=len) (fun i hil=>by
  have hx:elems[i]?=some (elems[i]'Zi):=List.getElem?_eq_getElem _;have h3:=hel i hil;rw [hx] at h3;cases hcs:w.cells? base (a.add (i*P.cellsOf e)) (P.cellsOf e) with
  | none=>rw [hcs] at h3;cases h3
  | some cs'=>
   rw [hcs] at h3;have hpt:=YhE (d:=(elems[i]'Zi).1) (l:=elems.map (·.1)) (List.mem_map.2 ⟨_,Zm hx,rfl⟩);have hq':Rows.uptoBulk (.slice (elems.map (·.1)) (rest.map (·.1)):DataW H)<=1048576:=hq;obtain ⟨d,hd,hw⟩:=he n Zi _ _ h3 Zi;obtain ⟨_,hlen,hat⟩:=World.cells?_some hcs;refine ⟨d,⟨cs',hd,fun j u hu=>?_⟩,fun y hy=>by rw [hx] at hy;injection hy with hy;subst hy;exact hw⟩;have hj:j<cs'.length:=(Zg hu).1;rw [<- hc];exact YnB ((hat j Zi).trans hu))
 have hq':Rows.uptoBulk (.slice (elems.map (·.1)) (rest.map (·.1)):DataW H)<=1048576:=hq;refine ⟨ds,⟨some a,len,cap,rfl,h1,hl,by simpa [maxLen] using hm,by omega,.inr ⟨a,rfl,fun i d hd=>(h2 i d hd).1⟩⟩,?_⟩;have:=YnD (wt:=wt) (ds:=ds) (l:=elems.map (·.1)) (by rw [List.length_map];omega) (fun i d x hd hx=>by
  rw [List.getElem?_map] at hx;cases hy:elems[i]? with
  | none=>rw [hy] at hx;cases hx
  | some y=>rw [hy] at hx;injection hx with hx;subst hx;exact (h2 i d hd).2 y hy)
 exact Nat.le_trans (Nat.le_trans this (Nat.le_succ _)) hbd
variable {cs:List Value} {i k n:Nat}
theorem Yo {wt:α->Nat} {fs:Array Field} {xs:List (DataW H × List MemPlace)} (hf:∀ (i:Nat) (f:Field),fs[i]?=some f->DataW.trod enc P w base spare held n f.type ((cs.drop f.offset).take (P.cellsOf f.type))=xs[i]?)
 (hq:Rows.uptoBulkAll (xs.map (·.1))<=1048576) {f:Field} {y:DataW H × List MemPlace} (hi:fs[i]?=some f) (hy:xs[i]?=some y) (he:WO enc P w base spare held L wt f.type n) {cs':List Value} (hv:(cs.drop f.offset).take k=cs') (hc:P.cellsOf f.type=k:=by kernel_rfl):
 ∃ d,L.rep (fzOf w) d cs'/\wt d<=Rows.uptoBulk y.1:=by
 have h1:=hf i f hi;rw [hc,hy,hv] at h1;have:=YhE (d:=y.1) (l:=xs.map (·.1)) (List.mem_map.2 ⟨_,Zm hy,rfl⟩);exact he _ _ h1 Zi
end
section
variable {H:Type} {enc:TypeId × Value->H} {w:World} {base:Nat} {spare:Nat->Bool} {held:Bool}
variable {fuel:Nat}
theorem YcZ:WO enc prog w base spare held intL (fun _=>1) 3 fuel:=fun cs x h _=>by
 obtain ⟨n,h1,_,h2⟩:=DataW.trod_int Tryz.underlying3 h;exact ⟨n,⟨h1,by simp [Lit.wf,IntKind.min,IntKind.max,IntKind.signed,IntKind.bits] at h2;unfold I64;omega⟩,YjK _⟩
theorem WR:WO enc prog w base spare held strL strW 9 fuel:=fun cs x h _=>by
 obtain ⟨s,h1,_,h2⟩:=DataW.trod_string Tryz.underlying9 h;exact ⟨s,⟨h1,by simpa [maxLen] using h2⟩,YjK _⟩
theorem YeR:WO enc prog w base spare held (slL strL) (fun l=>(l.map strW).sum) 31 fuel:=XS Tryz.underlying31 Zj (fun _ _=>WR)
theorem Yky:WO enc prog w base spare held paramL parW 123 fuel:=fun cs x h hq0=>by
 obtain ⟨xs,n,hfu,rfl,hcl,hxl,hf⟩:=DataW.trod_struct Tryz.underlying123 h;have hc:prog.cellsOf 123=2:=by kernel_rfl
 rw [hc] at hcl;have hq:Rows.uptoBulkAll (xs.map (·.1))<=1048576:=by simp only [Rows.uptoBulk] at hq0;omega
 match cs,hcl,xs,hxl,hf,hq with
 | [v0,v1],_,[x0,x1],_,hf,hq=>
  obtain ⟨d0,r0,b0⟩:=(Yo hf hq (i:=0) (k:=1) (y:=x0) (cs':=[v0]) rfl rfl WR rfl);obtain ⟨rfl,k0⟩:=YbS r0;obtain ⟨d1,r1,b1⟩:=(Yo hf hq (i:=1) (k:=1) (y:=x1) (cs':=[v1]) rfl rfl WR rfl);obtain ⟨rfl,k1⟩:=YbS r1;refine ⟨⟨d0,d1⟩,⟨rfl,⟨k0,k1⟩⟩,?_⟩;simp only [List.map_cons,List.map_nil,Rows.uptoBulk,Rows.uptoBulkAll,parW];simp only [YaH,YaI] at*;omega
theorem Wn:WO enc prog w base spare held (slL paramL) (fun l=>(l.map parW).sum) 22 fuel:=XS Tryz.underlying22 Zj (fun _ _=>Yky)
theorem Yg2:WO enc prog w base spare held atomL Ye8 77 fuel:=fun cs x h hq0=>by
 obtain ⟨xs,n,hfu,rfl,hcl,hxl,hf⟩:=DataW.trod_struct Tryz.underlying77 h;have hc:prog.cellsOf 77=2:=by kernel_rfl
 rw [hc] at hcl;have hq:Rows.uptoBulkAll (xs.map (·.1))<=1048576:=by simp only [Rows.uptoBulk] at hq0;omega
 match cs,hcl,xs,hxl,hf,hq with
 | [v0,v1],_,[x0,x1],_,hf,hq=>
  obtain ⟨d0,r0,b0⟩:=(Yo hf hq (i:=0) (k:=1) (y:=x0) (cs':=[v0]) rfl rfl WR rfl);obtain ⟨rfl,k0⟩:=YbS r0;obtain ⟨d1,r1,b1⟩:=(Yo hf hq (i:=1) (k:=1) (y:=x1) (cs':=[v1]) rfl rfl YeR rfl);have k1:=Wk r1;refine ⟨⟨d0,d1⟩,⟨_,rfl,⟨k0,k1⟩⟩,?_⟩;simp only [List.map_cons,List.map_nil,Rows.uptoBulk,Rows.uptoBulkAll,Ye8];simp only [YaH,YaI] at*;omega
theorem YkA:WO enc prog w base spare held (slL atomL) (fun l=>(l.map Ye8).sum) 29 fuel:=XS Tryz.underlying29 Zj (fun _ _=>Yg2)
theorem Ykx:WO enc prog w base spare held valueL Yed 80 fuel:=fun cs x h hq0=>by
 obtain ⟨xs,n,hfu,rfl,hcl,hxl,hf⟩:=DataW.trod_struct Tryz.underlying80 h;have hc:prog.cellsOf 80=3:=by kernel_rfl
 rw [hc] at hcl;have hq:Rows.uptoBulkAll (xs.map (·.1))<=1048576:=by simp only [Rows.uptoBulk] at hq0;omega
 match cs,hcl,xs,hxl,hf,hq with
 | [v0,v1,v2],_,[x0,x1],_,hf,hq=>
  obtain ⟨d0,r0,b0⟩:=(Yo hf hq (i:=0) (k:=2) (y:=x0) (cs':=[v0,v1]) rfl rfl Yg2 rfl);obtain ⟨y0_0,e0,k0⟩:=XA r0;simp only [List.cons.injEq,and_true] at e0;obtain ⟨rfl,rfl⟩:=e0;obtain ⟨d1,r1,b1⟩:=(Yo hf hq (i:=1) (k:=1) (y:=x1) (cs':=[v2]) rfl rfl YcZ rfl);obtain ⟨rfl,k1⟩:=Yg8 r1;refine ⟨⟨d0,d1⟩,⟨_,rfl,⟨k0,k1⟩⟩,?_⟩;simp only [List.map_cons,List.map_nil,Rows.uptoBulk,Rows.uptoBulkAll,Yed];simp only [YaH,YaI] at*;omega
theorem Yi6:WO enc prog w base spare held (slL valueL) (fun l=>(l.map Yed).sum) 30 fuel:=XS Tryz.underlying30 Zj (fun _ _=>Ykx)
theorem Yg0:∀ fuel:Nat,WO enc prog w base spare held exprL eW 112 fuel:=fun fuel=>by
 induction fuel using Nat.strongRecOn with
 | _ fuel ih=>
  intro cs x h hq0;obtain ⟨xs,n,hfu,rfl,hcl,hxl,hf⟩:=DataW.trod_struct Tryz.underlying112 h;have hc:prog.cellsOf 112=5:=by kernel_rfl
  rw [hc] at hcl;have hq:Rows.uptoBulkAll (xs.map (·.1))<=1048576:=by simp only [Rows.uptoBulk] at hq0;omega
  match cs,hcl,xs,hxl,hf,hq with
  | [v0,v1,v2,v3,v4],_,[x0,x1,x2,x3,x4],_,hf,hq=>
   obtain ⟨d0,r0,b0⟩:=(Yo hf hq (i:=0) (k:=1) (y:=x0) (cs':=[v0]) rfl rfl WR rfl);obtain ⟨rfl,k0⟩:=YbS r0;obtain ⟨d1,r1,b1⟩:=(Yo hf hq (i:=1) (k:=1) (y:=x1) (cs':=[v1]) rfl rfl WR rfl);obtain ⟨rfl,k1⟩:=YbS r1;obtain ⟨d2,r2,b2⟩:=(Yo hf hq (i:=2) (k:=1) (y:=x2) (cs':=[v2]) rfl rfl YcZ rfl);obtain ⟨rfl,k2⟩:=Yg8 r2;obtain ⟨d3,r3,b3⟩:=(Yo hf hq (i:=3) (k:=1) (y:=x3) (cs':=[v3]) rfl rfl YeR rfl);have k3:=Wk r3;obtain ⟨d4,r4,b4⟩:=(Yo hf hq (i:=4) (k:=1) (y:=x4) (cs':=[v4]) rfl rfl (XS (L:=exprL) Tryz.underlying32 Zj (fun m hm=>ih m Zi)) rfl);have k4:=Wk r4;refine ⟨.mk d0 d1 d2 d3 d4,Ya8 (x:=.mk d0 d1 d2 d3 d4) ⟨k0,k1,k2,k3,k4⟩,?_⟩;simp only [List.map_cons,List.map_nil,Rows.uptoBulk,Rows.uptoBulkAll,Yqr,Expr.args,Expr.kids];simp only [YaH,YaI] at*;omega
theorem Ykz:WO enc prog w base spare held (slL exprL) (fun l=>(l.map eW).sum) 32 fuel:=XS Tryz.underlying32 Zj (fun _ _=>Yg0 _)
theorem Yaa:∀ fuel:Nat,WO enc prog w base spare held YK fW 35 fuel:=fun fuel=>by
 induction fuel using Nat.strongRecOn with
 | _ fuel ih=>
  intro cs x h hq0;obtain ⟨xs,n,hfu,rfl,hcl,hxl,hf⟩:=DataW.trod_struct Tryz.underlying35 h;have hc:prog.cellsOf 35=6:=by kernel_rfl
  rw [hc] at hcl;have hq:Rows.uptoBulkAll (xs.map (·.1))<=1048576:=by simp only [Rows.uptoBulk] at hq0;omega
  match cs,hcl,xs,hxl,hf,hq with
  | [v0,v1,v2,v3,v4,v5],_,[x0,x1,x2,x3,x4,x5],_,hf,hq=>
   obtain ⟨d0,r0,b0⟩:=(Yo hf hq (i:=0) (k:=1) (y:=x0) (cs':=[v0]) rfl rfl WR rfl);obtain ⟨rfl,k0⟩:=YbS r0;obtain ⟨d1,r1,b1⟩:=(Yo hf hq (i:=1) (k:=1) (y:=x1) (cs':=[v1]) rfl rfl WR rfl);obtain ⟨rfl,k1⟩:=YbS r1;obtain ⟨d2,r2,b2⟩:=(Yo hf hq (i:=2) (k:=1) (y:=x2) (cs':=[v2]) rfl rfl YeR rfl);have k2:=Wk r2;obtain ⟨d3,r3,b3⟩:=(Yo hf hq (i:=3) (k:=1) (y:=x3) (cs':=[v3]) rfl rfl Wn rfl);have k3:=Wk r3;obtain ⟨d4,r4,b4⟩:=(Yo hf hq (i:=4) (k:=1) (y:=x4) (cs':=[v4]) rfl rfl Ykz rfl);have k4:=Wk r4;obtain ⟨d5,r5,b5⟩:=(Yo hf hq (i:=5) (k:=1) (y:=x5) (cs':=[v5]) rfl rfl (XS (L:=YK) Tryz.underlying33 Zj (fun m hm=>ih m Zi)) rfl);have k5:=Wk r5;refine ⟨.mk d0 d1 d2 d3 d4 d5,WB (x:=.mk d0 d1 d2 d3 d4 d5) ⟨k0,k1,k2,k3,k4,k5⟩,?_⟩;simp only [List.map_cons,List.map_nil,Rows.uptoBulk,Rows.uptoBulkAll,Yl9,Formula.args,Formula.params,Formula.exprs,Formula.kids];simp only [YaH,YaI] at*;omega
theorem Yi8:WO enc prog w base spare held changeL Xx 114 fuel:=fun cs x h hq0=>by
 obtain ⟨xs,n,hfu,rfl,hcl,hxl,hf⟩:=DataW.trod_struct Tryz.underlying114 h;have hc:prog.cellsOf 114=15:=by kernel_rfl
 rw [hc] at hcl;have hq:Rows.uptoBulkAll (xs.map (·.1))<=1048576:=by simp only [Rows.uptoBulk] at hq0;omega
 match cs,hcl,xs,hxl,hf,hq with
 | [v0,v1,v2,v3,v4,v5,v6,v7,v8,v9,v10,v11,v12,v13,v14],_,[x0,x1,x2,x3,x4,x5],_,hf,hq=>
  obtain ⟨d0,r0,b0⟩:=(Yo hf hq (i:=0) (k:=1) (y:=x0) (cs':=[v0]) rfl rfl YcZ rfl);obtain ⟨rfl,k0⟩:=Yg8 r0;obtain ⟨d1,r1,b1⟩:=(Yo hf hq (i:=1) (k:=1) (y:=x1) (cs':=[v1]) rfl rfl Wn rfl);have k1:=Wk r1;obtain ⟨d2,r2,b2⟩:=(Yo hf hq (i:=2) (k:=6) (y:=x2) (cs':=[v2,v3,v4,v5,v6,v7]) rfl rfl (Yaa _) rfl);obtain ⟨y2_0,y2_1,y2_2,y2_3,e2,k2⟩:=Yv r2;simp only [List.cons.injEq,and_true] at e2;obtain ⟨rfl,rfl,rfl,rfl,rfl,rfl⟩:=e2;obtain ⟨d3,r3,b3⟩:=(Yo hf hq (i:=3) (k:=1) (y:=x3) (cs':=[v8]) rfl rfl WR rfl);obtain ⟨rfl,k3⟩:=YbS r3;obtain ⟨d4,r4,b4⟩:=(Yo hf hq (i:=4) (k:=1) (y:=x4) (cs':=[v9]) rfl rfl YeR rfl);have k4:=Wk r4;obtain ⟨d5,r5,b5⟩:=(Yo hf hq (i:=5) (k:=5) (y:=x5) (cs':=[v10,v11,v12,v13,v14]) rfl rfl (Yg0 _) rfl);obtain ⟨y5_0,y5_1,e5,k5⟩:=YD r5;simp only [List.cons.injEq,and_true] at e5;obtain ⟨rfl,rfl,rfl,rfl,rfl⟩:=e5;refine ⟨⟨d0,d1,d2,d3,d4,d5⟩,⟨_,_,_,_,_,_,_,_,rfl,⟨k0,k1,k2,k3,k4,k5⟩⟩,?_⟩;simp only [List.map_cons,List.map_nil,Rows.uptoBulk,Rows.uptoBulkAll,Xx];simp only [YaH,YaI] at*;omega
theorem Ycm:WO enc prog w base spare held (slL changeL) (fun l=>(l.map Xx).sum) 50 fuel:=XS Tryz.underlying50 Zj (fun _ _=>Yi8)
theorem Yge:WO enc prog w base spare held predicateL YhR 61 fuel:=fun cs x h hq0=>by
 obtain ⟨xs,n,hfu,rfl,hcl,hxl,hf⟩:=DataW.trod_struct Tryz.underlying61 h;have hc:prog.cellsOf 61=2:=by kernel_rfl
 rw [hc] at hcl;have hq:Rows.uptoBulkAll (xs.map (·.1))<=1048576:=by simp only [Rows.uptoBulk] at hq0;omega
 match cs,hcl,xs,hxl,hf,hq with
 | [v0,v1],_,[x0,x1],_,hf,hq=>
  obtain ⟨d0,r0,b0⟩:=(Yo hf hq (i:=0) (k:=1) (y:=x0) (cs':=[v0]) rfl rfl WR rfl);obtain ⟨rfl,k0⟩:=YbS r0;obtain ⟨d1,r1,b1⟩:=(Yo hf hq (i:=1) (k:=1) (y:=x1) (cs':=[v1]) rfl rfl Wn rfl);have k1:=Wk r1;refine ⟨⟨d0,d1⟩,⟨_,rfl,⟨k0,k1⟩⟩,?_⟩;simp only [List.map_cons,List.map_nil,Rows.uptoBulk,Rows.uptoBulkAll,YhR];simp only [YaH,YaI] at*;omega
theorem Yfy:WO enc prog w base spare held (slL predicateL) (fun l=>(l.map YhR).sum) 23 fuel:=XS Tryz.underlying23 Zj (fun _ _=>Yge)
theorem YgZ:WO enc prog w base spare held functionL funW 63 fuel:=fun cs x h hq0=>by
 obtain ⟨xs,n,hfu,rfl,hcl,hxl,hf⟩:=DataW.trod_struct Tryz.underlying63 h;have hc:prog.cellsOf 63=4:=by kernel_rfl
 rw [hc] at hcl;have hq:Rows.uptoBulkAll (xs.map (·.1))<=1048576:=by simp only [Rows.uptoBulk] at hq0;omega
 match cs,hcl,xs,hxl,hf,hq with
 | [v0,v1,v2,v3],_,[x0,x1,x2,x3],_,hf,hq=>
  obtain ⟨d0,r0,b0⟩:=(Yo hf hq (i:=0) (k:=1) (y:=x0) (cs':=[v0]) rfl rfl WR rfl);obtain ⟨rfl,k0⟩:=YbS r0;obtain ⟨d1,r1,b1⟩:=(Yo hf hq (i:=1) (k:=1) (y:=x1) (cs':=[v1]) rfl rfl Wn rfl);have k1:=Wk r1;obtain ⟨d2,r2,b2⟩:=(Yo hf hq (i:=2) (k:=1) (y:=x2) (cs':=[v2]) rfl rfl YcZ rfl);obtain ⟨rfl,k2⟩:=Yg8 r2;obtain ⟨d3,r3,b3⟩:=(Yo hf hq (i:=3) (k:=1) (y:=x3) (cs':=[v3]) rfl rfl YcZ rfl);obtain ⟨rfl,k3⟩:=Yg8 r3;refine ⟨⟨d0,d1,d2,d3⟩,⟨_,rfl,⟨k0,k1,k2,k3⟩⟩,?_⟩;simp only [List.map_cons,List.map_nil,Rows.uptoBulk,Rows.uptoBulkAll,funW];simp only [YaH,YaI] at*;omega
theorem Ygf:WO enc prog w base spare held (slL functionL) (fun l=>(l.map funW).sum) 24 fuel:=XS Tryz.underlying24 Zj (fun _ _=>YgZ)
theorem Yi9:WO enc prog w base spare held actionL actW 52 fuel:=fun cs x h hq0=>by
 obtain ⟨xs,n,hfu,rfl,hcl,hxl,hf⟩:=DataW.trod_struct Tryz.underlying52 h;have hc:prog.cellsOf 52=10:=by kernel_rfl
 rw [hc] at hcl;have hq:Rows.uptoBulkAll (xs.map (·.1))<=1048576:=by simp only [Rows.uptoBulk] at hq0;omega
 match cs,hcl,xs,hxl,hf,hq with
 | [v0,v1,v2,v3,v4,v5,v6,v7,v8,v9],_,[x0,x1,x2,x3,x4],_,hf,hq=>
  obtain ⟨d0,r0,b0⟩:=(Yo hf hq (i:=0) (k:=1) (y:=x0) (cs':=[v0]) rfl rfl WR rfl);obtain ⟨rfl,k0⟩:=YbS r0;obtain ⟨d1,r1,b1⟩:=(Yo hf hq (i:=1) (k:=1) (y:=x1) (cs':=[v1]) rfl rfl Wn rfl);have k1:=Wk r1;obtain ⟨d2,r2,b2⟩:=(Yo hf hq (i:=2) (k:=1) (y:=x2) (cs':=[v2]) rfl rfl YcZ rfl);obtain ⟨rfl,k2⟩:=Yg8 r2;obtain ⟨d3,r3,b3⟩:=(Yo hf hq (i:=3) (k:=6) (y:=x3) (cs':=[v3,v4,v5,v6,v7,v8]) rfl rfl (Yaa _) rfl);obtain ⟨y3_0,y3_1,y3_2,y3_3,e3,k3⟩:=Yv r3;simp only [List.cons.injEq,and_true] at e3;obtain ⟨rfl,rfl,rfl,rfl,rfl,rfl⟩:=e3;obtain ⟨d4,r4,b4⟩:=(Yo hf hq (i:=4) (k:=1) (y:=x4) (cs':=[v9]) rfl rfl Ycm rfl);have k4:=Wk r4;refine ⟨⟨d0,d1,d2,d3,d4⟩,⟨_,_,_,_,_,_,rfl,⟨k0,k1,k2,k3,k4⟩⟩,?_⟩;simp only [List.map_cons,List.map_nil,Rows.uptoBulk,Rows.uptoBulkAll,actW];simp only [YaH,YaI] at*;omega
theorem YhU:WO enc prog w base spare held (slL actionL) (fun l=>(l.map actW).sum) 25 fuel:=XS Tryz.underlying25 Zj (fun _ _=>Yi9)
theorem Yg1:WO enc prog w base spare held durativeL durW 55 fuel:=fun cs x h hq0=>by
 obtain ⟨xs,n,hfu,rfl,hcl,hxl,hf⟩:=DataW.trod_struct Tryz.underlying55 h;have hc:prog.cellsOf 55=23:=by kernel_rfl
 rw [hc] at hcl;have hq:Rows.uptoBulkAll (xs.map (·.1))<=1048576:=by simp only [Rows.uptoBulk] at hq0;omega
 match cs,hcl,xs,hxl,hf,hq with
 | [v0,v1,v2,v3,v4,v5,v6,v7,v8,v9,v10,v11,v12,v13,v14,v15,v16,v17,v18,v19,v20,v21,v22],_,[x0,x1,x2,x3,x4,x5,x6,x7],_,hf,hq=>
  obtain ⟨d0,r0,b0⟩:=(Yo hf hq (i:=0) (k:=1) (y:=x0) (cs':=[v0]) rfl rfl WR rfl);obtain ⟨rfl,k0⟩:=YbS r0;obtain ⟨d1,r1,b1⟩:=(Yo hf hq (i:=1) (k:=1) (y:=x1) (cs':=[v1]) rfl rfl Wn rfl);have k1:=Wk r1;obtain ⟨d2,r2,b2⟩:=(Yo hf hq (i:=2) (k:=1) (y:=x2) (cs':=[v2]) rfl rfl YcZ rfl);obtain ⟨rfl,k2⟩:=Yg8 r2;obtain ⟨d3,r3,b3⟩:=(Yo hf hq (i:=3) (k:=6) (y:=x3) (cs':=[v3,v4,v5,v6,v7,v8]) rfl rfl (Yaa _) rfl);obtain ⟨y3_0,y3_1,y3_2,y3_3,e3,k3⟩:=Yv r3;simp only [List.cons.injEq,and_true] at e3;obtain ⟨rfl,rfl,rfl,rfl,rfl,rfl⟩:=e3;obtain ⟨d4,r4,b4⟩:=(Yo hf hq (i:=4) (k:=6) (y:=x4) (cs':=[v9,v10,v11,v12,v13,v14]) rfl rfl (Yaa _) rfl);obtain ⟨y4_0,y4_1,y4_2,y4_3,e4,k4⟩:=Yv r4;simp only [List.cons.injEq,and_true] at e4;obtain ⟨rfl,rfl,rfl,rfl,rfl,rfl⟩:=e4;obtain ⟨d5,r5,b5⟩:=(Yo hf hq (i:=5) (k:=6) (y:=x5) (cs':=[v15,v16,v17,v18,v19,v20]) rfl rfl (Yaa _) rfl);obtain ⟨y5_0,y5_1,y5_2,y5_3,e5,k5⟩:=Yv r5;simp only [List.cons.injEq,and_true] at e5;obtain ⟨rfl,rfl,rfl,rfl,rfl,rfl⟩:=e5;obtain ⟨d6,r6,b6⟩:=(Yo hf hq (i:=6) (k:=1) (y:=x6) (cs':=[v21]) rfl rfl Ycm rfl);have k6:=Wk r6;obtain ⟨d7,r7,b7⟩:=(Yo hf hq (i:=7) (k:=1) (y:=x7) (cs':=[v22]) rfl rfl Ycm rfl);have k7:=Wk r7;refine ⟨⟨d0,d1,d2,d3,d4,d5,d6,d7⟩,⟨_,_,_,_,_,_,_,_,_,_,_,_,_,_,_,rfl,⟨k0,k1,k2,k3,k4,k5,k6,k7⟩⟩,?_⟩;simp only [List.map_cons,List.map_nil,Rows.uptoBulk,Rows.uptoBulkAll,durW];simp only [YaH,YaI] at*;omega
theorem Ygg:WO enc prog w base spare held (slL durativeL) (fun l=>(l.map durW).sum) 26 fuel:=XS Tryz.underlying26 Zj (fun _ _=>Yg1)
theorem Yi7:WO enc prog w base spare held YfO domW 28 fuel:=fun cs x h hq0=>by
 obtain ⟨xs,n,hfu,rfl,hcl,hxl,hf⟩:=DataW.trod_struct Tryz.underlying28 h;have hc:prog.cellsOf 28=7:=by kernel_rfl
 rw [hc] at hcl;have hq:Rows.uptoBulkAll (xs.map (·.1))<=1048576:=by simp only [Rows.uptoBulk] at hq0;omega
 match cs,hcl,xs,hxl,hf,hq with
 | [v0,v1,v2,v3,v4,v5,v6],_,[x0,x1,x2,x3,x4,x5,x6],_,hf,hq=>
  obtain ⟨d0,r0,b0⟩:=(Yo hf hq (i:=0) (k:=1) (y:=x0) (cs':=[v0]) rfl rfl WR rfl);obtain ⟨rfl,k0⟩:=YbS r0;obtain ⟨d1,r1,b1⟩:=(Yo hf hq (i:=1) (k:=1) (y:=x1) (cs':=[v1]) rfl rfl Wn rfl);have k1:=Wk r1;obtain ⟨d2,r2,b2⟩:=(Yo hf hq (i:=2) (k:=1) (y:=x2) (cs':=[v2]) rfl rfl Wn rfl);have k2:=Wk r2;obtain ⟨d3,r3,b3⟩:=(Yo hf hq (i:=3) (k:=1) (y:=x3) (cs':=[v3]) rfl rfl Yfy rfl);have k3:=Wk r3;obtain ⟨d4,r4,b4⟩:=(Yo hf hq (i:=4) (k:=1) (y:=x4) (cs':=[v4]) rfl rfl Ygf rfl);have k4:=Wk r4;obtain ⟨d5,r5,b5⟩:=(Yo hf hq (i:=5) (k:=1) (y:=x5) (cs':=[v5]) rfl rfl YhU rfl);have k5:=Wk r5;obtain ⟨d6,r6,b6⟩:=(Yo hf hq (i:=6) (k:=1) (y:=x6) (cs':=[v6]) rfl rfl Ygg rfl);have k6:=Wk r6;refine ⟨⟨d0,d1,d2,d3,d4,d5,d6⟩,⟨_,_,_,_,_,_,rfl,⟨k0,k1,k2,k3,k4,k5,k6⟩⟩,?_⟩;simp only [List.map_cons,List.map_nil,Rows.uptoBulk,Rows.uptoBulkAll,domW];simp only [YaH,YaI] at*;omega
theorem YhT:WO enc prog w base spare held Ybf prbW 37 fuel:=fun cs x h hq0=>by
 obtain ⟨xs,n,hfu,rfl,hcl,hxl,hf⟩:=DataW.trod_struct Tryz.underlying37 h;have hc:prog.cellsOf 37=11:=by kernel_rfl
 rw [hc] at hcl;have hq:Rows.uptoBulkAll (xs.map (·.1))<=1048576:=by simp only [Rows.uptoBulk] at hq0;omega
 match cs,hcl,xs,hxl,hf,hq with
 | [v0,v1,v2,v3,v4,v5,v6,v7,v8,v9,v10],_,[x0,x1,x2,x3,x4,x5],_,hf,hq=>
  obtain ⟨d0,r0,b0⟩:=(Yo hf hq (i:=0) (k:=1) (y:=x0) (cs':=[v0]) rfl rfl WR rfl);obtain ⟨rfl,k0⟩:=YbS r0;obtain ⟨d1,r1,b1⟩:=(Yo hf hq (i:=1) (k:=1) (y:=x1) (cs':=[v1]) rfl rfl WR rfl);obtain ⟨rfl,k1⟩:=YbS r1;obtain ⟨d2,r2,b2⟩:=(Yo hf hq (i:=2) (k:=1) (y:=x2) (cs':=[v2]) rfl rfl Wn rfl);have k2:=Wk r2;obtain ⟨d3,r3,b3⟩:=(Yo hf hq (i:=3) (k:=1) (y:=x3) (cs':=[v3]) rfl rfl YkA rfl);have k3:=Wk r3;obtain ⟨d4,r4,b4⟩:=(Yo hf hq (i:=4) (k:=1) (y:=x4) (cs':=[v4]) rfl rfl Yi6 rfl);have k4:=Wk r4;obtain ⟨d5,r5,b5⟩:=(Yo hf hq (i:=5) (k:=6) (y:=x5) (cs':=[v5,v6,v7,v8,v9,v10]) rfl rfl (Yaa _) rfl);obtain ⟨y5_0,y5_1,y5_2,y5_3,e5,k5⟩:=Yv r5;simp only [List.cons.injEq,and_true] at e5;obtain ⟨rfl,rfl,rfl,rfl,rfl,rfl⟩:=e5;refine ⟨⟨d0,d1,d2,d3,d4,d5⟩,⟨_,_,_,_,_,_,_,rfl,⟨k0,k1,k2,k3,k4,k5⟩⟩,?_⟩;simp only [List.map_cons,List.map_nil,Rows.uptoBulk,Rows.uptoBulkAll,prbW];simp only [YaH,YaI] at*;omega
variable {α:Type} {t:TypeId} {v:Value} {L:Lay α}
theorem Yf1 {wt:α->Nat} {fs:Array Field} {r:Reach} {b0:Nat} {d:DataW H} {p:List MemPlace} (hu:prog.underlying t=some (.struct fs)) (ho:∀ fuel,WO enc prog w base spare held L wt t fuel) (hv:Value.okWide prog w r b0 t v) (h:DataW.Trod enc prog w base spare held t v d p) (hq:Rows.uptoBulk d<=1048576):
 ∃ x cs,v=.agg (List.toArray cs)/\L.rep (fzOf w) x cs/\wt x<=1048576:=by
 obtain ⟨cs,rfl,hsz⟩:=okWide_struct hu hv;obtain ⟨l⟩:=cs;obtain ⟨fuel,hf⟩:=h;obtain ⟨x,hx,hw⟩:=ho fuel _ _ hf hq;exact ⟨x,l,rfl,hx,Nat.le_trans hw hq⟩
end
end Go.Proofs.YtiligkgjcmokbaaGreatDoor
namespace Go.Proofs.YtiligkgjcmokbaaGreatDoor
open Go.ChangeShapes Go.WideShapes Go.ChangeAt Go.RowKit Go.Lx
variable {d:Domain} {fz:FZ} {p:Problem} {u1 u2 u3 u4 u5 u6 u7 v1 v2 v3 v4 v5 v6:Value}
theorem Ygd:ownKnob Tryz.prog.godebug=none:=by kernel_rfl
theorem Ydj:laidOutB Tryz.prog=true:=by kernel_rfl
theorem YlX {W:World} (h:W.ShapedOpen Tryz.prog):MaxF (fzOf W):=by
 obtain ⟨m,hm⟩:=cell_of_shapedOpen_int (P:=Tryz.prog) (g:=0) (t:=3) (zero:=#[.int .i64 0]) h (of_decide_eq_true Zj) Zj rfl Zj Zj Tryz.underlying3;exact ⟨m,YnB hm⟩
theorem YnQ {W:World} (h:laidMetH Tryz.prog Rows.printerSortedUptoRow.laid W):TabF (fzOf W):=by
 have h1:=h.filter (fun x=>x.1== "internal/strconv.uint64pow10");have h2:laidMetH Tryz.prog [("internal/strconv.uint64pow10",Rows.laid_internal_strconv_uint64pow10)] W:=h1;rw [MakeChecks.laidMetH_plain _ _ _ Zj] at h2;have h3:Lib.TabIs Tryz.prog W "internal/strconv.uint64pow10" .u64 Lib.pow10Tab:=Lib.tabIs_of_head (rest:=[]) (g:=1) (t:=355) (e:=267) (n:=20) Zj Zj Tryz.underlying355 Tryz.underlying267 Zj Zj h2;intro w hw;have hg:Tryz.prog.globalNamed "internal/strconv.uint64pow10"=some 1:=by kernel_rfl
 unfold Lib.TabIs World.var? at h3 ⊢;rw [hg] at h3 ⊢;simp only [Option.bind_some] at h3 ⊢;cases hb:W.heap[1]? with
 | none=>rw [hb] at h3;cases h3
 | some o=>
  rw [hb] at h3;rw [hw.keep 1 o hb];exact h3
theorem YpI (hM:MaxF fz) (hT:TabF fz) (hD:DomainR fz d v1 v2 v3 v4 v5 v6) (hP:ProblemR fz p u1 u2 u3 u4 u5 u6 u7) (w1:domW d<=1300000) (w2:prbW p<=1300000):
 QFn Tryz.prog 3 [.agg #[.string d.name,v1,v2,v3,v4,v5,v6],.agg #[.string p.name,.string p.domain,u1,u2,u3,.string p.goal.op,.string p.goal.name,u4,u5,u6,u7]] fz (.bool true):=
 GFn.quiet ((YpJ hD hP w1 w2 hM hT (YqU hT hM)).mono fun _ _ _ h=>h.2)
theorem YiT (os:Os) {H:Type} (enc:TypeId × Value->H):∃ places,DataW.whole enc Tryz.prog ((World.laidAll Tryz.prog os Rows.printerSortedUptoRow.laid).forCall (fun _ _=>0) ⟨#[],#[.agg #[.string ⟨#[]⟩,.slice none 0 0,.slice none 0 0,.slice none 0 0,.slice none 0 0,.slice none 0 0,.slice none 0 0],.agg #[.string ⟨#[]⟩,.string ⟨#[]⟩,.slice none 0 0,.slice none 0 0,.slice none 0 0,.string ⟨#[]⟩,.string ⟨#[]⟩,.slice none 0 0,.slice none 0 0,.slice none 0 0,.slice none 0 0]],[]⟩).memory Tryz.f3.params.toList (Rows.OpenSpec.upto Rows.printerSortedSpec).vars false (#[.agg #[.string ⟨#[]⟩,.slice none 0 0,.slice none 0 0,.slice none 0 0,.slice none 0 0,.slice none 0 0,.slice none 0 0],.agg #[.string ⟨#[]⟩,.string ⟨#[]⟩,.slice none 0 0,.slice none 0 0,.slice none 0 0,.string ⟨#[]⟩,.string ⟨#[]⟩,.slice none 0 0,.slice none 0 0,.slice none 0 0,.slice none 0 0]]:Array Value).toList 8=some ([.agg [.lit (.string []),.nil,.nil,.nil,.nil,.nil,.nil],.agg [.lit (.string []),.lit (.string []),.nil,.nil,.nil,.agg [.lit (.string []),.lit (.string []),.nil,.nil,.nil,.nil]]],[],places):=⟨[],by kernel_rfl⟩
set_option maxRecDepth 100000 in
set_option maxHeartbeats 4000000 in
theorem YhO (os:Os) (started:os.Started) (H:Type) (enc:TypeId × Value->H) (F:Stop.Interp):
 ReturnsInHanded {} Tryz.checked os 3 .any ((Rows.OpenSpec.upto Rows.printerSortedSpec).preRow enc Tryz.prog Tryz.f3 Rows.printerSortedUptoRow.domain false Rows.printerSortedUptoRow.laid) (((Rows.OpenSpec.upto Rows.printerSortedSpec).at F).post enc Tryz.prog Tryz.f3 false true false false):=by
 obtain ⟨places,hx⟩:=YiT os enc;refine returnsInHanded_of_row (C:=Tryz.checked) (s:=Rows.OpenSpec.upto Rows.printerSortedSpec) Ygd started Zj Tryz.func3
  ⟨World.laidAll Tryz.prog os Rows.printerSortedUptoRow.laid,fun _ _=>0,⟨#[],#[.agg #[.string ⟨#[]⟩,.slice none 0 0,.slice none 0 0,.slice none 0 0,.slice none 0 0,.slice none 0 0,.slice none 0 0],.agg #[.string ⟨#[]⟩,.string ⟨#[]⟩,.slice none 0 0,.slice none 0 0,.slice none 0 0,.string ⟨#[]⟩,.string ⟨#[]⟩,.slice none 0 0,.slice none 0 0,.slice none 0 0,.slice none 0 0]],[]⟩,World.laidAll_os _ _ _,World.shaped_of_ZipB Zj Zj,rfl,(Input.okWide_of_okWideB Zj).2,
   OpenSpec.preRow_of_cond 8 hx Zj (fun k hk=>by cases hk;kernel_rfl) Zj (by rw [MakeChecks.laidMetH_plain _ _ _ Zj];exact laidMet_laidAll _ Zj Zj),
   by simp only [Assume.holds];exact ⟨by simp,by simp,fun _=>Modest.zero,by simp,by simp⟩⟩ ?_
 intro W base args ds gs before hval0 hW _ hcond _ hL hsh _;have hval:∀ (j:Nat) t v,Tryz.f3.params[j]?=some t->args[j]?=some v->Value.okWide Tryz.prog W .any base t v:=hval0;have hbk:Rows.uptoSmall H (ds++gs)=true:=hcond _ rfl;have hW':DataW.Whole enc Tryz.prog Tryz.f3.params.toList Rows.printerSortedSpec.vars false W args.toList ds gs before:=hW;obtain ⟨p,q,hA0,hV,rfl,_,_⟩:=hW;have hA:DataW.TrodAll enc Tryz.prog W 0 (fun _=>true) true Tryz.f3.params.toList args.toList ds p:=hA0;rw [Tryz.params3] at hA hval;obtain ⟨v0,v1,d0,d1,p0,p1,rfl,rfl,rfl,h0,h1⟩:=trodAll_two hA;obtain ⟨rfl,rfl⟩:=trodVars_none hV;clear hA0 hval0;simp only [List.append_nil] at hW';have hlt:∀ x∈p0++p1,x.block<W.heap.size:=fun x hx=>hW'.lt x hx
 have hq:Rows.uptoBulk d0<=1048576/\Rows.uptoBulk d1<=1048576:=by
  have h9:=of_decide_eq_true hbk;simp only [List.append_nil,Rows.uptoBulkAll] at h9;omega
 obtain ⟨x,cs,rfl,⟨u1,u2,u3,u4,u5,u6,rfl,hg⟩,hw⟩:=Yf1 Tryz.underlying28 (fun _=>Yi7) (hval 0 28 v0 rfl rfl) h0 hq.1;obtain ⟨y,cs,rfl,⟨z1,z2,z3,z4,z5,z6,z7,rfl,hp⟩,hw2⟩:=Yf1 Tryz.underlying37 (fun _=>YhT) (hval 1 37 v1 rfl rfl) h1 hq.2;refine ((YpI (YlX hsh) (YnQ hL) hg hp Zi Zi).calls (hp_of W)).mono fun e W' ⟨he1,hfr⟩=>?_
 have hb:=below_of hfr;have k0:=Below.trod Ydj Zj (of_decide_eq_true Zj) h0 hb (fun x hx=>hlt x (by simp [hx]));have k1:=Below.trod Ydj Zj (of_decide_eq_true Zj) h1 hb (fun x hx=>hlt x (by simp [hx]));show ∃ v,e=.returned v/\Rows.printerSortedSpec.post enc Tryz.prog Tryz.f3 false true false false W _ v W';exact ⟨_,he1,[d0,d1],[],_,[],_,[],hW',trodAll_mk1 (shut_bool Tryz.underlying4 true),trodAll_mk2 k0 k1,rfl,hb.frame _,fun h=>by cases h⟩
end Go.Proofs.YtiligkgjcmokbaaGreatDoor
