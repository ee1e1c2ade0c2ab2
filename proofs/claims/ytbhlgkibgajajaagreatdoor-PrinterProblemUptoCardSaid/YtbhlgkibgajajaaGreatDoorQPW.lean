/- The texts EwF, PAwk, OpenA, GOpenA, POpenW, PRowPB, laid together. Conditions: none. -/
import Derived.Test.YtbhlgkibgajajaaGreatDoorQPO
import Derived.Test.YtbhlgkibgajajaaGreatDoorQPQ
import Derived.Test.YtbhlgkibgajajaaGreatDoorQPR
import Derived.Test.YtbhlgkibgajajaaGreatDoorQPS
import Derived.Test.YtbhlgkibgajajaaGreatDoorQPT
import Derived.Test.YtbhlgkibgajajaaGreatDoorQPU
import Derived.Test.YtbhlgkibgajajaaGreatDoorQPK
import Derived.Test.YtbhlgkibgajajaaGreatDoorQPH
import Derived.Test.YtbhlgkibgajajaaGreatDoorQPI
import Derived.Test.YtbhlgkibgajajaaGreatDoorQPG
import Derived.Test.YtbhlgkibgajajaaGreatDoorQPJ
import Derived.Test.YtbhlgkibgajajaaGreatDoorQPL
import Derived.Test.YtbhlgkibgajajaaGreatDoorQPF
import Derived.Test.YtbhlgkibgajajaaGreatDoorQPB
import Derived.Test.YtbhlgkibgajajaaGreatDoorQPEwI
import Derived.Test.YtbhlgkibgajajaaGreatDoorQPN
import Derived.Test.YtbhlgkibgajajaaGreatDoorQPC
import Derived.ChangeSame
import Derived.Below
import Derived.ProofKit
import Derived.Test.YtbhlgkibgajajaaGreatDoorQPD
import Derived.Deep.Slices
import Derived.SizedLaws
import Derived.Carry
import Derived.Test.YtbhlgkibgajajaaGreatDoorQPM
import Derived.Test.YtbhlgkibgajajaaGreatDoorQPE
import Derived.Test.YtbhlgkibgajajaaGreatDoorRows
import Derived.Test.YtbhlgkibgajajaaGreatDoorQPP
import Derived.Lay
import Derived.LaidOnce
import Derived.MakeChecks
import Derived.LaidSub
import Derived.Deep.DeepHandedRow
import Derived.Lib.LaidTab
namespace Go.Proofs.YtbhlgkibgajajaaGreatDoor
open Go.Lx Go.Ev
noncomputable def F0:FF:=withM tF.get 244 .ibs
theorem F0_ok:FA Tryz.prog tT.get F0:=FA_with tF_ok ibs_ok
theorem mixed:Tryz.prog.follows .mixedOrders=true:=T.mixed
end Go.Proofs.YtbhlgkibgajajaaGreatDoor
namespace Go.Proofs.YtbhlgkibgajajaaGreatDoor
open Go.Lx Go.Ev Go.RowKit
attribute [local instance 10] Classical.propDecidable
set_option maxRecDepth 100000
def Yjy:AV→Bool
 | .tup [.agg [.s [100],.sl none 0 0 none,.sl none 0 0 none,.sl none 0 0 none,.sl none 0 0 none,.sl none 0 0 none,.sl none 0 0 none],.agg [.s [112],.s [100],.sl none 0 0 none,.sl none 0 0 none,.sl none 0 0 none,.s [97,110,100],.s [],.sl none 0 0 none,.sl none 0 0 none,.sl none 0 0 none,.sl none 0 0 none],.s [],.ni]=>true
 | _=>false
def loadV:Value:=.tuple #[.agg #[.string ⟨#[100]⟩,.slice none 0 0,.slice none 0 0,.slice none 0 0,.slice none 0 0,.slice none 0 0,.slice none 0 0],.agg #[.string ⟨#[112]⟩,.string ⟨#[100]⟩,.slice none 0 0,.slice none 0 0,.slice none 0 0,.string ⟨#[97,110,100]⟩,.string ⟨#[]⟩,.slice none 0 0,.slice none 0 0,.slice none 0 0,.slice none 0 0],.string ⟨#[]⟩,.nilIface]
theorem isLoad_s {ν:Nu} {a:AV} {v:Value} (h:Yjy a=true) (hv:gv ν a=some v):v=loadV:=by
 unfold Yjy at h
 split at h
 ·simp [gv,gvs,gA,gC] at hv
  rw [← hv]
  rfl
 ·cases h
def argA:List AV:=[.s [40,100,101,102,105,110,101,32,40,100,111,109,97,105,110,32,100,41,41],.s [40,100,101,102,105,110,101,32,40,112,114,111,98,108,101,109,32,112,41,32,40,58,100,111,109,97,105,110,32,100,41,41]]
theorem load_ev:evCall tT.get F0 1000000 15 argA Yjy=true:=by kernel_rfl
theorem load_q (fz:FZ):QFn Tryz.prog 15 [.string ⟨#[40,100,101,102,105,110,101,32,40,100,111,109,97,105,110,32,100,41,41]⟩,.string ⟨#[40,100,101,102,105,110,101,32,40,112,114,111,98,108,101,109,32,112,41,32,40,58,100,111,109,97,105,110,32,100,41,41]⟩] fz loadV:=
 GFn.quiet ((evCall_s (fz:=fz) tT_ok F0_ok mixed (fun ν=>by simp [argA,gvs,gv];exact ⟨rfl,rfl⟩) load_ev).mono fun _ _ _ ⟨_,_,_,hv,hk⟩=>isLoad_s hk hv)
def kD:ByteArray:=⟨#[100]⟩
def dom0:Domain:=⟨kD,[],[],[],[],[],[]⟩
theorem dom0_R {fz:FZ}:DomainR fz dom0 (.slice none 0 0) (.slice none 0 0) (.slice none 0 0) (.slice none 0 0) (.slice none 0 0) (.slice none 0 0):=
 ⟨by unfold Short dom0 kD;decide,IsSl.nil,IsSl.nil,IsSl.nil,IsSl.nil,IsSl.nil,IsSl.nil⟩
theorem dom0_sm:DomSm dom0:=(domtn_of (d:=dom0) (by simp [domW,dom0])).sm
theorem let_word {s:ByteArray} (h1:s.data.toList≠ []) (h2:s.size≤32) (h3:∀ b∈s.data.toList,LetP b.toNat):Ykc s:=by
 have hl:=Ya9 (s:=s)
 have h0:s≠Xx:=fun h=>by rw [size0] at h;exact h1 (List.eq_nil_of_length_eq_zero Zi)
 have hp:0<s.size:=Nat.pos_of_ne_zero (fun h=>h0 (size0.2 h))
 obtain ⟨b,hb,hb2⟩:=Wf (s:=s) (k:=0) hp
 have hlet:LetP b.toNat:=by
  refine h3 b ?_
  have:=Yfj hp
  rw [getElem?_pos s 0 hp] at hb
  injection hb with hb
  rw [hb] at this
  exact List.mem_of_getElem? this
 have ht:W0 s X7=s:=by
  rw [W0,if_neg (fun h=>by
   have h4:=(Ye9 hp).1 h
   rw [hb2] at h4
   unfold LetP at hlet;omega)]
 refine ⟨h0,h2,fun b hb=>.inl (h3 b hb),fun hn=>?_⟩
 have h5:=hn.1 0 (by rw [ht];exact hp)
 rw [ht,hb2] at h5
 unfold DigP at h5;unfold LetP at hlet;omega
def x0:Sexpr:=Yv [Yd YL,Yv [Yd Xb,Yd kD]]
theorem domX_0:domX dom0=x0:=by
 unfold domX
 rw [show XV dom0.types=[] from rfl,show XV dom0.constants=[] from rfl,show dom0.predicates.map Yf1=[] from rfl,show dom0.functions.map funX=[] from rfl,show dom0.actions.map actX=[] from rfl,show dom0.duratives.map durX=[] from rfl,Ybv,Ybv,Ybv,Ybv]
 rfl
theorem x0_val:XVal x0:=by
 have w:∀ s:ByteArray,Ykc s→XAll YbV (Yd s):=fun s h=>Xq.2 ⟨.inl ⟨rfl,h,rfl,rfl⟩,by intro k hk;cases hk⟩
 have l:∀ ks:List Sexpr,(∀ k∈ks,XAll YbV k)→XAll YbV (Yv ks):=fun ks h=>Xq.2 ⟨.inr (.inr ⟨rfl,rfl,rfl⟩),h⟩
 have wk:∀ s:ByteArray,s.data.toList≠ []→s.size≤32→(∀ b∈s.data.toList,LetP b.toNat)→XAll YbV (Yd s):=fun s a b c=>w s (let_word a b c)
 refine ⟨?_,by decide,by decide⟩
 refine l _ fun k hk=>?_
 simp only [List.mem_cons,List.not_mem_nil,or_false] at hk
 rcases hk with rfl | rfl
 ·exact wk _ Zh Zh (by unfold LetP;decide)
 ·refine l _ fun k hk=>?_
  simp only [List.mem_cons,List.not_mem_nil,or_false] at hk
  rcases hk with rfl | rfl
  ·exact wk _ Zh Zh (by unfold LetP;decide)
  ·exact wk _ Zh Zh (by unfold LetP;decide)
theorem dom0_ok:Yer dom0:=by
 refine ⟨⟨fun i hi=>?_,fun h=>absurd (congrArg ByteArray.size h) Zh,by decide,?_⟩,(by intro p hp;cases hp),(by intro p hp;cases hp),(by intro p hp;cases hp),(by intro p hp;cases hp),(by intro p hp;cases hp),(by intro p hp;cases hp)⟩
 ·have h0:i=0:=by have:dom0.name.size=1:=rfl;omega
  subst h0
  refine .inl ?_
  unfold LetP
  decide
 ·unfold XU
  simp only [List.mem_cons,List.not_mem_nil,or_false]
  rintro (h | h | h | h | h | h | h | h | h | h | h)<;>exact absurd (congrArg (fun s=>s.data.toList) h) Zh
theorem lay_0:lay 80 x0 0++ [10]=[40,100,101,102,105,110,101,32,40,100,111,109,97,105,110,32,100,41,41,10]:=by
 rw [Yba (.inr (.inr Zh))]
 rfl
theorem awake_p:AwkP:=fun fz hT=>by
 have hpd:=pdom_q (fz:=fz) dom0_R dom0_sm hT
 have hP:Yer dom0∧XVal (domX dom0):=⟨dom0_ok,by rw [domX_0];exact x0_val⟩
 rw [txtV,if_pos hP,if_pos hP,domX_0,lay_0,show errV 0=.nilIface from rfl] at hpd
 have hld:=load_q fz
 unfold loadV at hld
 refine GFn.quiet ?_
 (refine GFn.of_wp Tryz.func7 rfl Tryz.ntmps7 rfl rfl (fun w0=>?_))
 ((repeat (first | refine zS ?_ | refine zA fun _=>?_)))
 (((refine zG ?_));refine Yj Zz Zz hpd ?_)
 ((repeat (first | refine zS ?_ | refine zA fun _=>?_)))
 (((refine zG ?_));refine Yj Zz Zz hld ?_)
 ((repeat (first | refine zS ?_ | refine zA fun _=>?_)))
 ((refine zG ?_;refine zC (fun e1=>?_) (fun e1=>?_)))
 ·((repeat (first | refine zS ?_ | refine zA fun _=>?_)))
  ((refine zG ?_;refine zC (fun e2=>?_) (fun e2=>?_)))
  ·((repeat (first | refine zS ?_ | refine zA fun _=>?_)))
   ((refine zG ?_;refine zC (fun e3=>?_) (fun e3=>?_)))
   ·((repeat (first | refine zS ?_ | refine zA fun _=>?_)))
    ((refine zG ?_;refine zC (fun e4=>?_) (fun e4=>?_)))
    ·((repeat (first | refine zS ?_ | refine zA fun _=>?_)))
     (exact ret1 rfl rfl (Zb) rfl)
    ·exact absurd rfl e4
   ·exact absurd rfl e3
  ·exact absurd rfl e2
 ·exact absurd rfl e1
end Go.Proofs.YtbhlgkibgajajaaGreatDoor
namespace Go.Lx
open Go.RowKit
def fzOf (w:World):FZ:=fun g=>w.heap[g]?
theorem cellF_of {w:World} {p:Addr} {v:Value} (h:w.cell? p=some v):Ycw (fzOf w) p=some v:=by
 unfold World.cell? at h
 unfold Ycw fzOf
 exact h
theorem hp_of (w:World):Hp (fzOf w) [] w:=⟨fun _ _ h=>h,by simp,by simp⟩
theorem below_of {w w':World} (h:Fr [] w w'):Below w.heap.size w w':=⟨h.os,h.tape,h.output,h.size,fun k hk=>h.block k hk (by simp)⟩
theorem QFn.calls {P:Program} {f:FuncId} {args:List Value} {fz:FZ} {v:Value} (h:QFn P f args fz v) {w:World} (hw:Hp fz [] w):Calls P f args.toArray w fun e w'=>e=.returned v∧Fr [] w w':=by
 unfold QFn at h
 exact h.2 w hw
end Go.Lx
namespace Go.Lx
open Go.RowKit Go.ChangeShapes Go.WideShapes Go.Deep
theorem Yjo {α:Type} {p:Nat→α→Prop}:∀ {n:Nat},(∀ i,i<n→∃ d,p i d)→∃ ds:List α,ds.length=n∧∀ i d,ds[i]?=some d→p i d
 | 0,_=>⟨[],rfl,by simp⟩
 | n+1,h=>by
  obtain ⟨ds,h1,h2⟩:=Yjo (n:=n) (fun i hi=>h i Zi)
  obtain ⟨d,hd⟩:=h n Zi
  refine ⟨ds++ [d],by simp [h1],fun i e he=>?_⟩
  by_cases hi:i<ds.length
  ·rw [List.getElem?_append_left hi] at he;exact h2 i e he
  ·have hl:=(List.getElem?_eq_some_iff.1 he).1
   simp at hl
   have:i=n:=by omega
   subst this
   rw [List.getElem?_append_right Zi,h1] at he
   simp at he
   subst he
   exact hd
section
variable {H:Type} {enc:TypeId × Value→H} {P:Program} {w:World} {base:Nat} {spare:Nat→Bool} {held:Bool}
theorem YaL {α:Type} {L:Lay α} {fz:FZ} {xs:List α} {v:Value} (h:(slL L).rep fz xs [v]):IsSl L fz v xs:=by
 obtain ⟨A,n,c,e,hs⟩:=h
 injection e with e
 exact ⟨A,n,c,e,hs⟩
theorem Ycc {fz:FZ} {s:ByteArray} {v:Value} (h:strL.rep fz s [v]):v=.string s∧Short s:=by
 obtain ⟨e,hs⟩:=h
 injection e with e
 exact ⟨e,hs⟩
theorem int_of {fz:FZ} {n:Int} {v:Value} (h:intL.rep fz n [v]):v=.int .i64 n∧I64 n:=by
 obtain ⟨e,hs⟩:=h
 injection e with e
 exact ⟨e,hs⟩
end
end Go.Lx
set_option maxRecDepth 100000
namespace Go.Proofs.YtbhlgkibgajajaaGreatDoor
open Go.Lx Go.RowKit Go.ChangeShapes Go.WideShapes Go.Deep
theorem Yfv {H:Type} (d:DataW H):1≤Rows.uptoBulk d:=by
 cases d with
 | lit l=>cases l<;>simp [Rows.uptoBulk]
 | nil=>simp [Rows.uptoBulk]
 | ptr d=>simp [Rows.uptoBulk]
 | slice elems spare=>simp [Rows.uptoBulk]
 | agg parts=>simp [Rows.uptoBulk]
 | iface t d=>simp [Rows.uptoBulk]
 | map entries=>simp [Rows.uptoBulk]
 | held h=>simp [Rows.uptoBulk]
theorem Yeb {H:Type} {d:DataW H}:∀ {l:List (DataW H)},d∈l→Rows.uptoBulk d≤Rows.uptoBulkAll l
 | [],h=>by cases h
 | x::r,h=>by
  simp only [Rows.uptoBulkAll]
  rcases List.mem_cons.1 h with rfl | h
  ·omega
  ·have:=Yeb h;omega
theorem Yh7 {H:Type}:∀ (l:List (DataW H)),l.length≤Rows.uptoBulkAll l
 | []=>by simp [Rows.uptoBulkAll]
 | x::r=>by have:=Yfv x;have:=Yh7 r;simp only [Rows.uptoBulkAll,List.length_cons];omega
theorem Yh6 {H α:Type} {wt:α→Nat}:∀ {l:List (DataW H)} {ds:List α},ds.length=l.length→(∀ (i:Nat) (d:α) (x:DataW H),ds[i]?=some d→l[i]?=some x→wt d≤Rows.uptoBulk x)→(ds.map wt).sum≤Rows.uptoBulkAll l
 | [],ds,h,_=>by
  have:ds=[]:=List.eq_nil_of_length_eq_zero (by simpa using h)
  subst this;simp
 | x::r,ds,h,hh=>by
  cases ds with
  | nil=>simp at h
  | cons d ds=>
   have h1:=hh 0 d x rfl rfl
   have h2:=Yh6 (l:=r) (ds:=ds) (wt:=wt) (by simpa using h) (fun i e y he hy=>hh (i+1) e y (by simpa using he) (by simpa using hy))
   simp only [List.map_cons,List.sum_cons,Rows.uptoBulkAll];omega
section
variable {H:Type} {enc:TypeId × Value→H} {P:Program} {w:World} {base:Nat} {spare:Nat→Bool} {held:Bool}
def Yaa (enc:TypeId × Value→H) (P:Program) (w:World) (base:Nat) (spare:Nat→Bool) (held:Bool) {α:Type} (L:Lay α) (wt:α→Nat) (t:TypeId) (fuel:Nat):Prop:=
 ∀ cs x,DataW.trod enc P w base spare held fuel t cs=some x→Rows.uptoBulk x.1≤1048576→∃ d,L.rep (fzOf w) d cs∧wt d≤Rows.uptoBulk x.1
theorem X5 {α:Type} {L:Lay α} {wt:α→Nat} {t e:TypeId} {fuel:Nat} (ht:P.underlying t=some (.slice e)) (hc:P.cellsOf e=L.size) (he:∀ n,n<fuel→Yaa enc P w base spare held L wt e n):Yaa enc P w base spare held (slL L) (fun l=>(l.map wt).sum) t fuel:=fun cs x h hq=>by
 rcases DataW.trod_slice ht h with ⟨rfl,_⟩ | ⟨a,len,cap,elems,rest,n,hfu,rfl,rfl,_,hl,hm,hlen,hel,_,_⟩
 ·exact ⟨[],⟨none,0,0,rfl,Sl.nil Zi⟩,by simp⟩
 ·have hbd:Rows.uptoBulkAll (elems.map (·.1))+1≤Rows.uptoBulk (.slice (elems.map (·.1)) (rest.map (·.1)):DataW H):=by simp only [Rows.uptoBulk];omega
  have hbl:=Yh7 (elems.map (·.1))
  rw [List.length_map] at hbl
  obtain ⟨ds,h1,h2⟩:=Yjo (p:=fun i d=>At L (fzOf w) (a.add (i*L.size)) d∧∀ y,elems[i]?=some y→wt d≤Rows.uptoBulk y.1) (n:=len) (fun i hil=>by
   have hx:elems[i]?=some (elems[i]'Zi):=List.getElem?_eq_getElem _
   have h3:=hel i hil
   rw [hx] at h3
   cases hcs:w.cells? base (a.add (i*P.cellsOf e)) (P.cellsOf e) with
   | none=>rw [hcs] at h3;cases h3
   | some cs'=>
    rw [hcs] at h3
    have hpt:=Yeb (d:=(elems[i]'Zi).1) (l:=elems.map (·.1)) (List.mem_map.2 ⟨_,List.mem_of_getElem? hx,rfl⟩)
    have hq':Rows.uptoBulk (.slice (elems.map (·.1)) (rest.map (·.1)):DataW H)≤1048576:=hq
    obtain ⟨d,hd,hw⟩:=he n Zi _ _ h3 Zi
    obtain ⟨_,hlen,hat⟩:=World.cells?_some hcs
    refine ⟨d,⟨cs',hd,fun j u hu=>?_⟩,fun y hy=>by rw [hx] at hy;injection hy with hy;subst hy;exact hw⟩
    have hj:j<cs'.length:=(List.getElem?_eq_some_iff.1 hu).1
    rw [← hc]
    exact cellF_of ((hat j Zi).trans hu))
  have hq':Rows.uptoBulk (.slice (elems.map (·.1)) (rest.map (·.1)):DataW H)≤1048576:=hq
  refine ⟨ds,⟨some a,len,cap,rfl,h1,hl,by simpa [maxLen] using hm,by omega,.inr ⟨a,rfl,fun i d hd=>(h2 i d hd).1⟩⟩,?_⟩
  have:=Yh6 (wt:=wt) (ds:=ds) (l:=elems.map (·.1)) (by rw [List.length_map];omega) (fun i d x hd hx=>by
   rw [List.getElem?_map] at hx
   cases hy:elems[i]? with
   | none=>rw [hy] at hx;cases hx
   | some y=>rw [hy] at hx;injection hx with hx;subst hx;exact (h2 i d hd).2 y hy)
  exact Nat.le_trans (Nat.le_trans this (Nat.le_succ _)) hbd
theorem YO {α:Type} {L:Lay α} {wt:α→Nat} {fs:Array Field} {cs:List Value} {xs:List (DataW H × List MemPlace)} {n k:Nat} (hf:∀ (i:Nat) (f:Field),fs[i]?=some f→DataW.trod enc P w base spare held n f.type ((cs.drop f.offset).take (P.cellsOf f.type))=xs[i]?)
 (hq:Rows.uptoBulkAll (xs.map (·.1))≤1048576) {i:Nat} {f:Field} {y:DataW H × List MemPlace} (hi:fs[i]?=some f) (hy:xs[i]?=some y) (he:Yaa enc P w base spare held L wt f.type n) (hc:P.cellsOf f.type=k) {cs':List Value} (hv:(cs.drop f.offset).take k=cs'):
 ∃ d,L.rep (fzOf w) d cs'∧wt d≤Rows.uptoBulk y.1:=by
 have h1:=hf i f hi
 rw [hc,hy,hv] at h1
 have:=Yeb (d:=y.1) (l:=xs.map (·.1)) (List.mem_map.2 ⟨_,List.mem_of_getElem? hy,rfl⟩)
 exact he _ _ h1 Zi
end
section
variable {H:Type} {enc:TypeId × Value→H} {w:World} {base:Nat} {spare:Nat→Bool} {held:Bool}
theorem Yhz {fuel:Nat}:Yaa enc Tryz.prog w base spare held intL (fun _=>1) 3 fuel:=fun cs x h _=>by
 obtain ⟨n,h1,_,h2⟩:=DataW.trod_int Tryz.underlying3 h
 exact ⟨n,⟨h1,by simp [Lit.wf,IntKind.min,IntKind.max,IntKind.signed,IntKind.bits] at h2;unfold I64;omega⟩,Yfv _⟩
theorem WY {fuel:Nat}:Yaa enc Tryz.prog w base spare held strL strW 9 fuel:=fun cs x h _=>by
 obtain ⟨s,h1,_,h2⟩:=DataW.trod_string Tryz.underlying9 h
 exact ⟨s,⟨h1,by simpa [maxLen] using h2⟩,Yfv _⟩
theorem YdM {fuel:Nat}:Yaa enc Tryz.prog w base spare held (slL strL) (fun l=>(l.map strW).sum) 32 fuel:=X5 Tryz.underlying32 Zj (fun _ _=>WY)
theorem Yf5 {fuel:Nat}:Yaa enc Tryz.prog w base spare held paramL parW 138 fuel:=fun cs x h hq0=>by
 obtain ⟨xs,n,hfu,rfl,hcl,hxl,hf⟩:=DataW.trod_struct Tryz.underlying138 h
 have hc:Tryz.prog.cellsOf 138=2:=by kernel_rfl
 rw [hc] at hcl
 have hq:Rows.uptoBulkAll (xs.map (·.1))≤1048576:=by simp only [Rows.uptoBulk] at hq0;omega
 match cs,hcl,xs,hxl,hf,hq with
 | [v0,v1],_,[x0,x1],_,hf,hq=>
  obtain ⟨d0,r0,b0⟩:=(YO hf hq (i:=0) (k:=1) (y:=x0) (cs':=[v0]) rfl rfl WY Zj rfl)
  obtain ⟨rfl,k0⟩:=Ycc r0
  obtain ⟨d1,r1,b1⟩:=(YO hf hq (i:=1) (k:=1) (y:=x1) (cs':=[v1]) rfl rfl WY Zj rfl)
  obtain ⟨rfl,k1⟩:=Ycc r1
  refine ⟨⟨d0,d1⟩,⟨rfl,⟨k0,k1⟩⟩,?_⟩
  simp only [List.map_cons,List.map_nil,Rows.uptoBulk,Rows.uptoBulkAll,parW]
  simp only [YbJ,YbK] at*
  omega
theorem Ych {fuel:Nat}:Yaa enc Tryz.prog w base spare held (slL paramL) (fun l=>(l.map parW).sum) 22 fuel:=X5 Tryz.underlying22 Zj (fun _ _=>Yf5)
theorem YdN {fuel:Nat}:Yaa enc Tryz.prog w base spare held atomL Ydj 108 fuel:=fun cs x h hq0=>by
 obtain ⟨xs,n,hfu,rfl,hcl,hxl,hf⟩:=DataW.trod_struct Tryz.underlying108 h
 have hc:Tryz.prog.cellsOf 108=2:=by kernel_rfl
 rw [hc] at hcl
 have hq:Rows.uptoBulkAll (xs.map (·.1))≤1048576:=by simp only [Rows.uptoBulk] at hq0;omega
 match cs,hcl,xs,hxl,hf,hq with
 | [v0,v1],_,[x0,x1],_,hf,hq=>
  obtain ⟨d0,r0,b0⟩:=(YO hf hq (i:=0) (k:=1) (y:=x0) (cs':=[v0]) rfl rfl WY Zj rfl)
  obtain ⟨rfl,k0⟩:=Ycc r0
  obtain ⟨d1,r1,b1⟩:=(YO hf hq (i:=1) (k:=1) (y:=x1) (cs':=[v1]) rfl rfl YdM Zj rfl)
  have k1:=YaL r1
  refine ⟨⟨d0,d1⟩,⟨_,rfl,⟨k0,k1⟩⟩,?_⟩
  simp only [List.map_cons,List.map_nil,Rows.uptoBulk,Rows.uptoBulkAll,Ydj]
  simp only [YbJ,YbK] at*
  omega
theorem Yf7 {fuel:Nat}:Yaa enc Tryz.prog w base spare held (slL atomL) (fun l=>(l.map Ydj).sum) 30 fuel:=X5 Tryz.underlying30 Zj (fun _ _=>YdN)
theorem Yf4 {fuel:Nat}:Yaa enc Tryz.prog w base spare held valueL YbW 111 fuel:=fun cs x h hq0=>by
 obtain ⟨xs,n,hfu,rfl,hcl,hxl,hf⟩:=DataW.trod_struct Tryz.underlying111 h
 have hc:Tryz.prog.cellsOf 111=3:=by kernel_rfl
 rw [hc] at hcl
 have hq:Rows.uptoBulkAll (xs.map (·.1))≤1048576:=by simp only [Rows.uptoBulk] at hq0;omega
 match cs,hcl,xs,hxl,hf,hq with
 | [v0,v1,v2],_,[x0,x1],_,hf,hq=>
  obtain ⟨d0,r0,b0⟩:=(YO hf hq (i:=0) (k:=2) (y:=x0) (cs':=[v0,v1]) rfl rfl YdN Zj rfl)
  obtain ⟨y0_0,e0,k0⟩:=WX r0
  simp only [List.cons.injEq,and_true] at e0
  obtain ⟨rfl,rfl⟩:=e0
  obtain ⟨d1,r1,b1⟩:=(YO hf hq (i:=1) (k:=1) (y:=x1) (cs':=[v2]) rfl rfl Yhz Zj rfl)
  obtain ⟨rfl,k1⟩:=int_of r1
  refine ⟨⟨d0,d1⟩,⟨_,rfl,⟨k0,k1⟩⟩,?_⟩
  simp only [List.map_cons,List.map_nil,Rows.uptoBulk,Rows.uptoBulkAll,YbW]
  simp only [YbJ,YbK] at*
  omega
theorem Yfa {fuel:Nat}:Yaa enc Tryz.prog w base spare held (slL valueL) (fun l=>(l.map YbW).sum) 31 fuel:=X5 Tryz.underlying31 Zj (fun _ _=>Yf4)
theorem YgU:∀ fuel:Nat,Yaa enc Tryz.prog w base spare held exprL eW 75 fuel:=fun fuel=>by
 induction fuel using Nat.strongRecOn with
 | _ fuel ih=>
  intro cs x h hq0
  obtain ⟨xs,n,hfu,rfl,hcl,hxl,hf⟩:=DataW.trod_struct Tryz.underlying75 h
  have hc:Tryz.prog.cellsOf 75=5:=by kernel_rfl
  rw [hc] at hcl
  have hq:Rows.uptoBulkAll (xs.map (·.1))≤1048576:=by simp only [Rows.uptoBulk] at hq0;omega
  match cs,hcl,xs,hxl,hf,hq with
  | [v0,v1,v2,v3,v4],_,[x0,x1,x2,x3,x4],_,hf,hq=>
   obtain ⟨d0,r0,b0⟩:=(YO hf hq (i:=0) (k:=1) (y:=x0) (cs':=[v0]) rfl rfl WY Zj rfl)
   obtain ⟨rfl,k0⟩:=Ycc r0
   obtain ⟨d1,r1,b1⟩:=(YO hf hq (i:=1) (k:=1) (y:=x1) (cs':=[v1]) rfl rfl WY Zj rfl)
   obtain ⟨rfl,k1⟩:=Ycc r1
   obtain ⟨d2,r2,b2⟩:=(YO hf hq (i:=2) (k:=1) (y:=x2) (cs':=[v2]) rfl rfl Yhz Zj rfl)
   obtain ⟨rfl,k2⟩:=int_of r2
   obtain ⟨d3,r3,b3⟩:=(YO hf hq (i:=3) (k:=1) (y:=x3) (cs':=[v3]) rfl rfl YdM Zj rfl)
   have k3:=YaL r3
   obtain ⟨d4,r4,b4⟩:=(YO hf hq (i:=4) (k:=1) (y:=x4) (cs':=[v4]) rfl rfl (X5 (L:=exprL) Tryz.underlying33 Zj (fun m hm=>ih m Zi)) Zj rfl)
   have k4:=YaL r4
   refine ⟨.mk d0 d1 d2 d3 d4,YbR (x:=.mk d0 d1 d2 d3 d4) ⟨k0,k1,k2,k3,k4⟩,?_⟩
   simp only [List.map_cons,List.map_nil,Rows.uptoBulk,Rows.uptoBulkAll,eW_eq,Expr.args,Expr.kids]
   simp only [YbJ,YbK] at*
   omega
theorem Yf6 {fuel:Nat}:Yaa enc Tryz.prog w base spare held (slL exprL) (fun l=>(l.map eW).sum) 33 fuel:=X5 Tryz.underlying33 Zj (fun _ _=>YgU _)
theorem Yel:∀ fuel:Nat,Yaa enc Tryz.prog w base spare held Wi fW 36 fuel:=fun fuel=>by
 induction fuel using Nat.strongRecOn with
 | _ fuel ih=>
  intro cs x h hq0
  obtain ⟨xs,n,hfu,rfl,hcl,hxl,hf⟩:=DataW.trod_struct Tryz.underlying36 h
  have hc:Tryz.prog.cellsOf 36=6:=by kernel_rfl
  rw [hc] at hcl
  have hq:Rows.uptoBulkAll (xs.map (·.1))≤1048576:=by simp only [Rows.uptoBulk] at hq0;omega
  match cs,hcl,xs,hxl,hf,hq with
  | [v0,v1,v2,v3,v4,v5],_,[x0,x1,x2,x3,x4,x5],_,hf,hq=>
   obtain ⟨d0,r0,b0⟩:=(YO hf hq (i:=0) (k:=1) (y:=x0) (cs':=[v0]) rfl rfl WY Zj rfl)
   obtain ⟨rfl,k0⟩:=Ycc r0
   obtain ⟨d1,r1,b1⟩:=(YO hf hq (i:=1) (k:=1) (y:=x1) (cs':=[v1]) rfl rfl WY Zj rfl)
   obtain ⟨rfl,k1⟩:=Ycc r1
   obtain ⟨d2,r2,b2⟩:=(YO hf hq (i:=2) (k:=1) (y:=x2) (cs':=[v2]) rfl rfl YdM Zj rfl)
   have k2:=YaL r2
   obtain ⟨d3,r3,b3⟩:=(YO hf hq (i:=3) (k:=1) (y:=x3) (cs':=[v3]) rfl rfl Ych Zj rfl)
   have k3:=YaL r3
   obtain ⟨d4,r4,b4⟩:=(YO hf hq (i:=4) (k:=1) (y:=x4) (cs':=[v4]) rfl rfl Yf6 Zj rfl)
   have k4:=YaL r4
   obtain ⟨d5,r5,b5⟩:=(YO hf hq (i:=5) (k:=1) (y:=x5) (cs':=[v5]) rfl rfl (X5 (L:=Wi) Tryz.underlying34 Zj (fun m hm=>ih m Zi)) Zj rfl)
   have k5:=YaL r5
   refine ⟨.mk d0 d1 d2 d3 d4 d5,Ybc (x:=.mk d0 d1 d2 d3 d4 d5) ⟨k0,k1,k2,k3,k4,k5⟩,?_⟩
   simp only [List.map_cons,List.map_nil,Rows.uptoBulk,Rows.uptoBulkAll,fW_eq,Formula.args,Formula.params,Formula.exprs,Formula.kids]
   simp only [YbJ,YbK] at*
   omega
theorem Yek {fuel:Nat}:Yaa enc Tryz.prog w base spare held problemL prbW 38 fuel:=fun cs x h hq0=>by
 obtain ⟨xs,n,hfu,rfl,hcl,hxl,hf⟩:=DataW.trod_struct Tryz.underlying38 h
 have hc:Tryz.prog.cellsOf 38=11:=by kernel_rfl
 rw [hc] at hcl
 have hq:Rows.uptoBulkAll (xs.map (·.1))≤1048576:=by simp only [Rows.uptoBulk] at hq0;omega
 match cs,hcl,xs,hxl,hf,hq with
 | [v0,v1,v2,v3,v4,v5,v6,v7,v8,v9,v10],_,[x0,x1,x2,x3,x4,x5],_,hf,hq=>
  obtain ⟨d0,r0,b0⟩:=(YO hf hq (i:=0) (k:=1) (y:=x0) (cs':=[v0]) rfl rfl WY Zj rfl)
  obtain ⟨rfl,k0⟩:=Ycc r0
  obtain ⟨d1,r1,b1⟩:=(YO hf hq (i:=1) (k:=1) (y:=x1) (cs':=[v1]) rfl rfl WY Zj rfl)
  obtain ⟨rfl,k1⟩:=Ycc r1
  obtain ⟨d2,r2,b2⟩:=(YO hf hq (i:=2) (k:=1) (y:=x2) (cs':=[v2]) rfl rfl Ych Zj rfl)
  have k2:=YaL r2
  obtain ⟨d3,r3,b3⟩:=(YO hf hq (i:=3) (k:=1) (y:=x3) (cs':=[v3]) rfl rfl Yf7 Zj rfl)
  have k3:=YaL r3
  obtain ⟨d4,r4,b4⟩:=(YO hf hq (i:=4) (k:=1) (y:=x4) (cs':=[v4]) rfl rfl Yfa Zj rfl)
  have k4:=YaL r4
  obtain ⟨d5,r5,b5⟩:=(YO hf hq (i:=5) (k:=6) (y:=x5) (cs':=[v5,v6,v7,v8,v9,v10]) rfl rfl (Yel _) Zj rfl)
  obtain ⟨y5_0,y5_1,y5_2,y5_3,e5,k5⟩:=Xc r5
  simp only [List.cons.injEq,and_true] at e5
  obtain ⟨rfl,rfl,rfl,rfl,rfl,rfl⟩:=e5
  refine ⟨⟨d0,d1,d2,d3,d4,d5⟩,⟨_,_,_,_,_,_,_,rfl,⟨k0,k1,k2,k3,k4,k5⟩⟩,?_⟩
  simp only [List.map_cons,List.map_nil,Rows.uptoBulk,Rows.uptoBulkAll,prbW]
  simp only [YbJ,YbK] at*
  omega
theorem Yf8 {α:Type} {L:Lay α} {wt:α→Nat} {t:TypeId} {fs:Array Field} {r:Reach} {b0:Nat} {v:Value} {d:DataW H} {p:List MemPlace} (hu:Tryz.prog.underlying t=some (.struct fs)) (ho:∀ fuel,Yaa enc Tryz.prog w base spare held L wt t fuel) (hv:Value.okWide Tryz.prog w r b0 t v) (h:DataW.Trod enc Tryz.prog w base spare held t v d p) (hq:Rows.uptoBulk d≤1048576):
 ∃ x cs,v=.agg (List.toArray cs)∧L.rep (fzOf w) x cs∧wt x≤1048576:=by
 obtain ⟨cs,rfl,hsz⟩:=okWide_struct hu hv
 obtain ⟨l⟩:=cs
 obtain ⟨fuel,hf⟩:=h
 obtain ⟨x,hx,hw⟩:=ho fuel _ _ hf hq
 exact ⟨x,l,rfl,hx,Nat.le_trans hw hq⟩
end
end Go.Proofs.YtbhlgkibgajajaaGreatDoor
namespace Go.Proofs.YtbhlgkibgajajaaGreatDoor
open Go.ChangeShapes Go.WideShapes Go.ChangeAt Go.RowKit Go.Lx
theorem Ydf:ownKnob Tryz.prog.godebug=none:=by kernel_rfl
theorem Ydh:laidOutB Tryz.prog=true:=by kernel_rfl
theorem YgG {W:World} (h:laidMetH Tryz.prog Rows.printerProblemUptoRow.laid W):TabF (fzOf W):=by
 have h1:=h.filter (fun x=>x.1== "internal/strconv.uint64pow10")
 have h2:laidMetH Tryz.prog [("internal/strconv.uint64pow10",Rows.laid_internal_strconv_uint64pow10)] W:=h1
 rw [MakeChecks.laidMetH_plain _ _ _ Zj] at h2
 have h3:Lib.TabIs Tryz.prog W "internal/strconv.uint64pow10" .u64 Lib.pow10Tab:=Lib.tabIs_of_head (rest:=[]) (g:=0) (t:=293) (e:=263) (n:=20) Zj Zj Tryz.underlying293 Tryz.underlying263 Zj Zj h2
 intro w hw
 have hg:Tryz.prog.globalNamed "internal/strconv.uint64pow10"=some 0:=by kernel_rfl
 unfold Lib.TabIs World.var? at h3 ⊢
 rw [hg] at h3 ⊢
 simp only [Option.bind_some] at h3 ⊢
 cases hb:W.heap[0]? with
 | none=>rw [hb] at h3;cases h3
 | some o=>
  rw [hb] at h3
  rw [hw.keep 0 o hb]
  exact h3
theorem Ye6 (os:Os) {H:Type} (enc:TypeId × Value→H):∃ places,DataW.whole enc Tryz.prog ((World.laidAll Tryz.prog os Rows.printerProblemUptoRow.laid).forCall (fun _ _=>0) ⟨#[],#[.agg #[.string ⟨#[]⟩,.string ⟨#[]⟩,.slice none 0 0,.slice none 0 0,.slice none 0 0,.string ⟨#[]⟩,.string ⟨#[]⟩,.slice none 0 0,.slice none 0 0,.slice none 0 0,.slice none 0 0]],[]⟩).memory Tryz.f5.params.toList (Rows.OpenSpec.upto Rows.printerProblemSpec).vars false (#[.agg #[.string ⟨#[]⟩,.string ⟨#[]⟩,.slice none 0 0,.slice none 0 0,.slice none 0 0,.string ⟨#[]⟩,.string ⟨#[]⟩,.slice none 0 0,.slice none 0 0,.slice none 0 0,.slice none 0 0]]:Array Value).toList 8=some ([.agg [.lit (.string []),.lit (.string []),.nil,.nil,.nil,.agg [.lit (.string []),.lit (.string []),.nil,.nil,.nil,.nil]]],[],places):=⟨[],by kernel_rfl⟩
set_option maxRecDepth 100000 in
set_option maxHeartbeats 4000000 in
theorem YdH (os:Os) (started:os.Started) (H:Type) (enc:TypeId × Value→H) (F:Stop.Interp):
 ReturnsInHanded {} Tryz.checked os 5 .any ((Rows.OpenSpec.upto Rows.printerProblemSpec).preRow enc Tryz.prog Tryz.f5 Rows.printerProblemUptoRow.domain false Rows.printerProblemUptoRow.laid) (((Rows.OpenSpec.upto Rows.printerProblemSpec).at F).post enc Tryz.prog Tryz.f5 false true false false):=by
 obtain ⟨places,hx⟩:=Ye6 os enc
 refine returnsInHanded_of_row (C:=Tryz.checked) (s:=Rows.OpenSpec.upto Rows.printerProblemSpec) Ydf started Zj Tryz.func5
  ⟨World.laidAll Tryz.prog os Rows.printerProblemUptoRow.laid,fun _ _=>0,⟨#[],#[.agg #[.string ⟨#[]⟩,.string ⟨#[]⟩,.slice none 0 0,.slice none 0 0,.slice none 0 0,.string ⟨#[]⟩,.string ⟨#[]⟩,.slice none 0 0,.slice none 0 0,.slice none 0 0,.slice none 0 0]],[]⟩,World.laidAll_os _ _ _,World.shaped_of_ZipB Zj Zj,rfl,(Input.okWide_of_okWideB Zj).2,
   OpenSpec.preRow_of_cond 8 hx Zj (fun k hk=>by cases hk;kernel_rfl) Zj (by rw [MakeChecks.laidMetH_plain _ _ _ Zj];exact laidMet_laidAll _ Zj Zj),
   by simp only [Assume.holds];exact ⟨by simp,by simp,fun _=>Modest.zero,by simp,by simp⟩⟩ ?_
 intro W base args ds gs before hval0 hW _ hcond _ hL _ _
 have hval:∀ (j:Nat) t v,Tryz.f5.params[j]?=some t→args[j]?=some v→Value.okWide Tryz.prog W .any base t v:=hval0
 have hbk:Rows.uptoSmall H (ds++gs)=true:=hcond _ rfl
 have hW':DataW.Whole enc Tryz.prog Tryz.f5.params.toList Rows.printerProblemSpec.vars false W args.toList ds gs before:=hW
 obtain ⟨p,q,hA0,hV,rfl,_,_⟩:=hW
 have hA:DataW.TrodAll enc Tryz.prog W 0 (fun _=>true) true Tryz.f5.params.toList args.toList ds p:=hA0
 rw [Tryz.params5] at hA hval
 obtain ⟨v0,d0,rfl,rfl,h0⟩:=trodAll_one hA
 obtain ⟨rfl,rfl⟩:=trodVars_none hV
 clear hA0 hval0
 simp only [List.append_nil] at hW'
 have hlt:∀ x∈p,x.block<W.heap.size:=fun x hx=>hW'.lt x hx
 have hq0:Rows.uptoBulk d0≤1048576:=by
  have h9:=of_decide_eq_true hbk
  simp only [List.append_nil,Rows.uptoBulkAll] at h9
  omega
 obtain ⟨x,cs,rfl,⟨u1,u2,u3,u4,u5,u6,u7,rfl,hg⟩,hw⟩:=Yf8 Tryz.underlying38 (fun _=>Yek) (hval 0 38 v0 rfl rfl) h0 hq0
 refine ((Ygc awake_p hg hw (YgG hL)).calls (hp_of W)).mono fun e W' ⟨he1,hfr⟩=>?_
 have hb:=below_of hfr
 have k0:=Below.trod Ydh Zj (of_decide_eq_true Zj) h0 hb (fun x hx=>hlt x (by simp [hx]))
 show ∃ v,e=.returned v∧Rows.printerProblemSpec.post enc Tryz.prog Tryz.f5 false true false false W _ v W'
 exact ⟨_,he1,[d0],[],_,[],_,[],hW',trodAll_mk1 (shut_bool Tryz.underlying4 true),trodAll_mk1 k0,rfl,hb.frame _,fun h=>by cases h⟩
end Go.Proofs.YtbhlgkibgajajaaGreatDoor
