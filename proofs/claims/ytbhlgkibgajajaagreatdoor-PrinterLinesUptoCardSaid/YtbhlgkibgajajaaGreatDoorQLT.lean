/- The texts EwF, PAwk, OpenA, GOpenA, POpenW, PRowLB, laid together. Conditions: none. -/
import Derived.Test.YtbhlgkibgajajaaGreatDoorQLN
import Derived.Test.YtbhlgkibgajajaaGreatDoorQLO
import Derived.Test.YtbhlgkibgajajaaGreatDoorQLP
import Derived.Test.YtbhlgkibgajajaaGreatDoorQLQ
import Derived.Test.YtbhlgkibgajajaaGreatDoorQLR
import Derived.Test.YtbhlgkibgajajaaGreatDoorQLJ
import Derived.Test.YtbhlgkibgajajaaGreatDoorQLH
import Derived.Test.YtbhlgkibgajajaaGreatDoorQLG
import Derived.Test.YtbhlgkibgajajaaGreatDoorQLI
import Derived.Test.YtbhlgkibgajajaaGreatDoorQLK
import Derived.Test.YtbhlgkibgajajaaGreatDoorQLF
import Derived.Test.YtbhlgkibgajajaaGreatDoorQLB
import Derived.Test.YtbhlgkibgajajaaGreatDoorQLEwI
import Derived.Test.YtbhlgkibgajajaaGreatDoorQLL
import Derived.Test.YtbhlgkibgajajaaGreatDoorQLC
import Derived.ChangeSame
import Derived.Below
import Derived.ProofKit
import Derived.Test.YtbhlgkibgajajaaGreatDoorQLD
import Derived.Deep.Slices
import Derived.SizedLaws
import Derived.Carry
import Derived.Test.YtbhlgkibgajajaaGreatDoorQLE
import Derived.Test.YtbhlgkibgajajaaGreatDoorRows
import Derived.Test.YtbhlgkibgajajaaGreatDoorQLM
import Derived.Lay
import Derived.LaidOnce
import Derived.MakeChecks
import Derived.LaidSub
import Derived.Deep.DeepHandedRow
import Derived.Lib.LaidTab
namespace Go.Proofs.YtbhlgkibgajajaaGreatDoor
open Go.Lx Go.Ev
noncomputable def F0:FF:=withM tF.get 244 .ibs
theorem F0_ok:FA Tryz.prog tT.get F0:=FA_with tF_ok ibs_ok
theorem mixed:Tryz.prog.follows .mixedOrders=true:=T.mixed
end Go.Proofs.YtbhlgkibgajajaaGreatDoor
namespace Go.Proofs.YtbhlgkibgajajaaGreatDoor
open Go.Lx Go.Ev Go.RowKit
attribute [local instance 10] Classical.propDecidable
set_option maxRecDepth 100000
def Yik:AV→Bool
 | .tup [.agg [.s [100],.sl none 0 0 none,.sl none 0 0 none,.sl none 0 0 none,.sl none 0 0 none,.sl none 0 0 none,.sl none 0 0 none],.agg [.s [112],.s [100],.sl none 0 0 none,.sl none 0 0 none,.sl none 0 0 none,.s [97,110,100],.s [],.sl none 0 0 none,.sl none 0 0 none,.sl none 0 0 none,.sl none 0 0 none],.s [],.ni]=>true
 | _=>false
def loadV:Value:=.tuple #[.agg #[.string ⟨#[100]⟩,.slice none 0 0,.slice none 0 0,.slice none 0 0,.slice none 0 0,.slice none 0 0,.slice none 0 0],.agg #[.string ⟨#[112]⟩,.string ⟨#[100]⟩,.slice none 0 0,.slice none 0 0,.slice none 0 0,.string ⟨#[97,110,100]⟩,.string ⟨#[]⟩,.slice none 0 0,.slice none 0 0,.slice none 0 0,.slice none 0 0],.string ⟨#[]⟩,.nilIface]
theorem isLoad_s {ν:Nu} {a:AV} {v:Value} (h:Yik a=true) (hv:gv ν a=some v):v=loadV:=by
 unfold Yik at h
 split at h
 ·simp [gv,gvs,gA,gC] at hv
  rw [← hv]
  rfl
 ·cases h
def argA:List AV:=[.s [40,100,101,102,105,110,101,32,40,100,111,109,97,105,110,32,100,41,41],.s [40,100,101,102,105,110,101,32,40,112,114,111,98,108,101,109,32,112,41,32,40,58,100,111,109,97,105,110,32,100,41,41]]
theorem load_ev:evCall tT.get F0 1000000 15 argA Yik=true:=by kernel_rfl
theorem load_q (fz:FZ):QFn Tryz.prog 15 [.string ⟨#[40,100,101,102,105,110,101,32,40,100,111,109,97,105,110,32,100,41,41]⟩,.string ⟨#[40,100,101,102,105,110,101,32,40,112,114,111,98,108,101,109,32,112,41,32,40,58,100,111,109,97,105,110,32,100,41,41]⟩] fz loadV:=
 GFn.quiet ((evCall_s (fz:=fz) tT_ok F0_ok mixed (fun ν=>by simp [argA,gvs,gv];exact ⟨rfl,rfl⟩) load_ev).mono fun _ _ _ ⟨_,_,_,hv,hk⟩=>isLoad_s hk hv)
def kD:ByteArray:=⟨#[100]⟩
def dom0:Domain:=⟨kD,[],[],[],[],[],[]⟩
theorem dom0_R {fz:FZ}:DomainR fz dom0 (.slice none 0 0) (.slice none 0 0) (.slice none 0 0) (.slice none 0 0) (.slice none 0 0) (.slice none 0 0):=
 ⟨by unfold Short dom0 kD;decide,IsSl.nil,IsSl.nil,IsSl.nil,IsSl.nil,IsSl.nil,IsSl.nil⟩
theorem dom0_sm:DomSm dom0:=(YgT (d:=dom0) (by simp [domW,dom0])).sm
theorem let_word {s:ByteArray} (h1:s.data.toList≠ []) (h2:s.size≤32) (h3:∀ b∈s.data.toList,LetP b.toNat):WordT s:=by
 have hl:=YaA (s:=s)
 have h0:s≠X4:=fun h=>by rw [size0] at h;exact h1 (List.eq_nil_of_length_eq_zero Zi)
 have hp:0<s.size:=Nat.pos_of_ne_zero (fun h=>h0 (size0.2 h))
 obtain ⟨b,hb,hb2⟩:=Ya5 (s:=s) (k:=0) hp
 have hlet:LetP b.toNat:=by
  refine h3 b ?_
  have:=YgF hp
  rw [getElem?_pos s 0 hp] at hb
  injection hb with hb
  rw [hb] at this
  exact List.mem_of_getElem? this
 have ht:YaN s YaD=s:=by
  rw [YaN,if_neg (fun h=>by
   have h4:=(pre_dash hp).1 h
   rw [hb2] at h4
   unfold LetP at hlet;omega)]
 refine ⟨h0,h2,fun b hb=>.inl (h3 b hb),fun hn=>?_⟩
 have h5:=hn.1 0 (by rw [ht];exact hp)
 rw [ht,hb2] at h5
 unfold DigP at h5;unfold LetP at hlet;omega
def x0:Sexpr:=YM [Yi Y2,YM [Yi YZ,Yi kD]]
theorem domX_0:domX dom0=x0:=by
 unfold domX
 rw [show Ybg dom0.types=[] from rfl,show Ybg dom0.constants=[] from rfl,show dom0.predicates.map Yfa=[] from rfl,show dom0.functions.map funX=[] from rfl,show dom0.actions.map actX=[] from rfl,show dom0.duratives.map durX=[] from rfl,Yez,Yez,Yez,Yez]
 rfl
theorem x0_val:XVal x0:=by
 have w:∀ s:ByteArray,WordT s→XAll Ybx (Yi s):=fun s h=>Wf.2 ⟨.inl ⟨rfl,h,rfl,rfl⟩,by intro k hk;cases hk⟩
 have l:∀ ks:List Sexpr,(∀ k∈ks,XAll Ybx k)→XAll Ybx (YM ks):=fun ks h=>Wf.2 ⟨.inr (.inr ⟨rfl,rfl,rfl⟩),h⟩
 have wk:∀ s:ByteArray,s.data.toList≠ []→s.size≤32→(∀ b∈s.data.toList,LetP b.toNat)→XAll Ybx (Yi s):=fun s a b c=>w s (let_word a b c)
 refine ⟨?_,by decide,by decide⟩
 refine l _ fun k hk=>?_
 simp only [List.mem_cons,List.not_mem_nil,or_false] at hk
 rcases hk with rfl | rfl
 ·exact wk _ Zh Zh (by unfold LetP;decide)
 ·refine l _ fun k hk=>?_
  simp only [List.mem_cons,List.not_mem_nil,or_false] at hk
  rcases hk with rfl | rfl
  ·exact wk _ Zh Zh (by unfold LetP;decide)
  ·exact wk _ Zh Zh (by unfold LetP;decide)
theorem dom0_ok:Yds dom0:=by
 refine ⟨⟨fun i hi=>?_,fun h=>absurd (congrArg ByteArray.size h) Zh,by decide,?_⟩,(by intro p hp;cases hp),(by intro p hp;cases hp),(by intro p hp;cases hp),(by intro p hp;cases hp),(by intro p hp;cases hp),(by intro p hp;cases hp)⟩
 ·have h0:i=0:=by have:dom0.name.size=1:=rfl;omega
  subst h0
  refine .inl ?_
  unfold LetP
  decide
 ·unfold Yad
  simp only [List.mem_cons,List.not_mem_nil,or_false]
  rintro (h | h | h | h | h | h | h | h | h | h | h)<;>exact absurd (congrArg (fun s=>s.data.toList) h) Zh
theorem lay_0:lay 80 x0 0++ [10]=[40,100,101,102,105,110,101,32,40,100,111,109,97,105,110,32,100,41,41,10]:=by
 rw [YcF (.inr (.inr Zh))]
 rfl
theorem awake_p:AwkP:=fun fz hT=>by
 have hpd:=pdom_q (fz:=fz) dom0_R dom0_sm hT
 have hP:Yds dom0∧XVal (domX dom0):=⟨dom0_ok,by rw [domX_0];exact x0_val⟩
 rw [txtV,if_pos hP,if_pos hP,domX_0,lay_0,show errV 0=.nilIface from rfl] at hpd
 have hld:=load_q fz
 unfold loadV at hld
 refine GFn.quiet ?_
 (refine GFn.of_wp Tryz.func7 rfl Tryz.ntmps7 rfl rfl (fun w0=>?_))
 ((repeat (first | refine zS ?_ | refine zA fun _=>?_)))
 (((refine zG ?_));refine Yl Zz Zz hpd ?_)
 ((repeat (first | refine zS ?_ | refine zA fun _=>?_)))
 (((refine zG ?_));refine Yl Zz Zz hld ?_)
 ((repeat (first | refine zS ?_ | refine zA fun _=>?_)))
 ((refine zG ?_;refine zC (fun e1=>?_) (fun e1=>?_)))
 ·((repeat (first | refine zS ?_ | refine zA fun _=>?_)))
  ((refine zG ?_;refine zC (fun e2=>?_) (fun e2=>?_)))
  ·((repeat (first | refine zS ?_ | refine zA fun _=>?_)))
   ((refine zG ?_;refine zC (fun e3=>?_) (fun e3=>?_)))
   ·((repeat (first | refine zS ?_ | refine zA fun _=>?_)))
    ((refine zG ?_;refine zC (fun e4=>?_) (fun e4=>?_)))
    ·((repeat (first | refine zS ?_ | refine zA fun _=>?_)))
     (exact ret1 rfl rfl (Zb) rfl)
    ·exact absurd rfl e4
   ·exact absurd rfl e3
  ·exact absurd rfl e2
 ·exact absurd rfl e1
end Go.Proofs.YtbhlgkibgajajaaGreatDoor
namespace Go.Lx
open Go.RowKit
def fzOf (w:World):FZ:=fun g=>w.heap[g]?
theorem cellF_of {w:World} {p:Addr} {v:Value} (h:w.cell? p=some v):YbN (fzOf w) p=some v:=by
 unfold World.cell? at h
 unfold YbN fzOf
 exact h
theorem hp_of (w:World):Hp (fzOf w) [] w:=⟨fun _ _ h=>h,by simp,by simp⟩
theorem below_of {w w':World} (h:Fr [] w w'):Below w.heap.size w w':=⟨h.os,h.tape,h.output,h.size,fun k hk=>h.block k hk (by simp)⟩
theorem QFn.calls {P:Program} {f:FuncId} {args:List Value} {fz:FZ} {v:Value} (h:QFn P f args fz v) {w:World} (hw:Hp fz [] w):Calls P f args.toArray w fun e w'=>e=.returned v∧Fr [] w w':=by
 unfold QFn at h
 exact h.2 w hw
end Go.Lx
namespace Go.Lx
open Go.RowKit Go.ChangeShapes Go.WideShapes Go.Deep
theorem Yh7 {α:Type} {p:Nat→α→Prop}:∀ {n:Nat},(∀ i,i<n→∃ d,p i d)→∃ ds:List α,ds.length=n∧∀ i d,ds[i]?=some d→p i d
 | 0,_=>⟨[],rfl,by simp⟩
 | n+1,h=>by
  obtain ⟨ds,h1,h2⟩:=Yh7 (n:=n) (fun i hi=>h i Zi)
  obtain ⟨d,hd⟩:=h n Zi
  refine ⟨ds++ [d],by simp [h1],fun i e he=>?_⟩
  by_cases hi:i<ds.length
  ·rw [List.getElem?_append_left hi] at he;exact h2 i e he
  ·have hl:=(List.getElem?_eq_some_iff.1 he).1
   simp at hl
   have:i=n:=by omega
   subst this
   rw [List.getElem?_append_right Zi,h1] at he
   simp at he
   subst he
   exact hd
section
variable {H:Type} {enc:TypeId × Value→H} {P:Program} {w:World} {base:Nat} {spare:Nat→Bool} {held:Bool}
theorem Xm {α:Type} {L:Lay α} {fz:FZ} {xs:List α} {v:Value} (h:(slL L).rep fz xs [v]):IsSl L fz v xs:=by
 obtain ⟨A,n,c,e,hs⟩:=h
 injection e with e
 exact ⟨A,n,c,e,hs⟩
theorem YaM {fz:FZ} {s:ByteArray} {v:Value} (h:strL.rep fz s [v]):v=.string s∧Short s:=by
 obtain ⟨e,hs⟩:=h
 injection e with e
 exact ⟨e,hs⟩
theorem YdT {fz:FZ} {n:Int} {v:Value} (h:intL.rep fz n [v]):v=.int .i64 n∧I64 n:=by
 obtain ⟨e,hs⟩:=h
 injection e with e
 exact ⟨e,hs⟩
end
end Go.Lx
set_option maxRecDepth 100000
namespace Go.Proofs.YtbhlgkibgajajaaGreatDoor
open Go.Lx Go.RowKit Go.ChangeShapes Go.WideShapes Go.Deep
theorem YeL {H:Type} (d:DataW H):1≤Rows.uptoBulk d:=by
 cases d with
 | lit l=>cases l<;>simp [Rows.uptoBulk]
 | nil=>simp [Rows.uptoBulk]
 | ptr d=>simp [Rows.uptoBulk]
 | slice elems spare=>simp [Rows.uptoBulk]
 | agg parts=>simp [Rows.uptoBulk]
 | iface t d=>simp [Rows.uptoBulk]
 | map entries=>simp [Rows.uptoBulk]
 | held h=>simp [Rows.uptoBulk]
theorem Ydm {H:Type} {d:DataW H}:∀ {l:List (DataW H)},d∈l→Rows.uptoBulk d≤Rows.uptoBulkAll l
 | [],h=>by cases h
 | x::r,h=>by
  simp only [Rows.uptoBulkAll]
  rcases List.mem_cons.1 h with rfl | h
  ·omega
  ·have:=Ydm h;omega
theorem YgW {H:Type}:∀ (l:List (DataW H)),l.length≤Rows.uptoBulkAll l
 | []=>by simp [Rows.uptoBulkAll]
 | x::r=>by have:=YeL x;have:=YgW r;simp only [Rows.uptoBulkAll,List.length_cons];omega
theorem YgV {H α:Type} {wt:α→Nat}:∀ {l:List (DataW H)} {ds:List α},ds.length=l.length→(∀ (i:Nat) (d:α) (x:DataW H),ds[i]?=some d→l[i]?=some x→wt d≤Rows.uptoBulk x)→(ds.map wt).sum≤Rows.uptoBulkAll l
 | [],ds,h,_=>by
  have:ds=[]:=List.eq_nil_of_length_eq_zero (by simpa using h)
  subst this;simp
 | x::r,ds,h,hh=>by
  cases ds with
  | nil=>simp at h
  | cons d ds=>
   have h1:=hh 0 d x rfl rfl
   have h2:=YgV (l:=r) (ds:=ds) (wt:=wt) (by simpa using h) (fun i e y he hy=>hh (i+1) e y (by simpa using he) (by simpa using hy))
   simp only [List.map_cons,List.sum_cons,Rows.uptoBulkAll];omega
section
variable {H:Type} {enc:TypeId × Value→H} {P:Program} {w:World} {base:Nat} {spare:Nat→Bool} {held:Bool}
def XC (enc:TypeId × Value→H) (P:Program) (w:World) (base:Nat) (spare:Nat→Bool) (held:Bool) {α:Type} (L:Lay α) (wt:α→Nat) (t:TypeId) (fuel:Nat):Prop:=
 ∀ cs x,DataW.trod enc P w base spare held fuel t cs=some x→Rows.uptoBulk x.1≤1048576→∃ d,L.rep (fzOf w) d cs∧wt d≤Rows.uptoBulk x.1
theorem Xa {α:Type} {L:Lay α} {wt:α→Nat} {t e:TypeId} {fuel:Nat} (ht:P.underlying t=some (.slice e)) (hc:P.cellsOf e=L.size) (he:∀ n,n<fuel→XC enc P w base spare held L wt e n):XC enc P w base spare held (slL L) (fun l=>(l.map wt).sum) t fuel:=fun cs x h hq=>by
 rcases DataW.trod_slice ht h with ⟨rfl,_⟩ | ⟨a,len,cap,elems,rest,n,hfu,rfl,rfl,_,hl,hm,hlen,hel,_,_⟩
 ·exact ⟨[],⟨none,0,0,rfl,Sl.nil Zi⟩,by simp⟩
 ·have hbd:Rows.uptoBulkAll (elems.map (·.1))+1≤Rows.uptoBulk (.slice (elems.map (·.1)) (rest.map (·.1)):DataW H):=by simp only [Rows.uptoBulk];omega
  have hbl:=YgW (elems.map (·.1))
  rw [List.length_map] at hbl
  obtain ⟨ds,h1,h2⟩:=Yh7 (p:=fun i d=>At L (fzOf w) (a.add (i*L.size)) d∧∀ y,elems[i]?=some y→wt d≤Rows.uptoBulk y.1) (n:=len) (fun i hil=>by
   have hx:elems[i]?=some (elems[i]'Zi):=List.getElem?_eq_getElem _
   have h3:=hel i hil
   rw [hx] at h3
   cases hcs:w.cells? base (a.add (i*P.cellsOf e)) (P.cellsOf e) with
   | none=>rw [hcs] at h3;cases h3
   | some cs'=>
    rw [hcs] at h3
    have hpt:=Ydm (d:=(elems[i]'Zi).1) (l:=elems.map (·.1)) (List.mem_map.2 ⟨_,List.mem_of_getElem? hx,rfl⟩)
    have hq':Rows.uptoBulk (.slice (elems.map (·.1)) (rest.map (·.1)):DataW H)≤1048576:=hq
    obtain ⟨d,hd,hw⟩:=he n Zi _ _ h3 Zi
    obtain ⟨_,hlen,hat⟩:=World.cells?_some hcs
    refine ⟨d,⟨cs',hd,fun j u hu=>?_⟩,fun y hy=>by rw [hx] at hy;injection hy with hy;subst hy;exact hw⟩
    have hj:j<cs'.length:=(List.getElem?_eq_some_iff.1 hu).1
    rw [← hc]
    exact cellF_of ((hat j Zi).trans hu))
  have hq':Rows.uptoBulk (.slice (elems.map (·.1)) (rest.map (·.1)):DataW H)≤1048576:=hq
  refine ⟨ds,⟨some a,len,cap,rfl,h1,hl,by simpa [maxLen] using hm,by omega,.inr ⟨a,rfl,fun i d hd=>(h2 i d hd).1⟩⟩,?_⟩
  have:=YgV (wt:=wt) (ds:=ds) (l:=elems.map (·.1)) (by rw [List.length_map];omega) (fun i d x hd hx=>by
   rw [List.getElem?_map] at hx
   cases hy:elems[i]? with
   | none=>rw [hy] at hx;cases hx
   | some y=>rw [hy] at hx;injection hx with hx;subst hx;exact (h2 i d hd).2 y hy)
  exact Nat.le_trans (Nat.le_trans this (Nat.le_succ _)) hbd
theorem Yk {α:Type} {L:Lay α} {wt:α→Nat} {fs:Array Field} {cs:List Value} {xs:List (DataW H × List MemPlace)} {n k:Nat} (hf:∀ (i:Nat) (f:Field),fs[i]?=some f→DataW.trod enc P w base spare held n f.type ((cs.drop f.offset).take (P.cellsOf f.type))=xs[i]?)
 (hq:Rows.uptoBulkAll (xs.map (·.1))≤1048576) {i:Nat} {f:Field} {y:DataW H × List MemPlace} (hi:fs[i]?=some f) (hy:xs[i]?=some y) (he:XC enc P w base spare held L wt f.type n) (hc:P.cellsOf f.type=k) {cs':List Value} (hv:(cs.drop f.offset).take k=cs'):
 ∃ d,L.rep (fzOf w) d cs'∧wt d≤Rows.uptoBulk y.1:=by
 have h1:=hf i f hi
 rw [hc,hy,hv] at h1
 have:=Ydm (d:=y.1) (l:=xs.map (·.1)) (List.mem_map.2 ⟨_,List.mem_of_getElem? hy,rfl⟩)
 exact he _ _ h1 Zi
end
section
variable {H:Type} {enc:TypeId × Value→H} {w:World} {base:Nat} {spare:Nat→Bool} {held:Bool}
theorem Ybb {fuel:Nat}:XC enc Tryz.prog w base spare held intL (fun _=>1) 3 fuel:=fun cs x h _=>by
 obtain ⟨n,h1,_,h2⟩:=DataW.trod_int Tryz.underlying3 h
 exact ⟨n,⟨h1,by simp [Lit.wf,IntKind.min,IntKind.max,IntKind.signed,IntKind.bits] at h2;unfold I64;omega⟩,YeL _⟩
theorem XH {fuel:Nat}:XC enc Tryz.prog w base spare held strL strW 9 fuel:=fun cs x h _=>by
 obtain ⟨s,h1,_,h2⟩:=DataW.trod_string Tryz.underlying9 h
 exact ⟨s,⟨h1,by simpa [maxLen] using h2⟩,YeL _⟩
theorem Yc0 {fuel:Nat}:XC enc Tryz.prog w base spare held (slL strL) (fun l=>(l.map strW).sum) 32 fuel:=Xa Tryz.underlying32 Zj (fun _ _=>XH)
theorem Yfd {fuel:Nat}:XC enc Tryz.prog w base spare held paramL parW 138 fuel:=fun cs x h hq0=>by
 obtain ⟨xs,n,hfu,rfl,hcl,hxl,hf⟩:=DataW.trod_struct Tryz.underlying138 h
 have hc:Tryz.prog.cellsOf 138=2:=by kernel_rfl
 rw [hc] at hcl
 have hq:Rows.uptoBulkAll (xs.map (·.1))≤1048576:=by simp only [Rows.uptoBulk] at hq0;omega
 match cs,hcl,xs,hxl,hf,hq with
 | [v0,v1],_,[x0,x1],_,hf,hq=>
  obtain ⟨d0,r0,b0⟩:=(Yk hf hq (i:=0) (k:=1) (y:=x0) (cs':=[v0]) rfl rfl XH Zj rfl)
  obtain ⟨rfl,k0⟩:=YaM r0
  obtain ⟨d1,r1,b1⟩:=(Yk hf hq (i:=1) (k:=1) (y:=x1) (cs':=[v1]) rfl rfl XH Zj rfl)
  obtain ⟨rfl,k1⟩:=YaM r1
  refine ⟨⟨d0,d1⟩,⟨rfl,⟨k0,k1⟩⟩,?_⟩
  simp only [List.map_cons,List.map_nil,Rows.uptoBulk,Rows.uptoBulkAll,parW]
  simp only [WA,WB] at*
  omega
theorem Xh {fuel:Nat}:XC enc Tryz.prog w base spare held (slL paramL) (fun l=>(l.map parW).sum) 22 fuel:=Xa Tryz.underlying22 Zj (fun _ _=>Yfd)
theorem Yc2:∀ fuel:Nat,XC enc Tryz.prog w base spare held exprL eW 75 fuel:=fun fuel=>by
 induction fuel using Nat.strongRecOn with
 | _ fuel ih=>
  intro cs x h hq0
  obtain ⟨xs,n,hfu,rfl,hcl,hxl,hf⟩:=DataW.trod_struct Tryz.underlying75 h
  have hc:Tryz.prog.cellsOf 75=5:=by kernel_rfl
  rw [hc] at hcl
  have hq:Rows.uptoBulkAll (xs.map (·.1))≤1048576:=by simp only [Rows.uptoBulk] at hq0;omega
  match cs,hcl,xs,hxl,hf,hq with
  | [v0,v1,v2,v3,v4],_,[x0,x1,x2,x3,x4],_,hf,hq=>
   obtain ⟨d0,r0,b0⟩:=(Yk hf hq (i:=0) (k:=1) (y:=x0) (cs':=[v0]) rfl rfl XH Zj rfl)
   obtain ⟨rfl,k0⟩:=YaM r0
   obtain ⟨d1,r1,b1⟩:=(Yk hf hq (i:=1) (k:=1) (y:=x1) (cs':=[v1]) rfl rfl XH Zj rfl)
   obtain ⟨rfl,k1⟩:=YaM r1
   obtain ⟨d2,r2,b2⟩:=(Yk hf hq (i:=2) (k:=1) (y:=x2) (cs':=[v2]) rfl rfl Ybb Zj rfl)
   obtain ⟨rfl,k2⟩:=YdT r2
   obtain ⟨d3,r3,b3⟩:=(Yk hf hq (i:=3) (k:=1) (y:=x3) (cs':=[v3]) rfl rfl Yc0 Zj rfl)
   have k3:=Xm r3
   obtain ⟨d4,r4,b4⟩:=(Yk hf hq (i:=4) (k:=1) (y:=x4) (cs':=[v4]) rfl rfl (Xa (L:=exprL) Tryz.underlying33 Zj (fun m hm=>ih m Zi)) Zj rfl)
   have k4:=Xm r4
   refine ⟨.mk d0 d1 d2 d3 d4,Ybd (x:=.mk d0 d1 d2 d3 d4) ⟨k0,k1,k2,k3,k4⟩,?_⟩
   simp only [List.map_cons,List.map_nil,Rows.uptoBulk,Rows.uptoBulkAll,eW_eq,Expr.args,Expr.kids]
   simp only [WA,WB] at*
   omega
theorem Yfe {fuel:Nat}:XC enc Tryz.prog w base spare held (slL exprL) (fun l=>(l.map eW).sum) 33 fuel:=Xa Tryz.underlying33 Zj (fun _ _=>Yc2 _)
theorem XQ:∀ fuel:Nat,XC enc Tryz.prog w base spare held XU fW 36 fuel:=fun fuel=>by
 induction fuel using Nat.strongRecOn with
 | _ fuel ih=>
  intro cs x h hq0
  obtain ⟨xs,n,hfu,rfl,hcl,hxl,hf⟩:=DataW.trod_struct Tryz.underlying36 h
  have hc:Tryz.prog.cellsOf 36=6:=by kernel_rfl
  rw [hc] at hcl
  have hq:Rows.uptoBulkAll (xs.map (·.1))≤1048576:=by simp only [Rows.uptoBulk] at hq0;omega
  match cs,hcl,xs,hxl,hf,hq with
  | [v0,v1,v2,v3,v4,v5],_,[x0,x1,x2,x3,x4,x5],_,hf,hq=>
   obtain ⟨d0,r0,b0⟩:=(Yk hf hq (i:=0) (k:=1) (y:=x0) (cs':=[v0]) rfl rfl XH Zj rfl)
   obtain ⟨rfl,k0⟩:=YaM r0
   obtain ⟨d1,r1,b1⟩:=(Yk hf hq (i:=1) (k:=1) (y:=x1) (cs':=[v1]) rfl rfl XH Zj rfl)
   obtain ⟨rfl,k1⟩:=YaM r1
   obtain ⟨d2,r2,b2⟩:=(Yk hf hq (i:=2) (k:=1) (y:=x2) (cs':=[v2]) rfl rfl Yc0 Zj rfl)
   have k2:=Xm r2
   obtain ⟨d3,r3,b3⟩:=(Yk hf hq (i:=3) (k:=1) (y:=x3) (cs':=[v3]) rfl rfl Xh Zj rfl)
   have k3:=Xm r3
   obtain ⟨d4,r4,b4⟩:=(Yk hf hq (i:=4) (k:=1) (y:=x4) (cs':=[v4]) rfl rfl Yfe Zj rfl)
   have k4:=Xm r4
   obtain ⟨d5,r5,b5⟩:=(Yk hf hq (i:=5) (k:=1) (y:=x5) (cs':=[v5]) rfl rfl (Xa (L:=XU) Tryz.underlying34 Zj (fun m hm=>ih m Zi)) Zj rfl)
   have k5:=Xm r5
   refine ⟨.mk d0 d1 d2 d3 d4 d5,YaE (x:=.mk d0 d1 d2 d3 d4 d5) ⟨k0,k1,k2,k3,k4,k5⟩,?_⟩
   simp only [List.map_cons,List.map_nil,Rows.uptoBulk,Rows.uptoBulkAll,fW_eq,Formula.args,Formula.params,Formula.exprs,Formula.kids]
   simp only [WA,WB] at*
   omega
theorem Yer {fuel:Nat}:XC enc Tryz.prog w base spare held changeL XZ 77 fuel:=fun cs x h hq0=>by
 obtain ⟨xs,n,hfu,rfl,hcl,hxl,hf⟩:=DataW.trod_struct Tryz.underlying77 h
 have hc:Tryz.prog.cellsOf 77=15:=by kernel_rfl
 rw [hc] at hcl
 have hq:Rows.uptoBulkAll (xs.map (·.1))≤1048576:=by simp only [Rows.uptoBulk] at hq0;omega
 match cs,hcl,xs,hxl,hf,hq with
 | [v0,v1,v2,v3,v4,v5,v6,v7,v8,v9,v10,v11,v12,v13,v14],_,[x0,x1,x2,x3,x4,x5],_,hf,hq=>
  obtain ⟨d0,r0,b0⟩:=(Yk hf hq (i:=0) (k:=1) (y:=x0) (cs':=[v0]) rfl rfl Ybb Zj rfl)
  obtain ⟨rfl,k0⟩:=YdT r0
  obtain ⟨d1,r1,b1⟩:=(Yk hf hq (i:=1) (k:=1) (y:=x1) (cs':=[v1]) rfl rfl Xh Zj rfl)
  have k1:=Xm r1
  obtain ⟨d2,r2,b2⟩:=(Yk hf hq (i:=2) (k:=6) (y:=x2) (cs':=[v2,v3,v4,v5,v6,v7]) rfl rfl (XQ _) Zj rfl)
  obtain ⟨y2_0,y2_1,y2_2,y2_3,e2,k2⟩:=YT r2
  simp only [List.cons.injEq,and_true] at e2
  obtain ⟨rfl,rfl,rfl,rfl,rfl,rfl⟩:=e2
  obtain ⟨d3,r3,b3⟩:=(Yk hf hq (i:=3) (k:=1) (y:=x3) (cs':=[v8]) rfl rfl XH Zj rfl)
  obtain ⟨rfl,k3⟩:=YaM r3
  obtain ⟨d4,r4,b4⟩:=(Yk hf hq (i:=4) (k:=1) (y:=x4) (cs':=[v9]) rfl rfl Yc0 Zj rfl)
  have k4:=Xm r4
  obtain ⟨d5,r5,b5⟩:=(Yk hf hq (i:=5) (k:=5) (y:=x5) (cs':=[v10,v11,v12,v13,v14]) rfl rfl (Yc2 _) Zj rfl)
  obtain ⟨y5_0,y5_1,e5,k5⟩:=YR r5
  simp only [List.cons.injEq,and_true] at e5
  obtain ⟨rfl,rfl,rfl,rfl,rfl⟩:=e5
  refine ⟨⟨d0,d1,d2,d3,d4,d5⟩,⟨_,_,_,_,_,_,_,_,rfl,⟨k0,k1,k2,k3,k4,k5⟩⟩,?_⟩
  simp only [List.map_cons,List.map_nil,Rows.uptoBulk,Rows.uptoBulkAll,XZ]
  simp only [WA,WB] at*
  omega
theorem W9 {fuel:Nat}:XC enc Tryz.prog w base spare held (slL changeL) (fun l=>(l.map XZ).sum) 53 fuel:=Xa Tryz.underlying53 Zj (fun _ _=>Yer)
theorem Ycw {fuel:Nat}:XC enc Tryz.prog w base spare held predicateL Yfc 95 fuel:=fun cs x h hq0=>by
 obtain ⟨xs,n,hfu,rfl,hcl,hxl,hf⟩:=DataW.trod_struct Tryz.underlying95 h
 have hc:Tryz.prog.cellsOf 95=2:=by kernel_rfl
 rw [hc] at hcl
 have hq:Rows.uptoBulkAll (xs.map (·.1))≤1048576:=by simp only [Rows.uptoBulk] at hq0;omega
 match cs,hcl,xs,hxl,hf,hq with
 | [v0,v1],_,[x0,x1],_,hf,hq=>
  obtain ⟨d0,r0,b0⟩:=(Yk hf hq (i:=0) (k:=1) (y:=x0) (cs':=[v0]) rfl rfl XH Zj rfl)
  obtain ⟨rfl,k0⟩:=YaM r0
  obtain ⟨d1,r1,b1⟩:=(Yk hf hq (i:=1) (k:=1) (y:=x1) (cs':=[v1]) rfl rfl Xh Zj rfl)
  have k1:=Xm r1
  refine ⟨⟨d0,d1⟩,⟨_,rfl,⟨k0,k1⟩⟩,?_⟩
  simp only [List.map_cons,List.map_nil,Rows.uptoBulk,Rows.uptoBulkAll,Yfc]
  simp only [WA,WB] at*
  omega
theorem Yb2 {fuel:Nat}:XC enc Tryz.prog w base spare held (slL predicateL) (fun l=>(l.map Yfc).sum) 23 fuel:=Xa Tryz.underlying23 Zj (fun _ _=>Ycw)
theorem Yc1 {fuel:Nat}:XC enc Tryz.prog w base spare held functionL funW 97 fuel:=fun cs x h hq0=>by
 obtain ⟨xs,n,hfu,rfl,hcl,hxl,hf⟩:=DataW.trod_struct Tryz.underlying97 h
 have hc:Tryz.prog.cellsOf 97=4:=by kernel_rfl
 rw [hc] at hcl
 have hq:Rows.uptoBulkAll (xs.map (·.1))≤1048576:=by simp only [Rows.uptoBulk] at hq0;omega
 match cs,hcl,xs,hxl,hf,hq with
 | [v0,v1,v2,v3],_,[x0,x1,x2,x3],_,hf,hq=>
  obtain ⟨d0,r0,b0⟩:=(Yk hf hq (i:=0) (k:=1) (y:=x0) (cs':=[v0]) rfl rfl XH Zj rfl)
  obtain ⟨rfl,k0⟩:=YaM r0
  obtain ⟨d1,r1,b1⟩:=(Yk hf hq (i:=1) (k:=1) (y:=x1) (cs':=[v1]) rfl rfl Xh Zj rfl)
  have k1:=Xm r1
  obtain ⟨d2,r2,b2⟩:=(Yk hf hq (i:=2) (k:=1) (y:=x2) (cs':=[v2]) rfl rfl Ybb Zj rfl)
  obtain ⟨rfl,k2⟩:=YdT r2
  obtain ⟨d3,r3,b3⟩:=(Yk hf hq (i:=3) (k:=1) (y:=x3) (cs':=[v3]) rfl rfl Ybb Zj rfl)
  obtain ⟨rfl,k3⟩:=YdT r3
  refine ⟨⟨d0,d1,d2,d3⟩,⟨_,rfl,⟨k0,k1,k2,k3⟩⟩,?_⟩
  simp only [List.map_cons,List.map_nil,Rows.uptoBulk,Rows.uptoBulkAll,funW]
  simp only [WA,WB] at*
  omega
theorem Ycx {fuel:Nat}:XC enc Tryz.prog w base spare held (slL functionL) (fun l=>(l.map funW).sum) 24 fuel:=Xa Tryz.underlying24 Zj (fun _ _=>Yc1)
theorem Yes {fuel:Nat}:XC enc Tryz.prog w base spare held actionL actW 55 fuel:=fun cs x h hq0=>by
 obtain ⟨xs,n,hfu,rfl,hcl,hxl,hf⟩:=DataW.trod_struct Tryz.underlying55 h
 have hc:Tryz.prog.cellsOf 55=10:=by kernel_rfl
 rw [hc] at hcl
 have hq:Rows.uptoBulkAll (xs.map (·.1))≤1048576:=by simp only [Rows.uptoBulk] at hq0;omega
 match cs,hcl,xs,hxl,hf,hq with
 | [v0,v1,v2,v3,v4,v5,v6,v7,v8,v9],_,[x0,x1,x2,x3,x4],_,hf,hq=>
  obtain ⟨d0,r0,b0⟩:=(Yk hf hq (i:=0) (k:=1) (y:=x0) (cs':=[v0]) rfl rfl XH Zj rfl)
  obtain ⟨rfl,k0⟩:=YaM r0
  obtain ⟨d1,r1,b1⟩:=(Yk hf hq (i:=1) (k:=1) (y:=x1) (cs':=[v1]) rfl rfl Xh Zj rfl)
  have k1:=Xm r1
  obtain ⟨d2,r2,b2⟩:=(Yk hf hq (i:=2) (k:=1) (y:=x2) (cs':=[v2]) rfl rfl Ybb Zj rfl)
  obtain ⟨rfl,k2⟩:=YdT r2
  obtain ⟨d3,r3,b3⟩:=(Yk hf hq (i:=3) (k:=6) (y:=x3) (cs':=[v3,v4,v5,v6,v7,v8]) rfl rfl (XQ _) Zj rfl)
  obtain ⟨y3_0,y3_1,y3_2,y3_3,e3,k3⟩:=YT r3
  simp only [List.cons.injEq,and_true] at e3
  obtain ⟨rfl,rfl,rfl,rfl,rfl,rfl⟩:=e3
  obtain ⟨d4,r4,b4⟩:=(Yk hf hq (i:=4) (k:=1) (y:=x4) (cs':=[v9]) rfl rfl W9 Zj rfl)
  have k4:=Xm r4
  refine ⟨⟨d0,d1,d2,d3,d4⟩,⟨_,_,_,_,_,_,rfl,⟨k0,k1,k2,k3,k4⟩⟩,?_⟩
  simp only [List.map_cons,List.map_nil,Rows.uptoBulk,Rows.uptoBulkAll,actW]
  simp only [WA,WB] at*
  omega
theorem Ydy {fuel:Nat}:XC enc Tryz.prog w base spare held (slL actionL) (fun l=>(l.map actW).sum) 25 fuel:=Xa Tryz.underlying25 Zj (fun _ _=>Yes)
theorem Yc3 {fuel:Nat}:XC enc Tryz.prog w base spare held durativeL durW 58 fuel:=fun cs x h hq0=>by
 obtain ⟨xs,n,hfu,rfl,hcl,hxl,hf⟩:=DataW.trod_struct Tryz.underlying58 h
 have hc:Tryz.prog.cellsOf 58=23:=by kernel_rfl
 rw [hc] at hcl
 have hq:Rows.uptoBulkAll (xs.map (·.1))≤1048576:=by simp only [Rows.uptoBulk] at hq0;omega
 match cs,hcl,xs,hxl,hf,hq with
 | [v0,v1,v2,v3,v4,v5,v6,v7,v8,v9,v10,v11,v12,v13,v14,v15,v16,v17,v18,v19,v20,v21,v22],_,[x0,x1,x2,x3,x4,x5,x6,x7],_,hf,hq=>
  obtain ⟨d0,r0,b0⟩:=(Yk hf hq (i:=0) (k:=1) (y:=x0) (cs':=[v0]) rfl rfl XH Zj rfl)
  obtain ⟨rfl,k0⟩:=YaM r0
  obtain ⟨d1,r1,b1⟩:=(Yk hf hq (i:=1) (k:=1) (y:=x1) (cs':=[v1]) rfl rfl Xh Zj rfl)
  have k1:=Xm r1
  obtain ⟨d2,r2,b2⟩:=(Yk hf hq (i:=2) (k:=1) (y:=x2) (cs':=[v2]) rfl rfl Ybb Zj rfl)
  obtain ⟨rfl,k2⟩:=YdT r2
  obtain ⟨d3,r3,b3⟩:=(Yk hf hq (i:=3) (k:=6) (y:=x3) (cs':=[v3,v4,v5,v6,v7,v8]) rfl rfl (XQ _) Zj rfl)
  obtain ⟨y3_0,y3_1,y3_2,y3_3,e3,k3⟩:=YT r3
  simp only [List.cons.injEq,and_true] at e3
  obtain ⟨rfl,rfl,rfl,rfl,rfl,rfl⟩:=e3
  obtain ⟨d4,r4,b4⟩:=(Yk hf hq (i:=4) (k:=6) (y:=x4) (cs':=[v9,v10,v11,v12,v13,v14]) rfl rfl (XQ _) Zj rfl)
  obtain ⟨y4_0,y4_1,y4_2,y4_3,e4,k4⟩:=YT r4
  simp only [List.cons.injEq,and_true] at e4
  obtain ⟨rfl,rfl,rfl,rfl,rfl,rfl⟩:=e4
  obtain ⟨d5,r5,b5⟩:=(Yk hf hq (i:=5) (k:=6) (y:=x5) (cs':=[v15,v16,v17,v18,v19,v20]) rfl rfl (XQ _) Zj rfl)
  obtain ⟨y5_0,y5_1,y5_2,y5_3,e5,k5⟩:=YT r5
  simp only [List.cons.injEq,and_true] at e5
  obtain ⟨rfl,rfl,rfl,rfl,rfl,rfl⟩:=e5
  obtain ⟨d6,r6,b6⟩:=(Yk hf hq (i:=6) (k:=1) (y:=x6) (cs':=[v21]) rfl rfl W9 Zj rfl)
  have k6:=Xm r6
  obtain ⟨d7,r7,b7⟩:=(Yk hf hq (i:=7) (k:=1) (y:=x7) (cs':=[v22]) rfl rfl W9 Zj rfl)
  have k7:=Xm r7
  refine ⟨⟨d0,d1,d2,d3,d4,d5,d6,d7⟩,⟨_,_,_,_,_,_,_,_,_,_,_,_,_,_,_,rfl,⟨k0,k1,k2,k3,k4,k5,k6,k7⟩⟩,?_⟩
  simp only [List.map_cons,List.map_nil,Rows.uptoBulk,Rows.uptoBulkAll,durW]
  simp only [WA,WB] at*
  omega
theorem Ycy {fuel:Nat}:XC enc Tryz.prog w base spare held (slL durativeL) (fun l=>(l.map durW).sum) 26 fuel:=Xa Tryz.underlying26 Zj (fun _ _=>Yc3)
theorem Yeq {fuel:Nat}:XC enc Tryz.prog w base spare held domainL domW 28 fuel:=fun cs x h hq0=>by
 obtain ⟨xs,n,hfu,rfl,hcl,hxl,hf⟩:=DataW.trod_struct Tryz.underlying28 h
 have hc:Tryz.prog.cellsOf 28=7:=by kernel_rfl
 rw [hc] at hcl
 have hq:Rows.uptoBulkAll (xs.map (·.1))≤1048576:=by simp only [Rows.uptoBulk] at hq0;omega
 match cs,hcl,xs,hxl,hf,hq with
 | [v0,v1,v2,v3,v4,v5,v6],_,[x0,x1,x2,x3,x4,x5,x6],_,hf,hq=>
  obtain ⟨d0,r0,b0⟩:=(Yk hf hq (i:=0) (k:=1) (y:=x0) (cs':=[v0]) rfl rfl XH Zj rfl)
  obtain ⟨rfl,k0⟩:=YaM r0
  obtain ⟨d1,r1,b1⟩:=(Yk hf hq (i:=1) (k:=1) (y:=x1) (cs':=[v1]) rfl rfl Xh Zj rfl)
  have k1:=Xm r1
  obtain ⟨d2,r2,b2⟩:=(Yk hf hq (i:=2) (k:=1) (y:=x2) (cs':=[v2]) rfl rfl Xh Zj rfl)
  have k2:=Xm r2
  obtain ⟨d3,r3,b3⟩:=(Yk hf hq (i:=3) (k:=1) (y:=x3) (cs':=[v3]) rfl rfl Yb2 Zj rfl)
  have k3:=Xm r3
  obtain ⟨d4,r4,b4⟩:=(Yk hf hq (i:=4) (k:=1) (y:=x4) (cs':=[v4]) rfl rfl Ycx Zj rfl)
  have k4:=Xm r4
  obtain ⟨d5,r5,b5⟩:=(Yk hf hq (i:=5) (k:=1) (y:=x5) (cs':=[v5]) rfl rfl Ydy Zj rfl)
  have k5:=Xm r5
  obtain ⟨d6,r6,b6⟩:=(Yk hf hq (i:=6) (k:=1) (y:=x6) (cs':=[v6]) rfl rfl Ycy Zj rfl)
  have k6:=Xm r6
  refine ⟨⟨d0,d1,d2,d3,d4,d5,d6⟩,⟨_,_,_,_,_,_,rfl,⟨k0,k1,k2,k3,k4,k5,k6⟩⟩,?_⟩
  simp only [List.map_cons,List.map_nil,Rows.uptoBulk,Rows.uptoBulkAll,domW]
  simp only [WA,WB] at*
  omega
theorem Yff {α:Type} {L:Lay α} {wt:α→Nat} {t:TypeId} {fs:Array Field} {r:Reach} {b0:Nat} {v:Value} {d:DataW H} {p:List MemPlace} (hu:Tryz.prog.underlying t=some (.struct fs)) (ho:∀ fuel,XC enc Tryz.prog w base spare held L wt t fuel) (hv:Value.okWide Tryz.prog w r b0 t v) (h:DataW.Trod enc Tryz.prog w base spare held t v d p) (hq:Rows.uptoBulk d≤1048576):
 ∃ x cs,v=.agg (List.toArray cs)∧L.rep (fzOf w) x cs∧wt x≤1048576:=by
 obtain ⟨cs,rfl,hsz⟩:=okWide_struct hu hv
 obtain ⟨l⟩:=cs
 obtain ⟨fuel,hf⟩:=h
 obtain ⟨x,hx,hw⟩:=ho fuel _ _ hf hq
 exact ⟨x,l,rfl,hx,Nat.le_trans hw hq⟩
end
end Go.Proofs.YtbhlgkibgajajaaGreatDoor
namespace Go.Proofs.YtbhlgkibgajajaaGreatDoor
open Go.ChangeShapes Go.WideShapes Go.ChangeAt Go.RowKit Go.Lx
theorem Ydx:ownKnob Tryz.prog.godebug=none:=by kernel_rfl
theorem Ydz:laidOutB Tryz.prog=true:=by kernel_rfl
theorem Yhz {W:World} (h:laidMetH Tryz.prog Rows.printerLinesUptoRow.laid W):TabF (fzOf W):=by
 have h1:=h.filter (fun x=>x.1== "internal/strconv.uint64pow10")
 have h2:laidMetH Tryz.prog [("internal/strconv.uint64pow10",Rows.laid_internal_strconv_uint64pow10)] W:=h1
 rw [MakeChecks.laidMetH_plain _ _ _ Zj] at h2
 have h3:Lib.TabIs Tryz.prog W "internal/strconv.uint64pow10" .u64 Lib.pow10Tab:=Lib.tabIs_of_head (rest:=[]) (g:=0) (t:=293) (e:=263) (n:=20) Zj Zj Tryz.underlying293 Tryz.underlying263 Zj Zj h2
 intro w hw
 have hg:Tryz.prog.globalNamed "internal/strconv.uint64pow10"=some 0:=by kernel_rfl
 unfold Lib.TabIs World.var? at h3 ⊢
 rw [hg] at h3 ⊢
 simp only [Option.bind_some] at h3 ⊢
 cases hb:W.heap[0]? with
 | none=>rw [hb] at h3;cases h3
 | some o=>
  rw [hb] at h3
  rw [hw.keep 0 o hb]
  exact h3
theorem YfN (os:Os) {H:Type} (enc:TypeId × Value→H):∃ places,DataW.whole enc Tryz.prog ((World.laidAll Tryz.prog os Rows.printerLinesUptoRow.laid).forCall (fun _ _=>0) ⟨#[],#[.agg #[.string ⟨#[]⟩,.slice none 0 0,.slice none 0 0,.slice none 0 0,.slice none 0 0,.slice none 0 0,.slice none 0 0]],[]⟩).memory Tryz.f4.params.toList (Rows.OpenSpec.upto Rows.printerLinesSpec).vars false (#[.agg #[.string ⟨#[]⟩,.slice none 0 0,.slice none 0 0,.slice none 0 0,.slice none 0 0,.slice none 0 0,.slice none 0 0]]:Array Value).toList 8=some ([.agg [.lit (.string []),.nil,.nil,.nil,.nil,.nil,.nil]],[],places):=⟨[],by kernel_rfl⟩
set_option maxRecDepth 100000 in
set_option maxHeartbeats 4000000 in
theorem Yen (os:Os) (started:os.Started) (H:Type) (enc:TypeId × Value→H) (F:Stop.Interp):
 ReturnsInHanded {} Tryz.checked os 4 .any ((Rows.OpenSpec.upto Rows.printerLinesSpec).preRow enc Tryz.prog Tryz.f4 Rows.printerLinesUptoRow.domain false Rows.printerLinesUptoRow.laid) (((Rows.OpenSpec.upto Rows.printerLinesSpec).at F).post enc Tryz.prog Tryz.f4 false true false false):=by
 obtain ⟨places,hx⟩:=YfN os enc
 refine returnsInHanded_of_row (C:=Tryz.checked) (s:=Rows.OpenSpec.upto Rows.printerLinesSpec) Ydx started Zj Tryz.func4
  ⟨World.laidAll Tryz.prog os Rows.printerLinesUptoRow.laid,fun _ _=>0,⟨#[],#[.agg #[.string ⟨#[]⟩,.slice none 0 0,.slice none 0 0,.slice none 0 0,.slice none 0 0,.slice none 0 0,.slice none 0 0]],[]⟩,World.laidAll_os _ _ _,World.shaped_of_ZipB Zj Zj,rfl,(Input.okWide_of_okWideB Zj).2,
   OpenSpec.preRow_of_cond 8 hx Zj (fun k hk=>by cases hk;kernel_rfl) Zj (by rw [MakeChecks.laidMetH_plain _ _ _ Zj];exact laidMet_laidAll _ Zj Zj),
   by simp only [Assume.holds];exact ⟨by simp,by simp,fun _=>Modest.zero,by simp,by simp⟩⟩ ?_
 intro W base args ds gs before hval0 hW _ hcond _ hL _ _
 have hval:∀ (j:Nat) t v,Tryz.f4.params[j]?=some t→args[j]?=some v→Value.okWide Tryz.prog W .any base t v:=hval0
 have hbk:Rows.uptoSmall H (ds++gs)=true:=hcond _ rfl
 have hW':DataW.Whole enc Tryz.prog Tryz.f4.params.toList Rows.printerLinesSpec.vars false W args.toList ds gs before:=hW
 obtain ⟨p,q,hA0,hV,rfl,_,_⟩:=hW
 have hA:DataW.TrodAll enc Tryz.prog W 0 (fun _=>true) true Tryz.f4.params.toList args.toList ds p:=hA0
 rw [Tryz.params4] at hA hval
 obtain ⟨v0,d0,rfl,rfl,h0⟩:=trodAll_one hA
 obtain ⟨rfl,rfl⟩:=trodVars_none hV
 clear hA0 hval0
 simp only [List.append_nil] at hW'
 have hlt:∀ x∈p,x.block<W.heap.size:=fun x hx=>hW'.lt x hx
 have hq0:Rows.uptoBulk d0≤1048576:=by
  have h9:=of_decide_eq_true hbk
  simp only [List.append_nil,Rows.uptoBulkAll] at h9
  omega
 obtain ⟨x,cs,rfl,⟨u1,u2,u3,u4,u5,u6,rfl,hg⟩,hw⟩:=Yff Tryz.underlying28 (fun _=>Yeq) (hval 0 28 v0 rfl rfl) h0 hq0
 refine ((Yhg awake_p hg hw (Yhz hL)).calls (hp_of W)).mono fun e W' ⟨he1,hfr⟩=>?_
 have hb:=below_of hfr
 have k0:=Below.trod Ydz Zj (of_decide_eq_true Zj) h0 hb (fun x hx=>hlt x (by simp [hx]))
 show ∃ v,e=.returned v∧Rows.printerLinesSpec.post enc Tryz.prog Tryz.f4 false true false false W _ v W'
 exact ⟨_,he1,[d0],[],_,[],_,[],hW',trodAll_mk1 (shut_bool Tryz.underlying4 true),trodAll_mk1 k0,rfl,hb.frame _,fun h=>by cases h⟩
end Go.Proofs.YtbhlgkibgajajaaGreatDoor
