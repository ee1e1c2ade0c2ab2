/- The texts QQ, SRange, QA, QB, QC, QD, ShelfS, QSo, QSp, QE, laid together. Conditions: none. -/
import Derived.Test.YtbnpeechpebmeaaGreatDoorRBO
import Derived.Sort.Walk0
import Derived.Shelf.SlSortCmp.NoneTotal
set_option linter.all false
noncomputable section
set_option maxRecDepth 20000
namespace Go.Lx
theorem wrapU32 {n:Int} (h:0≤n∧n≤4294967295):IntKind.u32.wrap n=n:=by
 show n % 4294967296=n
 omega
theorem wrapU8 {n:Int} (h:0≤n∧n≤255):IntKind.u8.wrap n=n:=by
 show n % 256=n
 omega
theorem YkD {n:Int} (h:0≤n∧n≤2147483647):IntKind.i32.wrap n=n:=by
 have e1:n % 4294967296=n:=by omega
 have e2:¬(n≥2147483648):=by omega
 simp [IntKind.wrap,IntKind.bits,IntKind.signed,e1]
 omega
end Go.Lx
namespace Go.Proofs.YtbnpeechpebmeaaGreatDoor
open Go.Lx Go.RowKit
attribute [local instance 10] Classical.propDecidable
open Go.Proofs.Tryz (prog)
def PlnB (b:UInt8):Prop:=32≤b.toNat∧b.toNat≤126∧b.toNat≠34∧b.toNat≠92
def PlnS (s:Bs):Prop:=s.size≤1000∧∀ b∈s.data.toList,PlnB b
def Ybb (l:List UInt8):List UInt8:=34::(l++ [34])
def WK (s:Bs):Bs:=strOf (Ybb s.data.toList)
variable {fz:FZ}
theorem YlU {n:Int} (h:32≤n∧n≤126):QFn prog 235 [.int .i32 n] fz (.bool true):=by
 refine GFn.quiet ?_
 refine zF Tryz.func235 Tryz.ntmps235 (fun w0=>?_)
 refine zW ?_;intros
 refine zC (fun x1=>?_) (fun x1=>?_)
 ·refine zW ?_;intros
  refine zC (fun x2=>?_) (fun x2=>?_)
  ·refine zW ?_;intros
   refine zC (fun x3=>?_) (fun x3=>?_)
   ·refine zW ?_;intros
    exact zR (h:=rfl)
   ·omega
  ·omega
 ·omega
variable {Hs:HP} {n:Nat} {v:Value}
theorem Yh2 {xs:List Value} {b:UInt8} (ho:OwnS 5 1 v n xs Hs) (hb:b.toNat≤126) (hn:n≤2000000):
 GFn prog 237 [v,.int .i32 b.toNat] fz Hs (fun r fz' H'=>OwnS 5 1 r (n+1) (xs++ [WT b]) H'):=by
 obtain ⟨A,c,rfl,_,_⟩:=ho.form
 refine zF Tryz.func237 Tryz.ntmps237 (fun w0=>?_)
 refine zW ?_;intros
 refine zG ?_;refine WM T Zz Zz Zz Zz (wrapU32 Zi) ?_
 refine zW ?_;intros
 refine zC (fun x1=>?_) (fun x1=>?_)
 ·refine zW ?_;intros
  refine zG ?_;refine WM T Zz Zz Zz Zz (wrapU8 Zi) ?_
  refine Yb Zz (Yc T (cs:=[WT b]) Zz Zz Zz Zz Zz Zz Zz Zz (fun gb=>?_))
  refine Yb Zz (YbC T (Hr:=[_]) (news:=[WT b]) Zz Zz Zz Zz Zz Zz Zz (Zr _) ho rfl (Yc9 (.head _)) (by intro u hu;simp at hu;subst hu;rfl) (by show _*1≤_;omega) Zi (fun v' Hs' hO'=>?_))
  obtain ⟨A',c',rfl,_,_⟩:=hO'.form
  refine zW ?_;intros
  exact YcD (H':=Hs') (H2:=[_]) rfl rfl Zq (fun fz3 hle3 _=>hO')
 ·omega
theorem decode_q {s:Bs} {b:UInt8} (hs:s[0]?=some b) (hz:s.size≤1000) (hb:b.toNat≤126):QFn prog 229 [.string s] fz (.tuple #[.int .i32 b.toNat,.int .i64 1]):=by
 have hp:0<s.size:=by
  cases Nat.eq_zero_or_pos s.size with
  | inl h=>rw [getElem?_neg s 0 Zi] at hs;cases hs
  | inr h=>exact h
 have hne:¬s=⟨#[]⟩:=fun h=>by rw [h] at hp;exact absurd hp Zh
 refine GFn.quiet ?_
 refine zF Tryz.func229 Tryz.ntmps229 (fun w0=>?_)
 refine zW ?_;intros
 refine zG ?_;refine XP T Zz Zz Zz Zz Zi (by exact hs) ?_
 refine zW ?_;intros
 refine zC (fun x1=>?_) (fun x1=>?_)
 ·refine zW ?_;intros
  refine zG ?_;refine XP T Zz Zz Zz Zz Zi (by exact hs) ?_
  refine zW ?_;intros
  refine zG ?_;refine WM T Zz Zz Zz Zz (YkD Zi) ?_
  refine zW ?_;intros
  exact ret2 rfl rfl rfl Zb rfl
 ·omega
theorem Ymc {xs:List Value} {b:UInt8} (ho:OwnS 5 1 v n xs Hs) (hb:PlnB b) (hn:n≤2000000):
 GFn prog 230 [v,.int .i32 b.toNat,.int .u8 34,.bool false,.bool false] fz Hs (fun r fz' H'=>OwnS 5 1 r (n+1) (xs++ [WT b]) H'):=by
 obtain ⟨h1,h2,h3,h4⟩:=hb
 obtain ⟨A,c,rfl,_,_⟩:=ho.form
 refine zF Tryz.func230 Tryz.ntmps230 (fun w0=>?_)
 refine zW ?_;intros
 refine zG ?_;refine WM T Zz Zz Zz Zz (YkD Zi) ?_
 refine zW ?_;intros
 refine zC (fun x1=>?_) (fun x1=>?_)
 ·omega
 ·refine zW ?_;intros
  refine zC (fun x2=>?_) (fun x2=>?_)
  ·omega
  ·refine zW ?_;intros
   ((refine zG ?_);refine YB Zz Zz (YlU (n:=b.toNat) Zi) ?_)
   refine zW ?_;intros
   refine Yb Zz (Yl Hs [] (List.append_nil _).symm Zz Zz (Yh2 ho h2 hn) (fun v6 fz6 H6 hle6 hR6=>?_))
   obtain ⟨A',c',rfl,_,_⟩:=hR6.form
   refine zW ?_;intros
   exact YcD (H':=H6) (H2:=[]) rfl rfl (Zr _) (fun fz3 hle3 _=>hR6)
theorem YjY {b:UInt8} {r:List UInt8}:(strOf (b::r)).extract 1 (strOf (b::r)).size=strOf r:=by
 apply ByteArray.ext
 rw [ByteArray.data_extract]
 simp [strOf,ByteArray.size]
theorem YjZ {b:UInt8} {r:List UInt8}:(strOf (b::r))[0]?=some b:=by
 rw [getElem?_pos _ 0 (by rw [W3];simp)]
 rfl
variable {A:Option Addr} {c:Nat}
set_option maxHeartbeats 2000000 in
theorem quoted_f {s:Bs} (ho:OwnS 5 1 (.slice A 0 c) 0 [] Hs) (hc:s.size≤c) (hs:PlnS s):
 GFn prog 218 [.slice A 0 c,.string s,.int .u8 34,.bool false,.bool false] fz Hs (fun r fz' H'=>OwnS 5 1 r (s.size+2) ((Ybb s.data.toList).map WT) H'):=by
 obtain ⟨hz,hpl⟩:=hs
 obtain ⟨_,_,e,_,hc2⟩:=ho.form
 injection e with _ _ e3
 subst e3
 refine zF Tryz.func218 Tryz.ntmps218 (fun w0=>?_)
 refine zW ?_;intros
 refine zG ?_;refine Yiq T Zz Zz Zz ?_
 refine zW ?_;intros
 refine zC (fun x1=>?_) (fun x1=>?_)
 ·omega
 refine zW ?_;intros
 refine Yb Zz (Yc T (cs:=[WT 34]) Zz Zz Zz Zz Zz Zz Zz Zz (fun gb=>?_))
 refine Yb Zz (YbC T (Hr:=[_]) (news:=[WT 34]) Zz Zz Zz Zz Zz Zz Zz (Zr _) ho rfl (Yc9 (.head _)) (by intro u hu;simp at hu;subst hu;rfl) (by show _*1≤_;omega) Zi (fun v1 Hs1 hO1=>?_))
 obtain ⟨A1,c1,rfl,_,_⟩:=hO1.form
 refine zW ?_;intros
 refine Yk (fun q σ fz' H'=>∃ (done rest:List UInt8) (v:Value) (Hs':HP),s.data.toList=done++rest∧q=rest.length∧σ=[(0,v),(1,.string (strOf rest)),(2,.int .u8 34),(3,.bool false),(4,.bool false)]∧Le fz fz'∧H'=Hs'∧OwnS 5 1 v (done.length+1) ((34::done).map WT) Hs') ⟨[],s.data.toList,_,Hs1,rfl,rfl,rfl,Le.refl _,rfl,hO1⟩ (by rw [strOf_of];exact ⟨rfl,rfl,rfl,rfl,rfl,trivial⟩) (List.sublist_append_right _ _) ?_
 rintro q σ fz1 H' ⟨done,rest,v,Hs',hdr,rfl,rfl,hl1,rfl,hO⟩
 obtain ⟨A',c',rfl,_,_⟩:=hO.form
 have hln:done.length+rest.length=s.size:=by
  have:=congrArg List.length hdr
  rw [List.length_append,Array.length_toList] at this
  exact this.symm
 refine zW ?_;intros
 refine zC (fun c2=>?_) (fun c2=>?_)
 ·rw [W3] at c2
  cases rest with
  | nil=>simp at c2
  | cons b r=>
   have hb:PlnB b:=hpl b (by rw [hdr];simp)
   have e1:(1:Int)=1:=rfl
   refine zW ?_;intros
   ((refine zG ?_);refine YB Zz Zz (decode_q YjZ (by rw [W3];omega) hb.2.1) ?_)
   refine zW ?_;intros
   refine zC (fun x5=>?_) (fun x5=>?_)
   ·have:=hb.2.1;omega
   ·refine zW ?_;intros
    refine Yb Zz (Yl H' [] (List.append_nil _).symm Zz Zz (Ymc hO hb Zi) (fun v6 fz6 H6 hle6 hR6=>?_))
    obtain ⟨A6,c6,rfl,_,_⟩:=hR6.form
    refine zW ?_;intros
    refine zG ?_;refine Ydb T Zz Zz Zz Zz Zi (by rw [W3];simp;omega) ?_
    rw [show (strOf (b::r)).extract (Int.toNat 1) (strOf (b::r)).size=strOf r from YjY]
    refine zW ?_;intros
    exact YA ⟨done++ [b],r,_,_,by rw [hdr];simp,rfl,rfl,hl1.trans hle6,rfl,by simpa using hR6⟩ (by simp) Zw (by simp)
 ·rw [W3] at c2
  have hnil:rest=[]:=List.eq_nil_of_length_eq_zero Zi
  subst hnil
  rw [List.append_nil] at hdr
  refine zW ?_;intros
  refine Yb Zz (Yc T (cs:=[WT 34]) Zz Zz Zz Zz Zz Zz Zz Zz (fun gb=>?_))
  refine Yb Zz (YbC T (Hr:=[_]) (news:=[WT 34]) Zz Zz Zz Zz Zz Zz Zz (Zr _) hO rfl (Yc9 (.head _)) (by intro u hu;simp at hu;subst hu;rfl) (by show _*1≤_;omega) Zi (fun v3 Hs3 hO3=>?_))
  obtain ⟨A3,c3,rfl,_,_⟩:=hO3.form
  refine zW ?_;intros
  refine YcD (H':=Hs3) (H2:=[_]) rfl rfl Zq (fun fz3 hle3 _=>?_)
  have e1:done.length+1+1=s.size+2:=by simp at hln;omega
  have e2:(34::done).map WT++ [WT 34]=(Ybb s.data.toList).map WT:=by rw [hdr];simp [Ybb]
  rw [← e1,← e2]
  exact hO3
theorem Yij {s:Bs} (hs:PlnS s):QFn prog 199 [.string s,.int .u8 34,.bool false,.bool false] fz (.string (WK s)):=by
 have hz:=hs.1
 refine GFn.quiet ?_
 refine zF Tryz.func199 Tryz.ntmps199 (fun w0=>?_)
 refine zW ?_;intros
 refine zG ?_;refine Yj9 (c:=((3*s.size:Nat):Int)) Zz Zz (by rw [Xx Zi];omega) ?_
 refine zG ?_;refine q_quoN (a:=3*s.size) (b:=2) Zz Zz Zh Zi ?_
 refine Yb Zz (Wg T (l:=0) (c:=3*s.size / 2) Zz Zz Zz Zz Zz Zz (Z0 _) (by show _*1≤_;omega) Zi (fun g=>?_))
 refine zW ?_;intros
 refine Yb Zz (Yl [_] [] Zz Zz Zz (quoted_f ⟨by simp,.inr ⟨g,3*s.size / 2,_,rfl,rfl,Z0 _,by unfold maxLen;omega,by rw [List.size_toArray,Yf6];rfl,by simp⟩⟩ Zi hs) (fun v6 fz6 H6 hle6 hR6=>?_))
 rcases hR6.2 with ⟨_,h0,_⟩ | ⟨g6,cap6,cur6,rfl,rfl,h61,h62,h63,h64⟩
 ·omega
 ·obtain ⟨curl,rfl⟩:∃ cl:List Value,cur6=cl.toArray:=⟨cur6.toList,by simp⟩
  refine zW ?_;intros
  refine zG ?_;refine Ylk T 0 (bs:=Ybb s.data.toList) Zz Zz Zz Zz Zz Zz Zz Zz (by simpa using h64) (by unfold Ybb;rw [List.length_cons,List.length_append,Array.length_toList];rfl) ?_
  refine zW ?_;intros
  exact zR (h:=rfl)
theorem Ylh {s:Bs} (hs:PlnS s):QFn prog 157 [.string s] fz (.string (WK s)):=by
 refine GFn.quiet ?_
 refine zF Tryz.func157 Tryz.ntmps157 (fun w0=>?_)
 refine zW ?_;intros
 refine zc (Yij hs) ?_
 refine zW ?_;intros
 exact zR (h:=rfl)
end Go.Proofs.YtbnpeechpebmeaaGreatDoor
namespace Go.Lx
open Go.RowKit
section
variable {P:Program} {cx:Cx} {r:Operand→Option Value} {fz:FZ} {H:HP} {dst:Option Nat} {ty:TypeId} {pos:String} {af:Array Edge} {gd:Option (Nat × Bool)} {V:Value→Prop}
variable {X:Ty} {g:Nat} {t:TypeId} {y:Operand}
theorem YeD (T:Tab P) {k e:TypeId} {m:List (Bs × Value)} {KK:Value→FZ→HP→Prop} (hT:T.inf t=some X) (hd:X.desc=.map k e) (hy:r y=some (.map (some g))) (hH:fz g=some (mapS m))
 (h:∀ gi,KK (.pointer (some ⟨gi,0,none⟩)) fz ((gi,Ybf g m.length [])::H)):Does P cx ⟨dst,.range t y,ty,pos,af,gd⟩ r fz H KK:=
 Does.of fun ρ w hr hi=>by
  have hg:=hi.hp.keep _ _ hH
  have hund:=run_underlying (und_plain T hT hd rfl) w
  have:(execOp ρ ⟨dst,.range t y,ty,pos,af,gd⟩).run P w=.ok (.value (.pointer (some ⟨w.heap.size,0,none⟩))) (w.alloc (Ybf g m.length [])):=by
   simp only [execOp,hr _ _ hy,Sem.run_bind,Instr.range,hund,Result.andThen_ok,X3 hg,mapS,Sem.run_pure,newObj,Sem.run,Ybf]
   rfl
  rw [this]
  exact ⟨fz,_,hi.alloc _,h _⟩
theorem Ygh {gi:Nat} {m:List (Bs × Value)} {seen:List Nat} {H':HP} {KK:Value→FZ→HP→Prop} (hy:r y=some (.pointer (some ⟨gi,0,none⟩))) (hj:fz g=some (mapS m))
 (hend:(∀ i,i<m.length→i∈seen)→KK (.tuple #[.bool false]) fz ((gi,Ybf g m.length seen)::H'))
 (hmore:∀ i p,m[i]?=some p→i ∉ seen→KK (.tuple #[.bool true,.string p.1,p.2]) fz ((gi,Ybf g m.length (seen++ [i]))::H')):Does P cx ⟨dst,.next y false,ty,pos,af,gd⟩ r fz ((gi,Ybf g m.length seen)::H') KK:=
 Does.of fun ρ w hr hi=>by
  have hit:=(hi.hp.own (gi,Ybf g m.length seen) (by simp)).1
  have hg:=hi.hp.keep _ _ hj
  -- what is left
  have hb:∀ e∈Xm m 0,e.born<m.length:=fun e he=>by
   obtain ⟨i,hi⟩:=List.mem_iff_getElem?.1 he
   rw [YaM] at hi
   cases hm:m[i]? with
   | none=>simp [hm] at hi
   | some p=>simp [hm] at hi;subst hi;simpa using (Zg hm).1
  let left:=(Xm m 0).filter fun e=>!seen.contains e.born
  have hold:left.filter (fun e=>decide (e.born<m.length))=left:=List.filter_eq_self.2 fun e he=>by simpa using hb e (List.mem_filter.1 he).1
  have hnew:left.filter (fun e=>decide (e.born≥m.length))=[]:=List.filter_eq_nil_iff.2 fun e he=>by have:=hb e (List.mem_filter.1 he).1;simpa using this
  have hcond:(!seen.toArray.isEmpty && !(Xm m 0).toArray.isEmpty && (Xm m 0).toArray.all (fun e=>decide (e.born≥m.length)))=false:=by
   cases hm:Xm m 0 with
   | nil=>simp
   | cons e r=>
    have:=hb e (by rw [hm];simp)
    have h2:¬e.born≥m.length:=by omega
    simp [h2]
  have hset:∀ (w1:World) (o':Obj),w1.heap=w.heap→(Go.setObj gi o').run P w1=.ok () {w1 with heap:=w1.heap.setIfInBounds gi o'}:=fun w1 o' hw=>by
   simp [Go.setObj,Sem.run,hw,hit,Ybf]
  have hrun:∃ w1,w1.os=w.os∧w1.tape=w.tape∧w1.output=w.output∧w1.heap=w.heap∧
   ((left=[]∧(execOp ρ ⟨dst,.next y false,ty,pos,af,gd⟩).run P w=.ok (.value (.tuple #[.bool false])) w1)∨
    ∃ e∈left,(execOp ρ ⟨dst,.next y false,ty,pos,af,gd⟩).run P w=.ok (.value (.tuple #[.bool true,e.key,e.val])) {w1 with heap:=w1.heap.setIfInBounds gi (Ybf g m.length (seen++ [e.born]))}):=by
   have hleftA:(Xm m 0).toArray.filter (fun e=>!seen.toArray.contains e.born)=left.toArray:=by simp [left]
   have holdA:left.toArray.filter (fun e=>decide (e.born<m.length))=left.toArray:=by simp [hold]
   have hnewA:left.toArray.filter (fun e=>decide (e.born≥m.length))=#[]:=by simp [hnew]
   by_cases hl:left=[]
   ·obtain ⟨k,w1,hc,hk,e1,e2,e3,e4⟩:=Ycg (P:=P) 1 Zi w
    have hk0:k=0:=by omega
    subst hk0
    refine ⟨w1,e1,e2,e3,e4,.inl ⟨hl,?_⟩⟩
    simp only [execOp,hr _ _ hy,Sem.run_bind,Instr.next,Ycl hit,Result.andThen_ok,Ybf,X3 hg,mapS,hcond,Bool.false_eq_true,if_false,Sem.run_pure,hleftA,holdA,hnewA]
    have hcand:(((if left.toArray.isEmpty=true then #[none] else #[])++Array.map some (left.toArray++#[])):Array (Option MapEntry))=#[none]:=by simp [hl]
    have hsz:(#[none]:Array (Option MapEntry)).size=1:=rfl
    have hget:(#[none]:Array (Option MapEntry))[0]?=some none:=rfl
    simp only [hcand,hsz,hc,Result.andThen_ok,hget,Sem.run_pure]
   ·have hpos:0<left.length:=List.length_pos_iff.2 hl
    obtain ⟨k,w1,hc,hk,e1,e2,e3,e4⟩:=Ycg (P:=P) left.length hpos w
    refine ⟨w1,e1,e2,e3,e4,.inr ⟨left[k],List.getElem_mem hk,?_⟩⟩
    have hemp:left.toArray.isEmpty=false:=by simp [hl]
    have hcand:(((if left.toArray.isEmpty=true then #[none] else #[])++Array.map some (left.toArray++#[])):Array (Option MapEntry))=(left.map some).toArray:=by simp [hemp]
    simp only [execOp,hr _ _ hy,Sem.run_bind,Instr.next,Ycl hit,Result.andThen_ok,Ybf,X3 hg,mapS,hcond,Bool.false_eq_true,if_false,Sem.run_pure,hleftA,holdA,hnewA,hcand]
    have hsz:(left.map some).toArray.size=left.length:=by simp
    have hget:(left.map some).toArray[k]?=some (some left[k]):=by simp [hk]
    simp only [hsz,hc,Result.andThen_ok,hget,Sem.run_bind,hset w1 _ e4,Sem.run_pure,List.push_toArray]
  obtain ⟨w1,e1,e2,e3,e4,hh⟩:=hrun
  have hi1:Inv cx fz ((gi,Ybf g m.length seen)::H') w1:=hi.world e1 e2 e3 e4
  rcases hh with ⟨hl,hx⟩ | ⟨e,he,hx⟩
  ·rw [hx]
   refine ⟨fz,_,hi1,hend fun i hil=>?_⟩
   rw [List.filter_eq_nil_iff] at hl
   obtain ⟨p,hp⟩:∃ p,m[i]?=some p:=⟨_,List.getElem?_eq_getElem hil⟩
   have hm:(⟨.string p.1,p.2,i⟩:MapEntry)∈Xm m 0:=Zm (i:=i) (by rw [YaM,hp];simp)
   have:=hl _ hm
   simpa using this
  ·rw [hx]
   obtain ⟨h1,h2⟩:=List.mem_filter.1 he
   obtain ⟨i,hii⟩:=List.mem_iff_getElem?.1 h1
   rw [YaM] at hii
   cases hm:m[i]? with
   | none=>simp [hm] at hii
   | some p=>
    simp [hm] at hii
    subst hii
    refine ⟨fz,_,hi1.setObj (pre:=[]),hmore i p hm (by simpa using h2)⟩
variable {i:Nat}
theorem Yer {gi:Nat} {m:List (Bs × Value)} {seen:List Nat} {p:Bs × Value} (j:Nat) (hy:r y=some (.pointer (some ⟨gi,0,none⟩))) (hj:H[j]?=some (gi,Ybf g m.length (seen++ [i]))) (hk:fz g=some (mapS m)) (hp:m[i]?=some p) (h:V (.tuple #[.string p.1,p.2])):
 DoesQ P cx ⟨dst,.entry y,ty,pos,af,gd⟩ r fz H V:=
 DoesQ.of h fun ρ w hr hi=>by
  have hit:=(hi.hp.own _ (Zm hj)).1
  have hg:=hi.hp.keep _ _ hk
  have hfind:(Xm m 0).toArray.find? (fun e=>e.born==i)=some ⟨.string p.1,p.2,i⟩:=by
   rw [List.find?_toArray]
   have key:∀ (m:List (Bs × Value)) (b i:Nat) (p:Bs × Value),m[i]?=some p→(Xm m b).find? (fun e=>e.born==b+i)=some ⟨.string p.1,p.2,b+i⟩:=by
    intro m
    induction m with
    | nil=>intro b i p hp;simp at hp
    | cons q r ih=>
     intro b i p hp
     obtain ⟨a,v⟩:=q
     cases i with
     | zero=>simp at hp;subst hp;simp [Xm]
     | succ i=>
      have:=ih (b+1) i p (by simpa using hp)
      simp only [Xm,List.find?_cons]
      have hne:(b==b+(i+1))=false:=by simp
      simp only [hne]
      rw [show b+(i+1)=b+1+i from by omega]
      exact this
   have:=key m 0 i p hp
   simpa using this
  have:(execOp ρ ⟨dst,.entry y,ty,pos,af,gd⟩).run P w=.ok (.value (.tuple #[.string p.1,p.2])) w:=by
   simp only [execOp,hr _ _ hy,Sem.run_bind,Instr.entry,Ycl hit,Result.andThen_ok,Ybf]
   simp [X3 hg,mapS,hfind]
  rw [this]
  exact ⟨rfl,Fr.refl _ _⟩
def Yfd:Obj:=.mapIter none 0 #[] 0
theorem k_rangeN (T:Tab P) {k e:TypeId} {KK:Value→FZ→HP→Prop} (hT:T.inf t=some X) (hd:X.desc=.map k e) (hy:r y=some (.map none))
 (h:∀ gi,KK (.pointer (some ⟨gi,0,none⟩)) fz ((gi,Yfd)::H)):Does P cx ⟨dst,.range t y,ty,pos,af,gd⟩ r fz H KK:=
 Does.of fun ρ w hr hi=>by
  have hund:=run_underlying (und_plain T hT hd rfl) w
  have:(execOp ρ ⟨dst,.range t y,ty,pos,af,gd⟩).run P w=.ok (.value (.pointer (some ⟨w.heap.size,0,none⟩))) (w.alloc Yfd):=by
   simp only [execOp,hr _ _ hy,Sem.run_bind,Instr.range,hund,Result.andThen_ok,Sem.run_pure,newObj,Sem.run,Yfd]
   rfl
  rw [this]
  exact ⟨fz,_,hi.alloc _,h _⟩
theorem k_nextN {gi:Nat} {H':HP} {KK:Value→FZ→HP→Prop} (hy:r y=some (.pointer (some ⟨gi,0,none⟩)))
 (hend:KK (.tuple #[.bool false]) fz ((gi,Yfd)::H')):Does P cx ⟨dst,.next y false,ty,pos,af,gd⟩ r fz ((gi,Yfd)::H') KK:=
 Does.of fun ρ w hr hi=>by
  have hit:=(hi.hp.own (gi,Yfd) (by simp)).1
  have hget:(getObj gi).run P w=.ok Yfd w:=by simp [getObj,Sem.run,hit,Yfd]
  have:(execOp ρ ⟨dst,.next y false,ty,pos,af,gd⟩).run P w=.ok (.value (.tuple #[.bool false])) w:=by
   simp only [execOp,hr _ _ hy,Sem.run_bind,Instr.next,hget,Result.andThen_ok,Yfd,Sem.run_pure]
  rw [this]
  exact ⟨fz,_,hi,hend⟩
end
end Go.Lx
namespace Go.Proofs.YtbnpeechpebmeaaGreatDoor
open Go.Lx Go.RowKit
attribute [local instance 10] Classical.propDecidable
open Go.Proofs.Tryz (prog)
def AtmOk (a:Atom):Prop:=PlnS a.name∧a.args.length≤2000000∧∀ s∈a.args,PlnS s
def keyB (a:Atom):Bs:=a.args.foldl (fun o s=>o++WK s) (WK a.name)
theorem Ycn {s:Bs}:(WK s).size=s.size+2:=by
 unfold WK Ybb
 rw [W3,List.length_cons,List.length_append,Array.length_toList]
 rfl
theorem fold_size:∀ (l:List Bs) (o:Bs),(∀ s∈l,s.size≤1000)→(l.foldl (fun o s=>o++WK s) o).size≤o.size+l.length*1002
 | [],o,_=>by simp
 | s::l,o,h=>by
  have h1:=h s (by simp)
  have h2:=fold_size l (o++WK s) (fun t ht=>h t (by simp [ht]))
  rw [List.foldl_cons]
  rw [ByteArray.size_append,Ycn] at h2
  simp only [List.length_cons]
  omega
variable {fz:FZ} {va:Value}
theorem Yhs {a:Atom} (h:AtomR fz a va) (ho:AtmOk a):QFn prog 114 [.agg #[.string a.name,va]] fz (.string (keyB a)):=by
 obtain ⟨h1,h2,h3⟩:=ho
 obtain ⟨A,n,c,rfl,ia⟩:=h.args
 have l1:=ia.len
 refine GFn.quiet ?_
 refine zF Tryz.func114 Tryz.ntmps114 (fun w0=>?_)
 refine Yp (Yq (Yb Zz (Y3 _ Zz Zz (fun g0=>?_))))
 refine zW ?_;intros
 refine zc (Ylh h1) ?_
 refine zW ?_;intros
 refine Yk (fun q σ fz' H'=>∃ k:Nat,k≤n∧q=n - k∧σ=[(12,.int .i64 k),(11,.int .i64 n),(10,.slice A n c),(3,.string ((a.args.take k).foldl (fun o s=>o++WK s) (WK a.name)))]∧fz=fz'∧H'=[]) ⟨0,Z0 _,rfl,rfl,rfl,rfl⟩ Zw Zb ?_
 rintro q σ fz' H' ⟨k,hk,rfl,rfl,rfl,rfl⟩
 refine zW ?_;intros
 refine zC (fun c1=>?_) (fun c1=>?_)
 ·obtain ⟨x,hx⟩:=Yg (l:=a.args) (k:=k) Zi
  have hxp:=h3 x (Zm hx)
  refine zW ?_;intros
  refine zI ia hx (fun p1 hp1=>?_)
  refine zH hp1 (fun hs1=>?_)
  refine zW ?_;intros
  refine zc (Ylh hxp) ?_
  refine zW ?_;intros
  have hsz:=fold_size (a.args.take k) (WK a.name) (fun s hs=>(h3 s (List.mem_of_mem_take hs)).1)
  have hq1:=Ycn (s:=a.name)
  have hq2:=Ycn (s:=x)
  have hn1:=h1.1
  have hn2:=hxp.1
  have hlt:(a.args.take k).length≤2000000:=Nat.le_trans (List.length_take_le _ _) Zi
  refine zG ?_;refine XC Zz Zz (Nat.le_trans (Nat.add_le_add hsz (Nat.le_of_eq hq2)) Zi) ?_
  rw [show (a.args.take k).foldl (fun o s=>o++WK s) (WK a.name)++WK x=(a.args.take (k+1)).foldl (fun o s=>o++WK s) (WK a.name) from by rw [List.take_add_one,hx,List.foldl_append];rfl]
  refine zW ?_;intros
  exact YA ⟨k+1,by omega,rfl,rfl,rfl,rfl⟩ Zi Zw Zb
 ·rw [Zl Zi]
  refine zW ?_;intros
  exact zR (h:=rfl)
def KeyN (m:List (Bs × Value)):Prop:=(m.map Prod.fst).Nodup
theorem KeyN.nil:KeyN []:=List.nodup_nil
theorem YiD {m:List (Bs × Value)} {x:Bs}:(fndS m x 0).isSome=true↔x∈m.map Prod.fst:=by
 constructor
 ·intro h
  obtain ⟨p,hp⟩:=Option.isSome_iff_exists.1 h
  have:=(WQ m x 0 p.1 p.2 hp).2
  exact List.mem_map.2 ⟨(x,p.2),Zm this,rfl⟩
 ·intro h
  cases hf:fndS m x 0 with
  | some p=>rfl
  | none=>
   obtain ⟨p,hp,e⟩:=List.mem_map.1 h
   exact absurd e (YeP m x 0 hf p hp)
theorem set_self {α:Type}:∀ {l:List α} {i:Nat} {x:α},l[i]?=some x→l.set i x=l
 | [],i,x,h=>by simp at h
 | y::l,0,x,h=>by simp at h;subst h;rfl
 | y::l,i+1,x,h=>by rw [List.set_cons_succ,set_self (by simpa using h)]
theorem KeyN.upd {m:List (Bs × Value)} (h:KeyN m) (x:Bs) (v:Value):KeyN (updS m x v):=by
 unfold updS
 cases hf:fndS m x 0 with
 | none=>
  show KeyN (m++ [(x,v)])
  unfold KeyN
  rw [List.map_append]
  refine List.nodup_append.2 ⟨h,by simp,fun a ha b hb e=>?_⟩
  simp at hb
  subst hb
  subst e
  have:=YiD.2 ha
  rw [hf] at this;cases this
 | some p=>
  obtain ⟨i,u⟩:=p
  have h1:=(WQ m x 0 i u hf).2
  show KeyN (m.set i (x,v))
  unfold KeyN
  have:(m.set i (x,v)).map Prod.fst=m.map Prod.fst:=by
   rw [List.map_set]
   have h2:(m.map Prod.fst)[i]?=some x:=by rw [List.getElem?_map];rw [Nat.sub_zero] at h1;rw [h1];rfl
   exact set_self h2
  rw [this];exact h
variable {i:Nat}
theorem val_at {m:List (Bs × Value)} (h:KeyN m) {p:Bs × Value} (hi:m[i]?=some p):valS m p.1=some p.2:=by
 unfold valS
 cases hf:fndS m p.1 0 with
 | none=>exact absurd rfl (YeP m p.1 0 hf p (Zm hi))
 | some q=>
  obtain ⟨j,u⟩:=q
  have h1:=(WQ m p.1 0 j u hf).2
  rw [Nat.sub_zero] at h1
  have hij:i=j:=by
   have e1:(m.map Prod.fst)[i]?=some p.1:=by rw [List.getElem?_map,hi];rfl
   have e2:(m.map Prod.fst)[j]?=some p.1:=by rw [List.getElem?_map,h1];rfl
   obtain ⟨b1,e1⟩:=Zg e1
   obtain ⟨b2,e2⟩:=Zg e2
   rcases Nat.lt_trichotomy i j with hlt | heq | hlt
   ·exact absurd (e1.trans e2.symm) (List.pairwise_iff_getElem.1 h i j b1 b2 hlt)
   ·exact heq
   ·exact absurd (e2.trans e1.symm) (List.pairwise_iff_getElem.1 h j i b2 b1 hlt)
  subst hij
  rw [hi] at h1
  injection h1 with h1
  rw [h1];rfl
theorem val_none {m:List (Bs × Value)} {x:Bs} (h:∀ (i:Nat) (p:Bs × Value),m[i]?=some p→p.1≠x):valS m x=none:=by
 unfold valS
 cases hf:fndS m x 0 with
 | none=>rfl
 | some q=>
  obtain ⟨j,u⟩:=q
  have h1:=(WQ m x 0 j u hf).2
  rw [Nat.sub_zero] at h1
  exact absurd rfl (h j _ h1)
abbrev EnvM:=Bs→Option Bs
def EnvR (fz:FZ) (v:Value) (E:EnvM):Prop:=∃ g m,v=.map (some g)∧fz g=some (mapS m)∧KeyN m∧∀ x,valS m x=(E x).map Value.string
variable {E:EnvM} {fz':FZ} {v:Value}
theorem EnvR.mono (h:EnvR fz v E) (hle:Le fz fz'):EnvR fz' v E:=by
 obtain ⟨g,m,h1,h2,h3,h4⟩:=h
 exact ⟨g,m,h1,hle _ _ h2,h3,h4⟩
def OutR (fz:FZ) (v:Value) (E:EnvM):Prop:=(v=.map none∧∀ x,E x=none)∨EnvR fz v E
def setE (E:EnvM) (x a:Bs):EnvM:=fun y=>if y=x then some a else E y
def extE (E:EnvM) (ps:List Param) (as_:List Bs):EnvM:=(ps.zip as_).foldl (fun E z=>setE E z.1.name z.2) E
def valE (E:EnvM) (t:Bs):Bs:=(E t).getD t
theorem Yib {t:Bs} (h:EnvR fz v E):QFn prog 162 [.string t,v] fz (.string (valE E t)):=by
 obtain ⟨g,m,rfl,hg,hn,hE⟩:=h
 refine GFn.quiet ?_
 refine zF Tryz.func162 Tryz.ntmps162 (fun w0=>?_)
 refine zW ?_;intros
 refine zG ?_;refine YY (v:=.string ((E t).getD ⟨#[]⟩)) (b:=(E t).isSome) T Zz Zz Zz Zz Zz Zz Zz hg (by rw [Yfi,hE];cases E t<;>rfl) (by rw [Ydl,hE];cases E t<;>rfl) ?_
 cases hr:E t with
 | some u=>
  refine zW ?_;intros
  exact zR (h:=by rw [valE,hr];rfl)
 | none=>
  refine zW ?_;intros
  exact zR (h:=by rw [valE,hr];rfl)
def CopM (m m':List (Bs × Value)) (seen:List Nat):Prop:=KeyN m'∧∀ x,(∀ i∈seen,∀ p,m[i]?=some p→p.1≠x)∧valS m' x=none∨∃ i∈seen,∃ p,m[i]?=some p∧p.1=x∧valS m' x=some p.2
theorem CopM.nil {m:List (Bs × Value)}:CopM m [] []:=⟨KeyN.nil,fun x=>.inl ⟨(by intro i hi;cases hi),rfl⟩⟩
theorem CopM.add {m m':List (Bs × Value)} {seen:List Nat} (h:CopM m m' seen) {p:Bs × Value} (hp:m[i]?=some p):CopM m (updS m' p.1 p.2) (seen++ [i]):=by
 refine ⟨h.1.upd _ _,fun x=>?_⟩
 rw [Ybs]
 by_cases hx:x=p.1
 ·rw [if_pos hx];exact .inr ⟨i,by simp,p,hp,hx.symm,rfl⟩
 ·rw [if_neg hx]
  rcases h.2 x with ⟨h1,h2⟩ | ⟨j,hj,q,hq,h1,h2⟩
  ·refine .inl ⟨fun j hj q hq=>?_,h2⟩
   rcases List.mem_append.1 hj with hj | hj
   ·exact h1 j hj q hq
   ·simp at hj;subst hj;rw [hp] at hq;injection hq with hq;subst hq;exact fun e=>hx e.symm
  ·exact .inr ⟨j,by simp [hj],q,hq,h1,h2⟩
theorem CopM.all {m m':List (Bs × Value)} {seen:List Nat} (hn:KeyN m) (h:CopM m m' seen) (hall:∀ i,i<m.length→i∈seen) (x:Bs):valS m' x=valS m x:=by
 rcases h.2 x with ⟨h1,h2⟩ | ⟨j,hj,q,hq,h1,h2⟩
 ·rw [h2,val_none (fun i p hp=>h1 i (hall i (Zg hp).1) p hp)]
 ·rw [h2,← h1,val_at hn hq]
variable {k:Nat}
theorem Yl8 {ps:List Param} {as_:List Bs} {p:Param} {a:Bs} (hp:ps[k]?=some p) (ha:as_[k]?=some a):setE (extE E (ps.take k) (as_.take k)) p.name a=extE E (ps.take (k+1)) (as_.take (k+1)):=by
 have h1:(ps.take (k+1)).zip (as_.take (k+1))=(ps.take k).zip (as_.take k)++ [(p,a)]:=by
  have hl:(ps.take k).length=(as_.take k).length:=by
   have h1:=(Zg hp).1
   have h2:=(Zg ha).1
   simp only [List.length_take];omega
  rw [List.take_add_one,List.take_add_one,hp,ha]
  exact List.zip_append hl
 unfold extE
 rw [h1,List.foldl_append];rfl
variable {A B:Option Addr} {c n:Nat}
set_option maxHeartbeats 4000000 in
theorem env_f {ps:List Param} {as_:List Bs} {m b:Nat} (hps:Sl paramL fz A n c ps) (has:Sl strL fz B m b as_) (hnm:n≤m) (ho:OutR fz v E):
 GFn prog 121 [.slice A n c,.slice B m b,v] fz [] (fun r fz' H'=>H'=[]∧EnvR fz' r (extE E ps (as_.take n))):=by
 have lp:=hps.len
 have la:=has.len
 have sp:=hps.short
 refine zF Tryz.func121 Tryz.ntmps121 (fun w0=>?_)
 refine zW ?_;intros
 refine Yb Zz (Xo (fun gout=>?_))
 refine zWX ?_;intros
 refine Yp (Wp.mid (fun σ fz' H'=>∃ mo:List (Bs × Value),σ=[(7,.map (some gout)),(0,.slice A n c),(1,.slice B m b)]∧fz=fz'∧H'=[(gout,mapS mo)]∧KeyN mo∧∀ x,valS mo x=(E x).map Value.string) ?_ ?_)
 ·rcases ho with ⟨rfl,hE⟩ | ⟨g,ms,rfl,hg,hn,hE⟩
  ·refine zW ?_;intros
   refine Yb Zz (k_rangeN T Zz Zz Zz (fun gi=>?_))
   refine zW ?_;intros
   refine Yk (fun q σ fz' H'=>q=0∧σ=[(14,.pointer (some ⟨gi,0,none⟩)),(7,.map (some gout)),(0,.slice A n c),(1,.slice B m b)]∧fz=fz'∧H'=[(gi,Yfd),(gout,mapS [])]) ⟨rfl,rfl,rfl,rfl⟩ Zw Zb ?_
   rintro q σ fz' H' ⟨rfl,rfl,rfl,rfl⟩
   refine zW ?_;intros
   refine Yb Zz (k_nextN Zz ?_)
   refine zW ?_;intros
   exact midN ⟨[],rfl,rfl,rfl,KeyN.nil,fun x=>by rw [hE];rfl⟩ Zw Zb
  ·refine zW ?_;intros
   refine Yb Zz (YeD T Zz Zz Zz hg (fun gi=>?_))
   refine zW ?_;intros
   refine Yk (fun q σ fz' H'=>∃ (seen:List Nat) (mo:List (Bs × Value)),q=(List.range ms.length).countP (fun i=>!seen.contains i)∧σ=[(14,.pointer (some ⟨gi,0,none⟩)),(7,.map (some gout)),(0,.slice A n c),(1,.slice B m b)]∧fz=fz'∧H'=[(gi,Ybf g ms.length seen),(gout,mapS mo)]∧CopM ms mo seen) ⟨[],[],rfl,rfl,rfl,rfl,CopM.nil⟩ Zw Zb ?_
   rintro q σ fz' H' ⟨seen,mo,rfl,rfl,rfl,rfl,hC⟩
   refine zW ?_;intros
   refine Yb Zz (Ygh Zz hg (fun hall=>?_) (fun i p hp hi=>?_))
   ·refine zW ?_;intros
    exact midN ⟨mo,rfl,rfl,rfl,hC.1,fun x=>by rw [hC.all hn hall,hE]⟩ Zw Zb
   ·refine zW ?_;intros
    refine zG ?_;refine Yer 0 Zz Zz hg hp ?_
    refine zW ?_;intros
    refine YJ (Xv T (pre:=[_]) Zz Zz Zz Zz Zz Zz Zz (Zr _) ?_)
    refine zW ?_;intros
    refine YA ⟨seen++ [i],_,rfl,rfl,rfl,rfl,hC.add hp⟩ ?_ Zw Zb
    exact YaN _ i (by rw [List.mem_range];exact (Zg hp).1) (fun j hj=>by simp at hj ⊢;exact fun h=>hj.1 h) (by simpa using hi) (by simp)
 ·rintro σ fz' H' ⟨mo,rfl,rfl,rfl,hk0,hv0⟩
  refine zW ?_;intros
  refine Yk (fun q σ fz' H'=>∃ (k:Nat) (mo:List (Bs × Value)),k≤n∧q=n - k∧σ=[(25,.int .i64 k),(24,.int .i64 n),(23,.slice A n c),(1,.slice B m b),(7,.map (some gout))]∧fz=fz'∧H'=[(gout,mapS mo)]∧KeyN mo∧∀ x,valS mo x=(extE E (ps.take k) (as_.take k) x).map Value.string) ⟨0,mo,Z0 _,rfl,rfl,rfl,rfl,hk0,hv0⟩ Zw Zb ?_
  rintro q σ fz' H' ⟨k,mo,hk,rfl,rfl,rfl,rfl,hkn,hkv⟩
  refine zW ?_;intros
  refine zC (fun c1=>?_) (fun c1=>?_)
  ·obtain ⟨x,hx⟩:=Yg (l:=ps) (k:=k) Zi
   obtain ⟨y,hy⟩:=Yg (l:=as_) (k:=k) Zi
   refine zW ?_;intros
   refine zI hps hx (fun p1 hp1=>?_)
   refine zL hp1 ?_
   intro cs hcs
   obtain ⟨rfl,hR⟩:=YT hcs
   refine zWN ?_;intros
   refine Wp.drawK (Hq:=[_,_]) T.mixed Zj Zj Zb ?_
   refine zW ?_;intros
   refine zI has hy (fun p2 hp2=>?_)
   refine zH hp2 (fun hs2=>?_)
   refine Ye ?_
   refine YD ⟨by kernel_rfl,?_⟩
   refine Ch.hard0 Zj (Xv T (pre:=[_]) Zz Zz Zz Zz Zz Zz Zz (Zr _) ?_)
   refine Ch.done ?_
   refine zW ?_;intros
   exact YA ⟨k+1,_,by omega,rfl,rfl,rfl,rfl,hkn.upd _ _,fun z=>by
    rw [Ybs,← Yl8 hx hy,hkv]
    unfold setE
    by_cases hz:z=x.name
    ·rw [if_pos hz,if_pos hz];rfl
    ·rw [if_neg hz,if_neg hz]⟩ Zi Zw Zb
  ·have hk2:k=n:=by omega
   subst hk2
   rw [Zl (show ps.length≤k by omega)] at hkv
   refine zW ?_;intros
   exact YdP rfl rfl (fun fz3 hle3 hf3=>⟨rfl,gout,mo,rfl,hf3 (gout,mapS mo) (by simp),hkn,hkv⟩)
def bndA (E:EnvM) (name:Bs) (args:List Bs):Atom:=⟨name,args.map (valE E)⟩
theorem YjV {t:Bs} (hE:∀ x y,E x=some y→y.size≤1000) (ht:Short t):Short (valE E t):=by
 unfold valE
 cases h:E t with
 | none=>exact ht
 | some y=>exact Nat.le_trans (hE t y h) Zh
set_option maxHeartbeats 2000000 in
theorem Ye2 {name:Bs} {args:List Bs} (hv:EnvR fz v E) (hE:∀ x y,E x=some y→y.size≤1000) (ha:Sl strL fz A n c args) (hn:n≤2000000) (hnm:Short name):
 GFn prog 161 [.string name,.slice A n c,v] fz [] (fun r fz' H'=>H'=[]∧∃ va,r=.agg #[.string name,va]∧AtomR fz' (bndA E name args) va):=by
 have la:=ha.len
 have hv0:=hv
 obtain ⟨gm,m,rfl,_⟩:=hv
 refine zF Tryz.func161 Tryz.ntmps161 (fun w0=>?_)
 refine zW ?_;intros
 rename_i g6 g7
 refine Yk (fun q σ fz' H'=>∃ (k:Nat) (u:Value) (Hs:HP),k≤n∧q=n - k∧σ=[(14,.int .i64 k),(13,.int .i64 n),(12,.slice A n c),(7,.pointer (some ⟨g7,0,none⟩)),(6,.pointer (some ⟨g6,0,none⟩)),(2,.map (some gm))]∧fz=fz'∧
  H'=(g7,.cells #[.string name,u] 48 (0,0))::(g6,.cells #[.string ⟨#[]⟩,.slice none 0 0] 48 (0,0))::Hs∧Grow strL 9 fz u k Hs ((args.take k).map (valE E))) ⟨0,_,[],Z0 _,rfl,rfl,rfl,rfl,Grow.nil _ _ _⟩ Zw Zb ?_
 rintro q σ fz' H' ⟨k,u,Hs,hk,rfl,rfl,rfl,rfl,hG⟩
 obtain ⟨Au,cu,rfl,_,_⟩:=hG.form
 refine zW ?_;intros
 refine zC (fun c1=>?_) (fun c1=>?_)
 ·obtain ⟨x,hx⟩:=Yg (l:=args) (k:=k) Zi
  refine zW ?_;intros
  refine zI ha hx (fun p1 hp1=>?_)
  refine zH hp1 (fun hs1=>?_)
  refine zWN ?_;intros
  refine Wp.drawK (Hq:=[_,_]) T.mixed Zj Zj Zb ?_
  refine zW ?_;intros
  refine zc (Yib hv0) ?_
  refine Ye ?_
  refine Ye ?_
  refine zW ?_;intros
  refine Ye ?_
  refine YD ⟨by kernel_rfl,?_⟩
  refine Yj (Yc T (cs:=[.string (valE E x)]) Zz Zz Zz Zz Zz Zz Zz Zz (fun gb=>⟨(⟨(Le.refl _),Zx⟩),?_⟩))
  refine Yj (YK T (Hr:=[_,_,_]) (n:=k) (d:=valE E x) Zz Zz Zz Zz Zz Zz Zz Zz (Zr _) hG YbM (.head _) ⟨rfl,YjV hE hs1⟩ (by show _*16≤_;omega) Zi (fun v' Hs' hO'=>⟨(⟨(Le.refl _),Zx⟩),?_⟩))
  obtain ⟨Av',cv',rfl,_,_⟩:=hO'.form
  refine Ch.hard0 Zj (YZ T Zz Zz Zz Zz Zz Zz ?_)
  refine Ch.done ?_
  refine zW ?_;intros
  exact YA ⟨k+1,_,Hs',by omega,rfl,rfl,rfl,rfl,hO'.of (by rw [List.take_add_one,hx];simp) rfl⟩ Zi Zw Zb
 ·have hk2:k=n:=by omega
  subst hk2
  rw [Zl Zi] at hG
  refine zW ?_;intros
  refine Y1 T (i:=1) rfl Zz Zz Zz Zz Zz (fun fz3 hle3 hf3=>?_)
  obtain ⟨A',c',he,hsl⟩:=hG.sl hle3 (fun p hp=>hf3 p (by simp [hp])) Zi
  exact ⟨rfl,_,rfl,⟨hnm,A',_,c',he,hsl⟩⟩
def SetM (fz:FZ) (m:List (Bs × Value)) (S:List Atom):Prop:=KeyN m∧m.length=S.length∧∀ (i:Nat) (a:Atom),S[i]?=some a→AtmOk a∧∃ va:Value,m[i]?=some (keyB a,Value.agg #[.string a.name,va])∧AtomR fz a va
theorem fndS_no' {m:List (Bs × Value)} {x:Bs} (h:(fndS m x i).isSome=false):fndS m x i=none:=by cases hf:fndS m x i with | none=>rfl | some p=>rw [hf] at h;cases h
variable {S:List Atom}
theorem SetM.mono {m:List (Bs × Value)} (h:SetM fz m S) (hle:Le fz fz'):SetM fz' m S:=
 ⟨h.1,h.2.1,fun i a ha=>by obtain ⟨h1,va,h2,h3⟩:=h.2.2 i a ha;exact ⟨h1,va,h2,h3.mono hle⟩⟩
theorem SetM.nil:SetM fz [] []:=⟨KeyN.nil,rfl,by intro i a h;simp at h⟩
theorem YkE {s t X Y:List UInt8} (hs:(34:UInt8) ∉ s) (ht:(34:UInt8) ∉ t) (h:s++34::X=t++34::Y):s=t∧X=Y:=by
 induction s generalizing t with
 | nil=>
  cases t with
  | nil=>simp at h;exact ⟨rfl,h⟩
  | cons b t=>simp at h;exact absurd (by simp [h.1]) ht
 | cons a s ih=>
  cases t with
  | nil=>simp at h;exact absurd (by simp [h.1]) hs
  | cons b t=>
   simp only [List.cons_append,List.cons.injEq] at h
   obtain ⟨h1,h2⟩:=ih (t:=t) (fun e=>hs (by simp [e])) (fun e=>ht (by simp [e])) h.2
   exact ⟨by rw [h.1,h1],h2⟩
def Yal (l:List Bs):List UInt8:=l.flatMap fun s=>Ybb s.data.toList
theorem Yeo:∀ {l l':List Bs},(∀ s∈l,(34:UInt8) ∉ s.data.toList)→(∀ s∈l',(34:UInt8) ∉ s.data.toList)→Yal l=Yal l'→l=l'
 | [],[],_,_,_=>rfl
 | [],s::r,_,_,h=>by simp [Yal,Ybb] at h
 | s::r,[],_,_,h=>by simp [Yal,Ybb] at h
 | s::r,t::r',h1,h2,h=>by
  have e:s.data.toList++34::Yal r=t.data.toList++34::Yal r':=by
   simpa [Yal,Ybb] using h
  obtain ⟨e1,e2⟩:=YkE (h1 s (by simp)) (h2 t (by simp)) e
  rw [Yeo (fun x hx=>h1 x (by simp [hx])) (fun x hx=>h2 x (by simp [hx])) e2,bytes_ext e1]
where
 bytes_ext {s t:Bs} (h:s.data.toList=t.data.toList):s=t:=by
  have h1:s.data=s.data.toList.toArray:=by simp
  have h2:t.data=t.data.toList.toArray:=by simp
  exact ByteArray.ext (by rw [h1,h2,h])
theorem YhD:∀ (l:List Bs) (o:List UInt8),l.foldl (fun o s=>o++WK s) (strOf o)=strOf (o++Yal l)
 | [],o=>by simp [Yal]
 | s::l,o=>by
  rw [List.foldl_cons,show WK s=strOf (Ybb s.data.toList) from rfl,YgY,YhD l]
  simp [Yal]
theorem YlP (a:Atom):keyB a=strOf (Yal (a.name::a.args)):=by
 unfold keyB
 rw [show WK a.name=strOf (Ybb a.name.data.toList) from rfl,YhD]
 simp [Yal]
theorem Yjd {s:Bs} (h:PlnS s):(34:UInt8) ∉ s.data.toList:=fun h0=>(h.2 34 h0).2.2.1 rfl
theorem keyB_inj {a b:Atom} (ha:AtmOk a) (hb:AtmOk b) (h:keyB a=keyB b):a=b:=by
 rw [YlP,YlP] at h
 have h1:=Yeo (l:=a.name::a.args) (l':=b.name::b.args) (fun s hs=>by
  rcases List.mem_cons.1 hs with rfl | hs
  ·exact Yjd ha.1
  ·exact Yjd (ha.2.2 s hs)) (fun s hs=>by
  rcases List.mem_cons.1 hs with rfl | hs
  ·exact Yjd hb.1
  ·exact Yjd (hb.2.2 s hs)) (Yk4 h)
 cases a;cases b
 simp at h1
 rw [h1.1,h1.2]
theorem SetM.has {m:List (Bs × Value)} (h:SetM fz m S) {a:Atom} (ha:AtmOk a):(fndS m (keyB a) 0).isSome=decide (a∈S):=by
 by_cases hm:a∈S
 ·rw [decide_eq_true hm]
  obtain ⟨i,hi⟩:=List.getElem?_of_mem hm
  obtain ⟨_,va,h2,_⟩:=h.2.2 i a hi
  exact YiD.2 (List.mem_map.2 ⟨_,Zm h2,rfl⟩)
 ·rw [decide_eq_false hm]
  cases hf:(fndS m (keyB a) 0).isSome with
  | false=>rfl
  | true=>
   obtain ⟨p,hp,e⟩:=List.mem_map.1 (YiD.1 hf)
   obtain ⟨i,hi⟩:=List.getElem?_of_mem hp
   have hlt:i<S.length:=by have:=(Zg hi).1;rw [h.2.1] at this;exact this
   obtain ⟨b,hb⟩:=Yg hlt
   obtain ⟨hbo,va,h2,_⟩:=h.2.2 i b hb
   rw [hi] at h2
   injection h2 with h2
   rw [h2] at e
   rw [keyB_inj hbo ha e] at hb
   exact absurd (Zm hb) hm
theorem SetM.push {m:List (Bs × Value)} (h:SetM fz m S) {a:Atom} (ha:AtmOk a) (hn:a ∉ S) (hR:AtomR fz a va):SetM fz (updS m (keyB a) (.agg #[.string a.name,va])) (S++ [a]):=by
 have hf:=h.has ha
 rw [decide_eq_false hn] at hf
 have hu:updS m (keyB a) (.agg #[.string a.name,va])=m++ [(keyB a,.agg #[.string a.name,va])]:=by
  unfold updS
  cases h0:fndS m (keyB a) 0 with
  | none=>rfl
  | some p=>rw [h0] at hf;cases hf
 refine ⟨h.1.upd _ _,by rw [hu,List.length_append,List.length_append,h.2.1];rfl,fun i b hb=>?_⟩
 rw [hu]
 by_cases hi:i<S.length
 ·rw [List.getElem?_append_left hi] at hb
  obtain ⟨h1,vb,h2,h3⟩:=h.2.2 i b hb
  exact ⟨h1,vb,by rw [List.getElem?_append_left (by rw [h.2.1];exact hi)];exact h2,h3⟩
 ·rw [List.getElem?_append_right Zi] at hb
  have hi2:i - S.length=0:=by
   have:=(Zg hb).1
   simp at this;omega
  rw [hi2] at hb
  simp at hb
  subst hb
  exact ⟨ha,va,by rw [List.getElem?_append_right (by rw [h.2.1];omega),h.2.1,hi2];rfl,hR⟩
theorem add_f {gs:Nat} {m:List (Bs × Value)} {a:Atom} (hS:SetM fz m S) (hR:AtomR fz a va) (ha:AtmOk a):
 GFn prog 71 [.map (some gs),.agg #[.string a.name,va]] fz [(gs,mapS m)] (fun r fz' H'=>fz=fz'∧r=.bool (decide (a ∉ S))∧∃ m',H'=[(gs,mapS m')]∧SetM fz m' (if a∈S then S else S++ [a])):=by
 have hR0:=hR
 obtain ⟨A,n,c,rfl,ia⟩:=hR.args
 refine zF Tryz.func71 Tryz.ntmps71 (fun w0=>?_)
 refine Yp (Yq (Yb Zz (Y3 _ Zz Zz (fun g3=>?_))))
 refine zW ?_;intros
 refine zc (Yhs hR0 ha) ?_
 refine zW ?_;intros
 by_cases hm:a∈S
 ·have hb:=hS.has ha
  rw [decide_eq_true hm] at hb
  obtain ⟨p,hp⟩:=Option.isSome_iff_exists.1 hb
  have hpv:=(WQ m (keyB a) 0 p.1 p.2 hp).2
  rw [Nat.sub_zero] at hpv
  have hlt:p.1<S.length:=by have:=(Zg hpv).1;rw [hS.2.1] at this;exact this
  obtain ⟨b,hb2⟩:=Yg hlt
  obtain ⟨hbo,vb,h2,h3⟩:=hS.2.2 p.1 b hb2
  rw [hpv] at h2
  injection h2 with h2
  injection h2 with h2 h4
  obtain ⟨B,nb,cb,rfl,_⟩:=h3.args
  refine zG ?_;refine Ws (v:=.agg #[.string b.name,.slice B nb cb]) (b:=true) T 1 Zz Zz Zz Zz Zz Zz Zz Zz (by rw [hp];exact h4) hb ?_
  refine zW ?_;intros
  exact ret1 rfl rfl Zb ⟨rfl,Ym (fun h=>h hm),m,rfl,by rw [if_pos hm];exact hS⟩
 ·have hb:=hS.has ha
  rw [decide_eq_false hm] at hb
  have h0:fndS m (keyB a) 0=none:=fndS_no' hb
  refine zG ?_;refine Ws (v:=.agg #[.string ⟨#[]⟩,.slice none 0 0]) (b:=false) T 1 Zz Zz Zz Zz Zz Zz Zz Zz (by rw [h0];rfl) hb ?_
  refine zW ?_;intros
  refine YJ (Xv T (pre:=[_,_]) Zz Zz Zz Zz Zz Zz Zz (Zr _) ?_)
  refine zW ?_;intros
  exact ret1 rfl rfl Zb ⟨rfl,YC hm,_,rfl,by rw [if_neg hm];exact hS.push ha hm hR0⟩
def ltB (a b:Bs):Bool:=Op.bytesLess a.toList b.toList
section
set_option linter.unusedSectionVars false
variable [Dr]
section
variable {P:Program} {cx:Cx} {r:Operand→Option Value} {fz:FZ} {H:HP} {V:Value→Prop} {dst:Option Nat} {ty:TypeId} {pos:String} {af:Array Edge} {gd:Option (Nat × Bool)}
variable {t:TypeId} {x y:Operand}
theorem Yka {t':TypeId} {u v:Bs} (hx:r x=some (.string u)) (hy:r y=some (.string v)) (ht:ltB u v=true→V (.bool true)) (hf:ltB u v=false→V (.bool false)):DoesQ P cx ⟨dst,.binOp .lss t x y t',ty,pos,af,gd⟩ r fz H V:=
 YN (v:=.bool (ltB u v)) (fun ρ w hr=>by
  simp [execOp,hr _ _ hx,hr _ _ hy,binOp,Op.stringOp,eqGuard,ltB]) (by
  cases h:ltB u v with
  | true=>exact ht h
  | false=>exact hf h)
theorem Ykd {t':TypeId} {u v:Bs} (hx:r x=some (.string u)) (hy:r y=some (.string v)) (ht:ltB u v=false→u≠v→V (.bool true)) (hf:ltB u v=true∨u=v→V (.bool false)):DoesQ P cx ⟨dst,.binOp .gtr t x y t',ty,pos,af,gd⟩ r fz H V:=
 YN (v:=.bool (!(ltB u v || decide (u=v)))) (fun ρ w hr=>by
  simp [execOp,hr _ _ hx,hr _ _ hy,binOp,Op.stringOp,eqGuard,ltB,Yih]) (by
  cases h:ltB u v with
  | true=>exact hf (.inl h)
  | false=>
   by_cases e:u=v
   ·rw [decide_eq_true e];exact hf (.inr e)
   ·rw [decide_eq_false e];exact ht h e)
end
def cmpS (a b:Bs):Int:=if ltB a b=true then -1 else if a=b then 0 else 1
def cmpL:List Bs→List Bs→Int
 | [],[]=>0
 | [],_::_=> -1
 | _::_,[]=>1
 | x::xs,y::ys=>if cmpS x y≠0 then cmpS x y else cmpL xs ys
def cmpA (a b:Atom):Int:=if cmpS a.name b.name≠0 then cmpS a.name b.name else cmpL a.args b.args
theorem Yml (a b:Bs):I64 (cmpS a b):=by
 unfold cmpS I64
 split
 ·omega
 ·split<;>omega
theorem Ymm:∀ (a b:List Bs),I64 (cmpL a b)
 | [],[]=>by unfold cmpL I64;omega
 | [],_::_=>by unfold cmpL I64;omega
 | _::_,[]=>by unfold cmpL I64;omega
 | x::xs,y::ys=>by
  unfold cmpL
  split
  ·exact Yml x y
  ·exact Ymm xs ys
theorem nanS_q {a:Bs}:QFn prog 177 [.string a] fz (.bool false):=by
 refine GFn.quiet ?_
 refine zF Tryz.func177 Tryz.ntmps177 (fun w0=>?_)
 refine zW ?_;intros
 refine zC (fun c1=>?_) (fun c1=>?_)
 ·exact absurd rfl c1
 ·refine zW ?_;intros
  exact zR (h:=rfl)
theorem cmpS_q {a b:Bs}:QFn prog 127 [.string a,.string b] fz (.int .i64 (cmpS a b)):=by
 refine GFn.quiet ?_
 refine zF Tryz.func127 Tryz.ntmps127 (fun w0=>?_)
 refine zW ?_;intros
 refine zc (nanS_q (a:=a)) ?_
 refine zW ?_;intros
 refine zc (nanS_q (a:=b)) ?_
 refine zW ?_;intros
 refine zG ?_;refine Yka Zz Zz (fun h1=>?_) (fun h1=>?_)
 ·refine zW ?_;intros
  exact zR (h:=by rw [cmpS,if_pos h1])
 ·refine zW ?_;intros
  refine zG ?_;refine Ykd Zz Zz (fun h2 h3=>?_) (fun h2=>?_)
  ·refine zW ?_;intros
   exact zR (h:=by rw [cmpS,if_neg (by rw [h1];decide),if_neg h3])
  ·refine zW ?_;intros
   (exact ret1 rfl rfl Zb (by
    have h3:a=b:=h2.resolve_left (by rw [h1];decide)
    rw [cmpS,if_neg (by rw [h1];decide),if_pos h3]))
theorem YgE {l:List Bs}:cmpL [] l=if 0<l.length then -1 else 0:=by cases l<;>simp [cmpL]
theorem cmpL_q {m b:Nat} {l l':List Bs} (ha:Sl strL fz A n c l) (hb:Sl strL fz B m b l'):QFn prog 128 [.slice A n c,.slice B m b] fz (.int .i64 (cmpL l l')):=by
 have la:=ha.len
 have lb:=hb.len
 have sa:=ha.short
 refine GFn.quiet ?_
 refine zF Tryz.func128 Tryz.ntmps128 (fun w0=>?_)
 refine zW ?_;intros
 refine Yk (fun q σ fz' H'=>∃ k:Nat,k≤n∧q=n - k∧σ=[(11,.int .i64 k),(10,.int .i64 n),(9,.slice A n c),(0,.slice A n c),(1,.slice B m b)]∧fz=fz'∧H'=[]∧k≤m∧cmpL (l.drop k) (l'.drop k)=cmpL l l') ⟨0,Z0 _,rfl,rfl,rfl,rfl,⟨Z0 _,rfl⟩⟩ Zw Zb ?_;rintro q σ fz' H' ⟨k,hk,rfl,rfl,rfl,rfl,hh⟩
 obtain ⟨hkm,hcm⟩:=hh
 refine zW ?_;intros
 refine zC (fun c1=>?_) (fun c1=>?_)
 ·obtain ⟨x,hx⟩:=Yg (l:=l) (k:=k) Zi
  have ex:l.drop k=x::l.drop (k+1):=by
   obtain ⟨h1,h2⟩:=Zg hx
   rw [← h2];exact List.drop_eq_getElem_cons h1
  refine zW ?_;intros
  refine zI ha hx (fun p1 hp1=>?_)
  refine zH hp1 (fun hs1=>?_)
  refine zW ?_;intros
  refine zC (fun c2=>?_) (fun c2=>?_)
  ·have ey:l'.drop k=[]:=List.drop_eq_nil_of_le Zi
   rw [ex,ey] at hcm
   refine zW ?_;intros
   exact zR (h:=by rw [← hcm];rfl)
  ·obtain ⟨y,hy⟩:=Yg (l:=l') (k:=k) Zi
   have ey:l'.drop k=y::l'.drop (k+1):=by
    obtain ⟨h1,h2⟩:=Zg hy
    rw [← h2];exact List.drop_eq_getElem_cons h1
   rw [ex,ey] at hcm
   refine zW ?_;intros
   refine zI hb hy (fun p2 hp2=>?_)
   refine zH hp2 (fun hs2=>?_)
   refine zW ?_;intros
   refine zc (cmpS_q (a:=x) (b:=y)) ?_
   refine zW ?_;intros
   refine zC (fun c3=>?_) (fun c3=>?_)
   ·refine zW ?_;intros
    exact zR (h:=by rw [← hcm,cmpL,if_pos c3])
   ·refine zW ?_;intros
    refine YA ⟨k+1,by omega,rfl,rfl,rfl,rfl,by omega,?_⟩ Zi Zw Zb
    rw [← hcm,cmpL,if_neg Zi]
 ·have hk2:k=n:=by omega
  subst hk2
  rw [List.drop_eq_nil_of_le Zi,YgE,List.length_drop] at hcm
  refine zW ?_;intros
  refine zC (fun c2=>?_) (fun c2=>?_)
  ·rw [if_pos Zi] at hcm
   refine zW ?_;intros
   exact zR (h:=by rw [← hcm])
  ·rw [if_neg Zi] at hcm
   refine zW ?_;intros
   exact zR (h:=by rw [← hcm])
variable {g:Nat} {t:TypeId}
theorem or_f {x y:Int} (hx:I64 x) (hy:I64 y) (hc:2≤c∧c≤9223372036854775807):
 GFn prog 126 [.slice (some ⟨g,0,none⟩) 2 c] fz [(g,.cells #[.int .i64 x,.int .i64 y] t (0,0))] (fun r fz' H'=>H'=[]∧r=.int .i64 (if x≠0 then x else y)):=by
 refine zF Tryz.func126 Tryz.ntmps126 (fun w0=>?_)
 refine Wp.freezeAll (H1:=[]) (Zr _) (fun fz1 hle1 hf1=>?_)
 have h:Sl intL fz1 (some ⟨g,0,none⟩) 2 c [x,y]:=by
  refine ⟨rfl,hc.1,hc.2,by decide,.inr ⟨_,rfl,fun i d hd=>?_⟩⟩
  have hg:=hf1 _ (List.mem_singleton.2 rfl)
  match i,hd with
  | 0,hd=>
   simp at hd;subst hd
   exact ⟨_,⟨rfl,hx⟩,fun j v hv=>by
    match j,hv with
    | 0,hv=>simp at hv;subst hv;simp [Ybj,Addr.add,hg]
    | j+1,hv=>simp at hv⟩
  | 1,hd=>
   simp at hd;subst hd
   exact ⟨_,⟨rfl,hy⟩,fun j v hv=>by
    match j,hv with
    | 0,hv=>simp at hv;subst hv;simp [Ybj,Addr.add,hg,intL]
    | j+1,hv=>simp at hv⟩
  | i+2,hd=>simp at hd
 refine zW ?_;intros
 refine Yk (fun q σ fz2 H'=>∃ k:Nat,k≤2∧q=2 - k∧σ=[(8,.int .i64 k),(7,.int .i64 2),(6,.slice (some ⟨g,0,none⟩) 2 c),(3,.int .i64 0)]∧fz1=fz2∧H'=[]∧(1≤k→x=0)∧(2≤k→y=0)) ⟨0,Z0 _,rfl,rfl,rfl,rfl,by omega,by omega⟩ Zw Zb ?_
 rintro q σ fz' H' ⟨k,hk,rfl,rfl,rfl,rfl,h1,h2⟩
 refine zW ?_;intros
 refine zC (fun c1=>?_) (fun c1=>?_)
 ·obtain ⟨z,hz⟩:=Yg (l:=[x,y]) (k:=k) (by simp;omega)
  refine zW ?_;intros
  refine zI h hz (fun p1 hp1=>?_)
  ((refine zG ?_);refine Ykc T Zz Zz Zz hp1 (fun hi1=>?_))
  refine zW ?_;intros
  refine zC (fun c2=>?_) (fun c2=>?_)
  ·refine zW ?_;intros
   refine ret1 rfl rfl Zb ⟨rfl,?_⟩
   match k,hz,h1 with
   | 0,hz,_=>simp at hz;subst hz;rw [if_pos c2]
   | 1,hz,h1=>simp at hz;subst hz;rw [if_neg (by rw [h1 (Zs _)];decide)]
   | k+2,hz,_=>simp at hz
  ·refine zW ?_;intros
   refine YA ⟨k+1,by omega,rfl,rfl,rfl,rfl,?_,?_⟩ Zi Zw Zb
   ·intro _
    match k,hz,h1 with
    | 0,hz,_=>simp at hz;omega
    | k+1,hz,h1=>exact h1 Zi
   ·intro hk3
    have:k=1:=by omega
    subst this
    simp at hz;omega
 ·refine zW ?_;intros
  refine ret1 rfl rfl Zb ⟨rfl,?_⟩
  rw [if_neg (by rw [h1 Zi];decide),h2 Zi]
theorem Ymi {fz:FZ} {a b:Atom} {va vb:Value} (ha:AtomR fz a va) (hb:AtomR fz b vb):GFn prog 75 [.agg #[.string a.name,va],.agg #[.string b.name,vb]] fz [] (fun r fz' H'=>H'=[]∧r=.int .i64 (cmpA a b)):=by
 obtain ⟨A,n,c,rfl,ia⟩:=ha.args
 obtain ⟨B,m,d,rfl,ib⟩:=hb.args
 refine zF Tryz.func75 Tryz.ntmps75 (fun w0=>?_)
 refine Yp (Yq (Yb Zz (Y3 _ Zz Zz (fun g0=>?_))))
 refine Yb Zz (Y3 _ Zz Zz (fun g1=>?_))
 refine zWN ?_;intros
 refine Wp.drawK (Hq:=[_,_]) T.mixed Zj Zj Zb ?_
 refine zW ?_;intros
 refine zc (cmpS_q (a:=a.name) (b:=b.name)) ?_
 refine zW ?_;intros
 refine zc (cmpL_q ia ib) ?_
 refine Ye ?_
 refine Ye ?_
 refine Ye ?_
 refine YD ⟨by kernel_rfl,?_⟩
 refine Yj (Yc T (cs:=[.int .i64 (cmpS a.name b.name),.int .i64 (cmpL a.args b.args)]) Zz Zz Zz Zz Zz Zz Zz Zz (fun gb=>⟨(⟨(Le.refl _),Zx⟩),?_⟩))
 refine Yj (Yl [_] [_,_] Zz Zz Zz (or_f (Yml _ _) (Ymm _ _) ⟨Zs _,by decide⟩) (fun v2 fz2 H2 hle2 hR2=>?_))
 obtain ⟨rfl,rfl⟩:=hR2
 refine ⟨(⟨hle2,Zx⟩),?_⟩
 refine Ch.q (Yz Zz ⟨(⟨hle2,Zx⟩),?_⟩)
 refine Ch.done ?_
 refine zW ?_;intros
 exact YdP rfl rfl (fun fz3 hle3 hf3=>⟨rfl,rfl⟩)
end
theorem Yd6 {l:List Bs} (h:Sl strL fz A n c l) (hn:n≤1000000000):
 GFn prog 30 [.slice A n c] fz [] (fun v fz' H'=>Grow strL 9 fz' v n H' l):=by
 have l1:=h.len
 refine zF Tryz.func30 Tryz.ntmps30 (fun w0=>?_)
 refine zV ?_;intros
 refine zG ?_;refine Wm T Zz Zz Zz Zz (fun eA=>?_) (fun eA=>?_)
 ·subst eA
  have hl:l=[]:=by
   rcases h.elem with h0 | ⟨_,h0,_⟩
   ·exact List.eq_nil_of_length_eq_zero Zi
   ·cases h0
  subst hl
  simp at l1
  subst l1
  refine zV ?_;intros
  refine YcD (H':=[]) (H2:=[]) rfl rfl (Zr _) (fun fz3 hle3 _=>Grow.nil _ _ _)
 ·refine zV ?_;intros
  refine Yb Zz (WO T Zz Zz Zz (fun gb=>?_))
  refine zV ?_;intros
  refine Yb Zz (X8 T (Hr:=[]) (n:=0) (l:=[]) Zz Zz Zz Zz Zz Zz Zz Zz (Zr _) (Grow.block (ys:=[]) rfl rfl (by intro p hp;cases hp) rfl Zh) YbM h (by show _*16≤_;omega) Zi (fun v' Hs' hO'=>?_))
  obtain ⟨Av',cv',rfl,_,_⟩:=hO'.form
  refine zV ?_;intros
  refine YcD (H':=Hs') (H2:=[]) rfl rfl (by simp) (fun fz3 hle3 _=>(hO'.mono hle3).of (by simp) Zi)
end Go.Proofs.YtbnpeechpebmeaaGreatDoor
namespace Go.Proofs
open Go.Shelf
def Tryz.sortAtom_ren:Go.Shelf.Ren:=⟨fun | 6=>74 | 15=>125 | 14=>124 | 28=>175 | 29=>176 | 20=>167 | 21=>168 | 22=>169 | 23=>170 | 24=>171 | 25=>172 | 26=>173 | 27=>174 | 46=>203 | 47=>204 | 48=>205 | 49=>206 | 50=>207 | 57=>224 | n=>n,fun | 22=>49 | 24=>48 | 25=>108 | 3=>3 | 39=>203 | 0=>0 | 53=>251 | 55=>253 | 4=>4 | 46=>244 | 45=>243 | 50=>248 | 5=>5 | 9=>9 | 66=>273 | 70=>169 | 76=>286 | 77=>287 | n=>n,fun | n=>n⟩
theorem Tryz.sortAtom:Go.Proofs.SlLaysF0.n6 Tryz.prog Tryz.sortAtom_ren:={
 mixed:=by kernel_rfl
 f6:=⟨Tryz.f74.name,by decide,Tryz.func74.trans (congrArg some (by kernel_rfl))⟩
 f14:=⟨Tryz.f124.name,by decide,Tryz.func124.trans (congrArg some (by kernel_rfl))⟩
 f15:=Tryz.func125.trans (congrArg some (by kernel_rfl))
 f20:=⟨Tryz.f167.name,by decide,Tryz.func167.trans (congrArg some (by kernel_rfl))⟩
 f21:=⟨Tryz.f168.name,by decide,Tryz.func168.trans (congrArg some (by kernel_rfl))⟩
 f22:=⟨Tryz.f169.name,by decide,Tryz.func169.trans (congrArg some (by kernel_rfl))⟩
 f23:=⟨Tryz.f170.name,by decide,Tryz.func170.trans (congrArg some (by kernel_rfl))⟩
 f24:=⟨Tryz.f171.name,by decide,Tryz.func171.trans (congrArg some (by kernel_rfl))⟩
 f25:=⟨Tryz.f172.name,by decide,Tryz.func172.trans (congrArg some (by kernel_rfl))⟩
 f26:=⟨Tryz.f173.name,by decide,Tryz.func173.trans (congrArg some (by kernel_rfl))⟩
 f27:=⟨Tryz.f174.name,by decide,Tryz.func174.trans (congrArg some (by kernel_rfl))⟩
 f28:=Tryz.func175.trans (congrArg some (by kernel_rfl))
 f29:=Tryz.func176.trans (congrArg some (by kernel_rfl))
 f46:=⟨Tryz.f203.name,by decide,Tryz.func203.trans (congrArg some (by kernel_rfl))⟩
 f47:=Tryz.func204.trans (congrArg some (by kernel_rfl))
 f48:=Tryz.func205.trans (congrArg some (by kernel_rfl))
 f49:=⟨Tryz.f206.name,by decide,Tryz.func206.trans (congrArg some (by kernel_rfl))⟩
 f50:=⟨Tryz.f207.name,by decide,Tryz.func207.trans (congrArg some (by kernel_rfl))⟩
 f57:=⟨Tryz.f224.name,by decide,Tryz.func224.trans (congrArg some (by kernel_rfl))⟩
 t0:=Tryz.underlying0
 a0:=Tryz.isAgg0
 z0:=Tryz.sizeOf0
 v0:=Tryz.zeroValue0
 t3:=Tryz.underlying3
 a3:=Tryz.isAgg3
 z3:=Tryz.sizeOf3
 v3:=Tryz.zeroValue3
 t4:=Tryz.underlying4
 a4:=Tryz.isAgg4
 z4:=Tryz.sizeOf4
 v4:=Tryz.zeroValue4
 t5:=Tryz.underlying5
 a5:=Tryz.isAgg5
 z5:=Tryz.sizeOf5
 v5:=Tryz.zeroValue5
 t9:=Tryz.underlying9
 a9:=Tryz.isAgg9
 z9:=Tryz.sizeOf9
 v9:=Tryz.zeroValue9
 t22:=Tryz.underlying49
 a22:=Tryz.isAgg49
 z22:=Tryz.sizeOf49
 v22:=Tryz.zeroValue49
 t25:=Tryz.underlying108
 a25:=Tryz.isAgg108
 z25:=Tryz.sizeOf108
 v25:=Tryz.zeroValue108
 t39:=Tryz.underlying203
 a39:=Tryz.isAgg203
 z39:=Tryz.sizeOf203
 v39:=Tryz.zeroValue203
 t45:=Tryz.underlying243
 a45:=Tryz.isAgg243
 z45:=Tryz.sizeOf243
 v45:=Tryz.zeroValue243
 t46:=Tryz.underlying244
 a46:=Tryz.isAgg244
 z46:=Tryz.sizeOf244
 v46:=Tryz.zeroValue244
 t50:=Tryz.underlying248
 a50:=Tryz.isAgg248
 z50:=Tryz.sizeOf248
 v50:=Tryz.zeroValue248
 t53:=Tryz.underlying251
 a53:=Tryz.isAgg251
 z53:=Tryz.sizeOf251
 v53:=Tryz.zeroValue251
 t55:=Tryz.underlying253
 a55:=Tryz.isAgg253
 z55:=Tryz.sizeOf253
 v55:=Tryz.zeroValue253
 t66:=Tryz.underlying273
 a66:=Tryz.isAgg273
 z66:=Tryz.sizeOf273
 v66:=Tryz.zeroValue273
 t70:=Tryz.underlying169
 a70:=Tryz.isAgg169
 z70:=Tryz.sizeOf169
 v70:=Tryz.zeroValue169
 t76:=Tryz.underlying286
 a76:=Tryz.isAgg286
 z76:=Tryz.sizeOf286
 v76:=Tryz.zeroValue286
 t77:=Tryz.underlying287
 a77:=Tryz.isAgg287
 z77:=Tryz.sizeOf287
 v77:=Tryz.zeroValue287}
end Go.Proofs
namespace Go.Proofs.YtbnpeechpebmeaaGreatDoor
open Go.Lx Go.RowKit
attribute [local instance 10] Classical.propDecidable
structure OrdC {α:Type} (C:α→α→Int):Prop where
 refl:∀ x,C x x=0
 anti:∀ x y,C x y<0↔0<C y x
 eq0:∀ x y,C x y=0→x=y
 trans:∀ x y z,C x y<0→C y z<0→C x z<0
theorem list_inj {a b:Bs} (h:a.toList=b.toList):a=b:=by
 rw [ByteArray.toList_eq,ByteArray.toList_eq] at h
 have h1:a.data=a.data.toList.toArray:=by simp
 have h2:b.data=b.data.toList.toArray:=by simp
 exact ByteArray.ext (by rw [h1,h2,h])
theorem YbR (a b:Bs):ltB a b=true↔a.toList<b.toList:=by
 unfold ltB
 rw [Go.Proofs.bytesLess_eq];exact decide_eq_true_iff
theorem ordS:OrdC cmpS where
 refl x:=by
  unfold cmpS
  rw [if_neg (fun h=>List.lt_irrefl _ ((YbR x x).1 h)),if_pos rfl]
 anti x y:=by
  unfold cmpS
  by_cases h1:ltB x y=true
  ·have h2:¬ltB y x=true:=fun h=>List.not_lt.2 (List.le_of_lt ((YbR _ _).1 h1)) ((YbR _ _).1 h)
   have h3:¬y=x:=fun e=>by subst e;exact h2 h1
   rw [if_pos h1,if_neg h2,if_neg h3];decide
  ·by_cases h2:ltB y x=true
   ·have h3:¬x=y:=fun e=>by subst e;exact h1 h2
    rw [if_neg h1,if_neg h3,if_pos h2];decide
   ·have h3:x=y:=list_inj (List.le_antisymm (List.not_lt.1 (fun h=>h2 ((YbR _ _).2 h))) (List.not_lt.1 (fun h=>h1 ((YbR _ _).2 h))))
    rw [if_neg h1,if_neg h2,if_pos h3,if_pos h3.symm];try decide
 eq0 x y h:=by
  unfold cmpS at h
  split at h
  ·cases h
  ·split at h
   ·assumption
   ·cases h
 trans x y z h1 h2:=by
  have k:∀ a b,cmpS a b<0→ltB a b=true:=fun a b h=>by
   unfold cmpS at h
   split at h
   ·assumption
   ·split at h
    ·exact absurd h Zh
    ·exact absurd h Zh
  unfold cmpS
  rw [if_pos ((YbR _ _).2 (List.lt_trans ((YbR _ _).1 (k x y h1)) ((YbR _ _).1 (k y z h2))))];decide
theorem Yhf:∀ x:List Bs,cmpL x x=0
 | []=>rfl
 | a::r=>by rw [cmpL,if_neg (by rw [ordS.refl];decide)];exact Yhf r
theorem Yhg:∀ x y:List Bs,cmpL x y<0↔0<cmpL y x
 | [],[]=>by simp [cmpL]
 | [],_::_=>by simp [cmpL]
 | _::_,[]=>by simp [cmpL]
 | a::r,b::s=>by
  rw [cmpL,cmpL]
  by_cases h:cmpS a b=0
  ·have e:=ordS.eq0 a b h
   subst e
   rw [if_neg (by rw [h];decide),if_neg (by rw [h];decide)]
   exact Yhg r s
  ·have h2:cmpS b a≠0:=fun h2=>h (by rw [ordS.eq0 b a h2];exact ordS.refl a)
   rw [if_pos h,if_pos h2]
   exact ordS.anti a b
theorem Yjf:∀ x y:List Bs,cmpL x y=0→x=y
 | [],[],_=>rfl
 | [],_::_,h=>by simp [cmpL] at h
 | _::_,[],h=>by simp [cmpL] at h
 | a::r,b::s,h=>by
  rw [cmpL] at h
  by_cases h0:cmpS a b=0
  ·rw [if_neg (by rw [h0];decide)] at h
   rw [ordS.eq0 a b h0,Yjf r s h]
  ·rw [if_pos h0] at h;exact absurd h h0
theorem Yfy:∀ x y z:List Bs,cmpL x y<0→cmpL y z<0→cmpL x z<0
 | [],_,[],h1,h2=>by
  rename_i y
  cases y<;>simp [cmpL] at h1 h2
 | [],_,_::_,_,_=>by simp [cmpL]
 | _::_,[],_,h1,_=>by simp [cmpL] at h1
 | _::_,_::_,[],_,h2=>by simp [cmpL] at h2
 | a::r,b::s,c::t,h1,h2=>by
  rw [cmpL] at h1 h2 ⊢
  by_cases e1:cmpS a b=0
  ·have:=ordS.eq0 a b e1
   subst this
   rw [if_neg (by rw [e1];decide)] at h1
   by_cases e2:cmpS a c=0
   ·rw [if_neg (by rw [e2];decide)] at h2
    rw [if_neg (by rw [e2];decide)]
    exact Yfy r s t h1 h2
   ·rw [if_pos e2] at h2
    rw [if_pos e2];exact h2
  ·rw [if_pos e1] at h1
   by_cases e2:cmpS b c=0
   ·have:=ordS.eq0 b c e2
    subst this
    rw [if_pos e1];exact h1
   ·rw [if_pos e2] at h2
    have h3:=ordS.trans a b c h1 h2
    rw [if_pos Zi];exact h3
theorem ordA:OrdC cmpA where
 refl x:=by unfold cmpA;rw [if_neg (by rw [ordS.refl];decide)];exact Yhf _
 anti x y:=by
  unfold cmpA
  by_cases h:cmpS x.name y.name=0
  ·have h2:cmpS y.name x.name=0:=by rw [ordS.eq0 _ _ h];exact ordS.refl _
   rw [if_neg (by rw [h];decide),if_neg (by rw [h2];decide)]
   exact Yhg _ _
  ·have h2:cmpS y.name x.name≠0:=fun h2=>h (by rw [ordS.eq0 _ _ h2];exact ordS.refl _)
   rw [if_pos h,if_pos h2]
   exact ordS.anti _ _
 eq0 x y h:=by
  unfold cmpA at h
  by_cases h0:cmpS x.name y.name=0
  ·rw [if_neg (by rw [h0];decide)] at h
   have e1:=ordS.eq0 _ _ h0
   have e2:=Yjf _ _ h
   cases x;cases y
   simp only at e1 e2
   rw [e1,e2]
  ·rw [if_pos h0] at h;exact absurd h h0
 trans x y z h1 h2:=by
  unfold cmpA at h1 h2 ⊢
  by_cases e1:cmpS x.name y.name=0
  ·rw [if_neg (by rw [e1];decide)] at h1
   have e:=ordS.eq0 _ _ e1
   rw [e]
   by_cases e2:cmpS y.name z.name=0
   ·rw [if_neg (by rw [e2];decide)] at h2
    rw [if_neg (by rw [e2];decide)]
    exact Yfy _ _ _ h1 h2
   ·rw [if_pos e2] at h2
    rw [if_pos e2];exact h2
  ·rw [if_pos e1] at h1
   by_cases e2:cmpS y.name z.name=0
   ·have e:=ordS.eq0 _ _ e2
    rw [← e,if_pos e1];exact h1
   ·rw [if_pos e2] at h2
    have h3:=ordS.trans _ _ _ h1 h2
    rw [if_pos Zi];exact h3
theorem OrdC.swo {α β:Type} {C:α→α→Int} (h:OrdC C) (f:β→α):Go.Sort.SWO (ltOf fun x y=>C (f x) (f y)) where
 irrefl x:=by unfold ltOf;exact decide_eq_false (by show ¬C (f x) (f x)<0;rw [h.refl];decide)
 trans x y z h1 h2:=by
  unfold ltOf at h1 h2 ⊢
  exact decide_eq_true (h.trans _ _ _ (Zt h1) (Zt h2))
 ntrans x y z h1 h2:=by
  unfold ltOf at h1 h2 ⊢
  have k1:¬C (f x) (f y)<0:=Zf h1
  have k2:¬C (f y) (f z)<0:=Zf h2
  refine decide_eq_false fun k3=>?_
  have k3:C (f x) (f z)<0:=k3
  have a1:=(h.anti (f x) (f z)).1 k3
  by_cases e1:C (f x) (f y)=0
  ·rw [← h.eq0 _ _ e1] at k2;exact k2 k3
  ·by_cases e2:C (f y) (f z)=0
   ·rw [h.eq0 _ _ e2] at k1;exact k1 k3
   ·have b1:C (f y) (f x)<0:=(h.anti _ _).2 Zi
    have b2:C (f z) (f y)<0:=(h.anti _ _).2 Zi
    have:=h.trans _ _ _ b2 b1
    omega
@[reducible] def drT:Dr:=⟨True⟩
variable {w':World}
theorem YjR {W:World} (h: @Fr drT [] W w'):∃ q os',w'=Go.Sort.grow (W.drewN q) os':=by
 refine ⟨w'.drawn - W.drawn,w'.heap.extract W.heap.size w'.heap.size,?_⟩
 obtain ⟨h1,h2,h3,h4,h5,h6⟩:=h
 obtain ⟨a1,a2,a3,a4,a5⟩:=w'
 obtain ⟨b1,b2,b3,b4,b5⟩:=W
 replace h6:=h6 trivial
 simp only at h1 h2 h3 h4 h5 h6
 subst h1;subst h2;subst h3
 unfold Go.Sort.grow World.drewN
 simp only
 congr 1
 ·refine Array.ext_getElem? fun i=>?_
  by_cases hi:i<b1.size
  ·rw [Array.getElem?_append_left hi]
   exact h5 i hi (by simp)
  ·rw [Array.getElem?_append_right Zi]
   by_cases hj:i<a1.size
   ·rw [Array.getElem?_extract,if_pos Zi]
    congr 1;omega
   ·rw [Array.getElem?_eq_none Zi,Array.getElem?_eq_none (by simp;omega)]
 ·omega
variable {g k:Nat}
theorem Yig {α:Type} [Inhabited α] {enc:α→List Value} {w:World} {m b:Nat} {dk:Array α} {os:Array Obj} (hb:b<w.heap.size) (hg:b≠g):(sortWorldK enc k w g 0 m dk os).heap[b]?=w.heap[b]?:=by
 unfold sortWorldK Go.Sort.grow Go.Sort.putRowK Go.Sort.putRow Go.Sort.mapBlock Go.Sort.ahead
 simp only
 rw [Array.getElem?_append_left (by simpa using hb),Array.getElem?_modify,if_neg (fun h=>hg h.symm)]
def YgK (l:List Atom):Prop:=∀ (i j:Nat) (a b:Atom),i<j→l[i]?=some a→l[j]?=some b→¬cmpA b a<0
end Go.Proofs.YtbnpeechpebmeaaGreatDoor
namespace Go.Proofs.YtbnpeechpebmeaaGreatDoor
open Go.Lx Go.RowKit
attribute [local instance 10] Classical.propDecidable
open Go.Proofs.Tryz (prog)
variable {i:Nat}
theorem list_get! {α:Type} [Inhabited α] {l:List α} {x:α} (h:l[i]?=some x):l.toArray[i]! =x:=by
 obtain ⟨h1,h2⟩:=Zg h
 rw [getElem!_pos l.toArray i (by simpa using h1)]
 simpa using h2
theorem YlI {α:Type} [Inhabited α] {l:List α} {x:α} (h:l[i]?=some x):l[i]! =x:=by
 obtain ⟨h1,h2⟩:=Zg h
 rw [getElem!_pos l i h1]
 exact h2
theorem YjN:OneC atomL:=by
 intro fz d cs h u hu
 obtain ⟨va,rfl,hR⟩:=WF h
 obtain ⟨A,n,c,rfl,_⟩:=hR.args
 rcases List.mem_cons.1 hu with rfl | hu
 ·rfl
 ·rw [List.mem_singleton] at hu
  subst hu;rfl
variable {g k:Nat} {t:TypeId}
theorem Yk3 {α:Type} [Inhabited α] {enc:α→List Value} {w:World} {m:Nat} {dk:Array α} {os:Array Obj} {cs:Array Value} (hg:w.heap[g]?=some (.cells cs t (0,0))):(sortWorldK enc k w g 0 m dk os).heap[g]?=some (.cells (Go.Sort.putCells id 0 (Go.Sort.flatK enc k dk) cs) t (0,0)):=by
 unfold sortWorldK Go.Sort.grow Go.Sort.putRowK Go.Sort.putRow Go.Sort.mapBlock Go.Sort.ahead
 simp only
 rw [Array.getElem?_append_left (by simpa using lt_of_heap hg),Array.getElem?_modify,if_pos rfl,hg]
 rfl
variable {fz:FZ} {n:Nat}
theorem sort_f {cap:Nat} {cur:List Value} {l:List Atom} (hB:GrowB atomL t fz g n cap cur l) (hn:0<n) (hn2:n≤2000000):
 GFn prog 74 [.slice (some ⟨g,0,none⟩) n cap,.func (.func 75) #[] #[]] fz [(g,.cells cur.toArray t (0,0))]
  (fun r fz' H'=>r=.tuple #[]∧fz=fz'∧∃ cur' l',H'=[(g,.cells (List.toArray cur') t (0,0))]∧GrowB atomL t fz g n cap cur' l'∧l'.Perm l∧YgK l'):=by
 obtain ⟨xs,e1,e2,e3⟩:=hB.pairs
 have hxl:xs.length=n:=by have:=hB.len;rw [← e1,List.length_map] at this;exact this
 have hsz:=hB.size
 have hcap:=hB.capn
 have hz:atomL.size=2:=rfl
 rw [hz] at hsz e3
 refine GFn.of ⟨_,Tryz.func74,by decide,by decide⟩ (fun w hw=>?_)
 have hg:=hw.own (g,.cells cur.toArray t (0,0)) (.head _)
 simp only at hg
 have hgs:=lt_of_heap hg.1
 obtain ⟨x0,hx0⟩:=Yg (l:=xs) (k:=0) Zi
 haveI:Inhabited {x:Atom × List Value // atomL.rep fz x.1 x.2}:=⟨⟨x0,e2 x0 (Zm hx0)⟩⟩
 generalize hds:(xs.attach.map fun p=>(⟨p.1,e2 p.1 p.2⟩:{x:Atom × List Value // atomL.rep fz x.1 x.2}))=ds
 have hdm:ds.map (·.1)=xs:=by rw [← hds,List.map_map];exact List.attach_map_subtype_val xs
 have hdl:ds.length=n:=by rw [← hxl,← hdm,List.length_map]
 have hk2:∀ x:{x:Atom × List Value // atomL.rep fz x.1 x.2},x.1.2.length=2:=fun x=>atomL.len x.2
 have h1c:∀ x:{x:Atom × List Value // atomL.rep fz x.1 x.2},∀ v∈x.1.2,v.oneCell'=true:=fun x v hv=>YjN _ _ _ x.2 v hv
 have hpos:∀ (k:Nat) (cs:List Value) (ys:List {x:Atom × List Value // atomL.rep fz x.1 x.2}),True:=fun _ _ _=>trivial
 have hcell:∀ (ys:List {x:Atom × List Value // atomL.rep fz x.1 x.2}) (j:Nat),j<ys.length*2→∃ v,((ys.map (·.1)).flatMap Prod.snd)[j]?=some v∧(Go.Sort.flatK (fun x:{x:Atom × List Value // atomL.rep fz x.1 x.2}=>x.1.2) 2 ys.toArray)[j]! =v:=by
  intro ys j hj
  obtain ⟨y,hy⟩:=Yg (l:=ys) (k:=j / 2) Zi
  obtain ⟨v,hv⟩:=Yg (l:=y.1.2) (k:=j % 2) (by rw [hk2 y];omega)
  have hf:=YeQ (z:=2) (l:=ys.map (·.1)) (i:=j / 2) (j:=j % 2) (x:=y.1) (u:=v) (fun p hp=>by
   obtain ⟨q,_,rfl⟩:=List.mem_map.1 hp
   exact hk2 q) (by rw [List.getElem?_map,hy];rfl) hv
  rw [show j / 2*2+j % 2=j by omega] at hf
  refine ⟨v,hf,?_⟩
  rw [Go.Sort.get_flatK _ _ _ _ (by simpa using hj),list_get! hy]
  exact YlI hv
 have hcmp:CmpLays prog 75 #[] (fun x:{x:Atom × List Value // atomL.rep fz x.1 x.2}=>x.1.2) 2 (fun x y=>cmpA x.1.1 y.1.1) g 0 ds.toArray.size w:=by
  intro m os dk _ x y
  obtain ⟨⟨a,ca⟩,hx⟩:=x
  obtain ⟨⟨b,cb⟩,hy⟩:=y
  obtain ⟨va,hca,ha⟩:=WF hx
  obtain ⟨vb,hcb,hb⟩:=WF hy
  simp only at hca hcb ha hb
  subst hca;subst hcb
  have hD:=@GFn.out drT _ _ _ _ _ _ (@Ymi drT _ _ _ _ _ ha hb) (sortWorldK (fun x:{x:Atom × List Value // atomL.rep fz x.1 x.2}=>x.1.2) 2 w g 0 m dk os) ⟨fun b o hbo=>by
   have h1:=hw.keep b o hbo
   rw [Yig (lt_of_heap h1) (fun e=>by subst e;rw [hg.2] at hbo;cases hbo)]
   exact h1,by simp,by simp⟩
  refine hD.mono fun e w' hh=>?_
  obtain ⟨v,fz',H',he,⟨_,rfl⟩,_,hfr,_⟩:=hh
  exact ⟨he,YjR hfr⟩
 have hH:Go.Sort.HoldsK (fun x:{x:Atom × List Value // atomL.rep fz x.1 x.2}=>x.1.2) 2 w g 0 ds.toArray:=by
  intro j hj
  rw [Go.Sort.size_flatK] at hj
  simp only [List.size_toArray] at hj
  obtain ⟨v,h1,h2⟩:=hcell ds j hj
  rw [hdm,← e3] at h1
  refine ⟨?_,?_⟩
  ·rw [h2]
   show w.cell? ⟨g,0+j,none⟩=some v
   rw [List.getElem?_take_of_lt Zi] at h1
   simp [World.cell?,hg.1,h1]
  ·simp [World.frozen?,hg.1]
 have hcon:=AnyQ.slices_SortFunc Tryz.sortAtom 2 (fun W=>(Go.Lx.run_isAgg T (t:=48) rfl W).trans rfl) (fun W=>(Go.Lx.run_sizeOf T (t:=48) rfl W).trans rfl)
  (fun x:{x:Atom × List Value // atomL.rep fz x.1 x.2}=>x.1.2) hk2 h1c (fun x y=>cmpA x.1.1 y.1.1) (ordA.swo (fun x:{x:Atom × List Value // atomL.rep fz x.1 x.2}=>x.1.1)) 75 #[] g 0 cap ds.toArray w
  (enters_of Tryz.func75 Zj rfl) hcmp hH hgs (by simp;omega)
 simp only [List.size_toArray,hdl] at hcon
 refine Calls.mono hcon fun e w' hh=>?_
 obtain ⟨he,d',m,os,hp,hs,rfl⟩:=hh
 have hsd:d'.size=n:=by rw [hp.1];simp [hdl]
 obtain ⟨ys,rfl⟩:∃ ys:List {x:Atom × List Value // atomL.rep fz x.1 x.2},d'=ys.toArray:=⟨d'.toList,by simp⟩
 simp only [List.size_toArray] at hsd
 have hperm:ys.Perm ds:=by
  have h:=hp.2.2
  rw [show (ys.toArray.extract 0 n)=ys.toArray from by rw [← hsd];simp,show (ds.toArray.extract 0 n)=ds.toArray from by rw [← hdl];simp] at h
  simpa using h
 have hgw:=Yk3 (enc:=fun x:{x:Atom × List Value // atomL.rep fz x.1 x.2}=>x.1.2) (k:=2) (m:=m) (dk:=ys.toArray) (os:=os) hg.1
 generalize hF:Go.Sort.flatK (fun x:{x:Atom × List Value // atomL.rep fz x.1 x.2}=>x.1.2) 2 ys.toArray=F at hgw
 have hFs:F.size=n*2:=by rw [← hF,Go.Sort.size_flatK];simp [hsd]
 have hFc:∀ j,j<n*2→∃ v,((ys.map (·.1)).flatMap Prod.snd)[j]?=some v∧F[j]! =v:=fun j hj=>by
  have:=hcell ys j Zi
  rwa [hF] at this
 refine ⟨_,fz,[(g,.cells (List.toArray (Go.Sort.putCells id 0 F cur.toArray).toList) t (0,0))],he,⟨rfl,rfl,_,ys.map (·.1.1),rfl,⟨⟨ys.map (·.1),by rw [List.map_map];rfl,fun p hp=>?_,?_⟩,by rw [List.length_map];exact hsd,hcap,hB.max,?_⟩,?_,?_⟩,⟨fun b o hbo=>?_,fun p hp=>?_,by simp⟩,⟨rfl,rfl,rfl,?_,fun b hb hnb=>?_,fun h=>h.elim⟩,⟨fun _ _ h=>h,fun _ _ _=>rfl,fun p hp=>?_⟩⟩
 ·obtain ⟨q,_,rfl⟩:=List.mem_map.1 hp
  exact q.2
 ·rw [hz]
  refine List.ext_getElem? fun j=>?_
  by_cases hj:j<n*2
  ·obtain ⟨v,h1,h2⟩:=hFc j hj
   have hlt:j<cur.length:=by omega
   rw [h1,List.getElem?_take_of_lt hj,Array.getElem?_toList]
   unfold Go.Sort.putCells
   simp [hlt,hFs,hj]
   rw [← h2]
   exact (getElem!_pos F j Zi).symm
  ·rw [List.getElem?_eq_none (by rw [List.length_take];omega),List.getElem?_eq_none]
   rw [Ya1 (z:=2) (fun p hp=>by
    obtain ⟨q,_,rfl⟩:=List.mem_map.1 hp
    exact hk2 q),List.length_map,hsd]
   omega
 ·unfold Go.Sort.putCells
  simp [hsz,hz]
 ·have h1:=hperm.map (fun x:{x:Atom × List Value // atomL.rep fz x.1 x.2}=>x.1.1)
  have h2:ds.map (fun x:{x:Atom × List Value // atomL.rep fz x.1 x.2}=>x.1.1)=l:=by rw [← e1,← hdm,List.map_map];rfl
  rw [h2] at h1
  exact h1
 ·intro i j a b hij ha hb
  rw [List.getElem?_map] at ha hb
  cases hya:ys[i]? with
  | none=>rw [hya] at ha;cases ha
  | some p=>
   cases hyb:ys[j]? with
   | none=>rw [hyb] at hb;cases hb
   | some q=>
    rw [hya] at ha;rw [hyb] at hb
    injection ha with ha;injection hb with hb
    have h:=hs i j (Z0 _) hij (by have:=(Zg hyb).1;omega)
    rw [list_get! hya,list_get! hyb] at h
    unfold ltOf at h
    have h:=Zf h
    rw [← ha,← hb];exact h
 ·have h1:=hw.keep b o hbo
  rw [Yig (lt_of_heap h1) (fun e=>by subst e;rw [hg.2] at hbo;cases hbo)]
  exact h1
 ·rw [List.mem_singleton] at hp
  subst hp
  exact ⟨by simpa using hgw,hg.2⟩
 ·unfold sortWorldK Go.Sort.grow Go.Sort.putRowK Go.Sort.putRow Go.Sort.mapBlock Go.Sort.ahead
  simp
 ·exact Yig hb (fun e=>hnb (by simp [e]))
 ·rw [List.mem_singleton] at hp
  subst hp
  exact .inl (by simp)
structure Kn where
 l:List Param
 os:List Param
 init:List Atom
 chg:Bs→Bool
structure KnR (fz:FZ) (v:Value) (K:Kn):Prop where
 ex:∃ (g:Nat) (a0 a1 a2 a3 a4 a5 a6 a7 a8 a9 a10 a11 a12 a13 a14 a15 a16 a17 vf:Value) (A:Option Addr) (n c gc gi:Nat) (mc mi:List (Bs × Value)),
  v=.pointer (some ⟨g,0,none⟩)∧fz g=some (.cells #[a0,a1,a2,a3,a4,a5,a6,a7,a8,a9,a10,a11,a12,a13,a14,a15,a16,a17,vf,.slice A n c,.map (some gc),.map (some gi)] 156 (0,0))∧
  ForR fz vf K.l∧Sl paramL fz A n c K.os∧fz gc=some (mapS mc)∧(∀ x,(valS mc x).getD (.bool false)=.bool (K.chg x))∧fz gi=some (mapS mi)∧SetM fz mi K.init
 w:WFT K.l
 many:K.os.length≤2000000
variable {K:Kn} {fz':FZ} {v:Value}
theorem KnR.mono (h:KnR fz v K) (hle:Le fz fz'):KnR fz' v K:=by
 obtain ⟨⟨g,a0,a1,a2,a3,a4,a5,a6,a7,a8,a9,a10,a11,a12,a13,a14,a15,a16,a17,vf,A,n,c,gc,gi,mc,mi,h1,h2,h3,h4,h5,h6,h7,h8⟩,hw,hm⟩:=h
 exact ⟨⟨g,a0,a1,a2,a3,a4,a5,a6,a7,a8,a9,a10,a11,a12,a13,a14,a15,a16,a17,vf,A,n,c,gc,gi,mc,mi,h1,hle _ _ h2,h3.mono hle,h4.mono hle,hle _ _ h5,h6,hle _ _ h7,h8.mono hle⟩,hw,hm⟩
def ofK (K:Kn) (t:Bs):List Bs:=ofT K.l t K.os
theorem Ylt (K:Kn) (t:Bs):(ofK K t).length≤K.os.length:=by
 unfold ofK ofT
 rw [List.length_map]
 exact List.length_filter_le _ _
theorem kof_f {t:Bs} (h:KnR fz v K):GFn prog 159 [v,.string t] fz [] (fun v fz' H'=>H'=[]∧∃ B m cc,v=.slice B m cc∧Sl strL fz' B m cc (ofK K t)):=by
 obtain ⟨⟨g,a0,a1,a2,a3,a4,a5,a6,a7,a8,a9,a10,a11,a12,a13,a14,a15,a16,a17,vf,A,n,c,gc,gi,mc,mi,rfl,hg,hF,hO,h5,h6,h7,h8⟩,hw,hm⟩:=h
 have ln:=hO.len
 have hF0:=hF
 obtain ⟨gf,gm,rfl,hf1,hf2⟩:=hF
 refine zF Tryz.func159 Tryz.ntmps159 (fun w0=>?_)
 refine zWN ?_;intros
 refine Wp.drawK (Hq:=[]) T.mixed Zj Zj Zb ?_
 refine zW ?_;intros
 refine Ye ?_
 refine Ye ?_
 refine YD ⟨by kernel_rfl,?_⟩
 refine Yj (Yl [] [] Zz Zz Zz (of_q hF0 hw hO Zi) (fun v2 fz2 H2 hle2 hR2=>⟨(⟨hle2,by intro p hp;cases hp⟩),?_⟩))
 obtain ⟨rfl,B,m,cc,rfl,hS⟩:=hR2
 refine Ch.qk (⟨hle2,by intro p hp;cases hp⟩) (Yz Zz ?_)
 refine Ch.done ?_
 refine zW ?_;intros
 exact YdP rfl rfl (fun fz3 hle3 _=>⟨rfl,B,m,cc,rfl,hS.mono hle3⟩)
def Yex (K:Kn) (most:Nat) (out:List (List Bs)) (p:Param):List (List Bs):=(out.flatMap fun l=>(ofK K p.typ).map fun o=>l++ [o]).take (most+1)
def Ycc (K:Kn) (ps:List Param) (most:Nat):List (List Bs):=ps.foldl (Yex K most) [[]]
theorem YgX {α:Type} {l:List α} {x:α} {m:Nat}:(l++ [x]).take (m+1)=if (l.take (m+1)).length≤m then l.take (m+1)++ [x] else l.take (m+1):=by
 split
 ·rename_i h
  rw [List.length_take] at h
  have:l.length≤m:=by omega
  rw [Zl (by simp;omega),Zl Zi]
 ·rename_i h
  rw [List.length_take] at h
  rw [List.take_append_of_le_length Zi]
theorem Yhm (K:Kn) (most:Nat) (out:List (List Bs)) (p:Param):(Yex K most out p).length≤most+1:=by
 unfold Yex
 rw [List.length_take];omega
theorem YcU (K:Kn) (most:Nat):∀ (ps:List Param) (out:List (List Bs)),out.length≤most+1→(ps.foldl (Yex K most) out).length≤most+1
 | [],_,h=>h
 | p::ps,out,_=>YcU K most ps _ (Yhm K most out p)
theorem YhW (K:Kn) (most:Nat):∀ (ps:List Param) (out:List (List Bs)) (k:Nat),(∀ l∈out,l.length=k)→∀ l∈ps.foldl (Yex K most) out,l.length=k+ps.length
 | [],_,_,h=>h
 | p::ps,out,k,h=>by
  intro l hl
  have:=YhW K most ps (Yex K most out p) (k+1) (fun l hl=>by
   have h1:=List.mem_of_mem_take hl
   obtain ⟨l',h2,h3⟩:=List.mem_flatMap.1 h1
   obtain ⟨o,_,rfl⟩:=List.mem_map.1 h3
   rw [List.length_append,h l' h2];rfl) l hl
  rw [this,List.length_cons];omega
theorem Ydw {ps:List Param} {most:Nat} {l:List Bs} (h:l∈Ycc K ps most):l.length=ps.length:=by
 have:=YhW K most ps [[]] 0 (by simp) l h
 omega
theorem sl_one {α:Type} {L:Lay α}:OneC (slL L):=by
 intro fz d cs h u hu
 obtain ⟨A,n,c,rfl,_⟩:=h
 simp at hu
 subst hu;rfl
variable {A:Option Addr} {c:Nat}
set_option maxHeartbeats 8000000 in
theorem comb_f {ps:List Param} {most:Nat} (hK:KnR fz v K) (hps:Sl paramL fz A n c ps) (hn:n≤2000000) (hm:most≤2000000):
 GFn prog 118 [v,.slice A n c,.int .i64 most] fz [] (fun r fz' H'=>H'=[]∧∃ B m d,r=.slice B m d∧Sl (slL strL) fz' B m d (Ycc K ps most)):=by
 have lp:=hps.len
 have hK0:=hK
 have hmany:=hK.many
 obtain ⟨⟨g,a0,a1,a2,a3,a4,a5,a6,a7,a8,a9,a10,a11,a12,a13,a14,a15,a16,a17,vf,Ao,no,co,gc,gi,mc,mi,rfl,hg,hF,hO,h5,h6,h7,h8⟩,hw,_⟩:=hK
 refine zF Tryz.func118 Tryz.ntmps118 (fun w0=>?_)
 refine zW ?_;intros
 refine Yb Zz (Yc T (cs:=[.slice none 0 0]) Zz Zz Zz Zz Zz Zz Zz Zz (fun gb=>?_))
 refine Seq.freezeAll (H1:=[]) (H2:=[_]) (Zr _) (fun fz1 hle1 hf1=>?_)
 have hgb:Grow (slL strL) 24 fz (.slice (some ⟨gb,0,none⟩) 1 1) 1 [(gb,.cells #[.slice none 0 0] 24 (0,0))] [[]]:=
  Grow.block (ys:=[(([]:List Bs),[Value.slice none 0 0])]) rfl rfl (by intro p hp;simp at hp;subst hp;exact ⟨none,0,0,rfl,Sl.nil Zi⟩) rfl Zh
 obtain ⟨B1,d1,e1,hS1⟩:=hgb.sl hle1 hf1 Zh
 injection e1 with e11 e12 e13
 subst e11;subst e13
 refine zW ?_;intros
 refine Yk (fun q σ fz' H'=>∃ (k:Nat) (B:Option Addr) (m d:Nat),k≤n∧q=n - k∧σ=[(18,.int .i64 k),(17,.int .i64 n),(16,.slice A n c),(7,.slice B m d),(2,.int .i64 most),(0,.pointer (some ⟨g,0,none⟩))]∧Le fz fz'∧H'=[]∧Sl (slL strL) fz' B m d (Ycc K (ps.take k) most)) ⟨0,_,_,_,Z0 _,rfl,rfl,hle1,rfl,hS1⟩ Zw Zb ?_
 rintro q σ fz2 H' ⟨k,B,m,d,hk,rfl,rfl,hle2,rfl,hS⟩
 have lm:=hS.len
 have hml:=YcU K most (ps.take k) [[]] (by simp)
 have hml2:m≤most+1:=by rw [← lm];exact hml
 refine zW ?_;intros
 refine zC (fun c1=>?_) (fun c1=>?_)
 ·obtain ⟨x,hx⟩:=Yg (l:=ps) (k:=k) Zi
  refine zW ?_;intros
  refine zI (hps.mono hle2) hx (fun p1 hp1=>?_)
  refine zL hp1 ?_
  intro cs hcs
  obtain ⟨rfl,hRx⟩:=YT hcs
  refine zW ?_;intros
  rename_i g9
  refine Yk (fun q σ fz' H'=>∃ (j mm:Nat) (vn:Value) (Hn:HP),j≤m∧q=m - j∧σ=[(24,.int .i64 j),(23,.int .i64 m),(22,.slice B m d),(18,.int .i64 k),(17,.int .i64 n),(16,.slice A n c),(10,vn),(9,.pointer (some ⟨g9,0,none⟩)),(2,.int .i64 most),(0,.pointer (some ⟨g,0,none⟩))]∧Le fz2 fz'∧H'=(g9,.cells #[.string x.name,.string x.typ] 136 (0,0))::Hn∧Grow (slL strL) 24 fz' vn mm Hn (Yex K most ((Ycc K (ps.take k) most).take j) x)) ⟨0,0,_,[],Z0 _,rfl,rfl,Le.refl _,rfl,Grow.nil _ _ _⟩ Zw Zb ?_
  rintro q σ fz3 H' ⟨j,mm,vn,Hn,hj,rfl,rfl,hle3,rfl,hG⟩
  obtain ⟨An,cn,rfl,_,_⟩:=hG.form
  refine zW ?_;intros
  refine zC (fun c2=>?_) (fun c2=>?_)
  ·obtain ⟨y,hy⟩:=Yg (l:=Ycc K (ps.take k) most) (k:=j) Zi
   have hyl:=Ydw (Zm hy)
   refine zW ?_;intros
   refine zI (hS.mono hle3) hy (fun p2 hp2=>?_)
   ((refine zG ?_);refine Yeq T Zz Zz Zz hp2 (fun Ay ny cy hy2=>?_))
   have ly:=hy2.len
   have hny:ny≤2000000:=by rw [← ly,hyl,List.length_take];omega
   refine zW ?_;intros
   refine Yb Zz (Yl [] (_::Hn) Zz Zz Zz (kof_f (t:=x.typ) (hK0.mono (hle2.trans hle3))) (fun v4 fz4 H4 hle4 hR4=>?_))
   obtain ⟨rfl,Bo,mo,do_,rfl,hSo⟩:=hR4
   have lo:=hSo.len
   have hmo:mo≤2000000:=by rw [← lo];exact Nat.le_trans (Ylt K x.typ) hmany
   refine zW ?_;intros
   refine Yk (fun q σ fz' H'=>∃ (i mm:Nat) (vn:Value) (Hn:HP),i≤mo∧q=mo - i∧σ=[(33,.int .i64 i),(32,.int .i64 mo),(31,.slice Bo mo do_),(24,.int .i64 j),(23,.int .i64 m),(22,.slice B m d),(18,.int .i64 k),(17,.int .i64 n),(16,.slice A n c),(12,.slice Ay ny cy),(10,vn),(9,.pointer (some ⟨g9,0,none⟩)),(2,.int .i64 most),(0,.pointer (some ⟨g,0,none⟩))]∧Le fz4 fz'∧H'=(g9,.cells #[.string x.name,.string x.typ] 136 (0,0))::Hn∧Grow (slL strL) 24 fz' vn mm Hn (((((Ycc K (ps.take k) most).take j).flatMap fun l=>(ofK K x.typ).map fun o=>l++ [o])++((ofK K x.typ).take i).map fun o=>y++ [o]).take (most+1)))
    ⟨0,mm,_,Hn,Z0 _,rfl,rfl,Le.refl _,rfl,(hG.mono hle4).of (by simp [Yex]) rfl⟩ Zw Zb ?_
   rintro q σ fz5 H' ⟨i,mm5,vn5,Hn5,hi,rfl,rfl,hle5,rfl,hG5⟩
   obtain ⟨A5,c5,rfl,_,_⟩:=hG5.form
   have l5:=hG5.len
   refine zW ?_;intros
   refine zC (fun c3=>?_) (fun c3=>?_)
   ·obtain ⟨o,ho⟩:=Yg (l:=ofK K x.typ) (k:=i) Zi
    have e6:((ofK K x.typ).take (i+1)).map (fun o=>y++ [o])=((ofK K x.typ).take i).map (fun o=>y++ [o])++ [y++ [o]]:=by rw [List.take_add_one,ho];simp
    refine zW ?_;intros
    refine zI (hSo.mono hle5) ho (fun p3 hp3=>?_)
    refine zH hp3 (fun hso=>?_)
    refine zW ?_;intros
    refine zC (fun c4=>?_) (fun c4=>?_)
    ·refine zW ?_;intros
     refine Yb Zz (Yl [] (_::Hn5) Zz Zz Zz (Yd6 (hy2.mono (hle4.trans hle5)) Zi) (fun v6 fz6 H6 hle6 hR6=>?_))
     obtain ⟨A6,c6,rfl,_,_⟩:=hR6.form
     refine zW ?_;intros
     refine Yb Zz (Yc T (cs:=[.string o]) Zz Zz Zz Zz Zz Zz Zz Zz (fun gc7=>?_))
     refine Yb Zz (YK T (Hr:=(gc7,_)::(g9,_)::Hn5) (d:=o) Zz Zz Zz Zz Zz Zz Zz Zz (by exact (List.Perm.cons _ (List.perm_append_comm.trans (Zr _)))) hR6 YbM (.head _) ⟨rfl,hso⟩ (by show _*16≤_;omega) Zi (fun v8 H8 hO8=>?_))
     obtain ⟨A8,c8,rfl,_,_⟩:=hO8.form
     refine Seq.freezeAll (H1:=(gc7,_)::(g9,_)::Hn5) (H2:=H8) (Zr _) (fun fz8 hle8 hf8=>?_)
     obtain ⟨B8,d8,e8,hS8⟩:=hO8.sl hle8 hf8 Zi
     injection e8 with e81 e82 e83
     subst e81;subst e83
     refine Yb Zz (Yc T (cs:=[.slice A8 (ny+1) c8]) Zz Zz Zz Zz Zz Zz Zz Zz (fun gc9=>?_))
     refine Yb Zz (YK T (Hr:=(gc9,_)::(gc7,_)::(g9,_):: []) (d:=y++ [o]) Zz Zz Zz Zz Zz Zz Zz Zz (Zr _) (hG5.mono (hle6.trans hle8)) sl_one (.head _) ⟨_,_,_,rfl,hS8⟩ (by show _*24≤_;omega) Zi (fun v10 H10 hO10=>?_))
     obtain ⟨A10,c10,rfl,_,_⟩:=hO10.form
     refine zW ?_;intros
     exact YA ⟨i+1,mm5+1,_,H10,by omega,rfl,rfl,hle5.trans (hle6.trans hle8),rfl,hO10.of (by rw [e6,← List.append_assoc,YgX,if_pos Zi]) rfl⟩ Zi Zw Zb
    ·refine zW ?_;intros
     exact YA ⟨i+1,mm5,_,Hn5,by omega,rfl,rfl,hle5,rfl,hG5.of (by rw [e6,← List.append_assoc,YgX,if_neg Zi]) rfl⟩ Zi Zw Zb
   ·have hi2:i=mo:=by omega
    subst hi2
    rw [Zl (show (ofK K x.typ).length≤i by omega)] at hG5
    refine zW ?_;intros
    exact YA ⟨j+1,mm5,_,Hn5,by omega,rfl,rfl,hle3.trans (hle4.trans hle5),rfl,hG5.of (by
     have e7:(Ycc K (ps.take k) most).take (j+1)=(Ycc K (ps.take k) most).take j++ [y]:=by rw [List.take_add_one,hy];rfl
     unfold Yex
     rw [e7,List.flatMap_append]
     simp) rfl⟩ Zi Zw Zb
  ·have hj2:j=m:=by omega
   subst hj2
   rw [Zl (show (Ycc K (ps.take k) most).length≤j by omega)] at hG
   have l6:=hG.len
   have h6l:=Yhm K most (Ycc K (ps.take k) most) x
   first
   | refine Wp.freezeAll (H1:=[]) (H2:=_::Hn) (Zr _) (fun fz9 hle9 hf9=>?_)
   | refine Seq.freezeAll (H1:=[]) (H2:=_::Hn) (Zr _) (fun fz9 hle9 hf9=>?_)
   obtain ⟨B9,d9,e9,hS9⟩:=hG.sl hle9 (fun p hp=>hf9 p (by simp [hp])) Zi
   injection e9 with e91 e92 e93
   subst e91;subst e93
   refine zW ?_;intros
   exact YA ⟨k+1,_,_,_,by omega,rfl,rfl,hle2.trans (hle3.trans hle9),rfl,by rw [Ycc,List.take_add_one,hx,List.foldl_append];exact hS9⟩ Zi Zw Zb
 ·have hk2:k=n:=by omega
  subst hk2
  rw [Zl (show ps.length≤k by omega)] at hS
  refine zW ?_;intros
  exact YdP rfl rfl (fun fz3 hle3 _=>⟨rfl,B,m,d,rfl,hS.mono hle3⟩)
end Go.Proofs.YtbnpeechpebmeaaGreatDoor
