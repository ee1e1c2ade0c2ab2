/- The texts QPl, QNum, QLw, PSize, QLx, QLi, QIn, laid together. Conditions: none. -/
import Derived.Test.YtbnpeechpebmeaaGreatDoorRAU
set_option linter.all false
set_option maxRecDepth 20000
namespace Go.Proofs.YtbnpeechpebmeaaGreatDoor
open Go.Lx Go.RowKit
attribute [local instance 10] Classical.propDecidable
variable {i:Nat}
theorem byte_of {s:Bs} {b:UInt8} (h:s.data.toList[i]?=some b):i<s.size∧Yar s i=b.toNat:=by
 have hlt:i<s.size:=(Zg h).1
 obtain ⟨c,h1,h2⟩:=YaV hlt
 refine ⟨hlt,?_⟩
 rw [h2]
 have h3:s.data.toList[i]?=some c:=by
  have:s[i]?=s.data[i]?:=by
   rw [getElem?_pos s i hlt,Array.getElem?_eq_getElem (show i<s.data.size from hlt)]
   rfl
  rw [this] at h1
  simpa using h1
 rw [h] at h3
 injection h3 with h3
 rw [h3]
theorem Ya0 {s:Bs} (h:Xg s):PlnS s:=by
 refine ⟨Nat.le_trans h.2.2.1 Zh,fun b hb=>?_⟩
 obtain ⟨i,hi⟩:=List.getElem?_of_mem hb
 obtain ⟨hlt,he⟩:=byte_of hi
 have:=h.1 i hlt
 unfold YaA LetP DigP at this
 unfold PlnB
 rw [he] at this
 omega
theorem pln_var {s:Bs} (h:VarP s):PlnS s:=by
 obtain ⟨h1,h2,h3,h4⟩:=h
 refine ⟨Nat.le_trans h2 Zh,fun b hb=>?_⟩
 obtain ⟨i,hi⟩:=List.getElem?_of_mem hb
 obtain ⟨hlt,he⟩:=byte_of hi
 cases i with
 | zero=>rw [he] at h3;unfold PlnB;omega
 | succ i=>
  have hx:(s.extract 1 s.size).data.toList[i]?=some b:=by
   rw [ByteArray.data_extract,Array.toList_extract]
   have hs:s.size=s.data.toList.length:=rfl
   show (List.extract s.data.toList 1 s.size)[i]?=_
   rw [List.extract,List.getElem?_take_of_lt Zi,List.getElem?_drop,Nat.add_comm]
   exact hi
  exact (Ya0 h4).2 b (Zm hx)
theorem YjH {s:Bs} (h:YdQ s):PlnS s:=h.elim Ya0 pln_var
theorem HSh.shn:∀ (n:Nat) {f:Formula},SizeOf.sizeOf f≤n→HSh f→ShN f
 | 0,f,h,_=>by cases f;simp at h
 | n+1,f,h,hs=>.mk hs.same (fun h1=>hs.head h1) (fun k hk=>HSh.shn n (by have:=Formula.kids_lt hk;omega) (hs.kid hk))
theorem HSh.join {op:Bs} {ns:List Formula} (hop:op=kAnd∨op=kOr) (h:∀ n∈ns,HSh n):HSh (joinF op ns):=by
 have a1:¬op=kSame:=by rcases hop with rfl | rfl<;>decide+kernel
 have a2:¬(op=kNot∨QuF op):=by rcases hop with rfl | rfl<;>(unfold QuF;decide+kernel)
 have a3:¬op=kAtom:=by rcases hop with rfl | rfl<;>decide+kernel
 refine .mk (fun e=>absurd e a1) (fun e=>absurd e a2) (fun e=>absurd e a3) (fun e=>absurd (.inl e) a2) (Z0 _) (fun k hk=>?_)
 have hk:k∈joinL op ns:=hk
 unfold joinL at hk
 obtain ⟨n,hn,hkn⟩:=List.mem_flatMap.1 hk
 split at hkn
 ·exact (h n hn).kid hkn
 ·rw [List.mem_singleton] at hkn;subst hkn;exact h k hn
theorem HSh.cmp {op:Bs} {a b:Lx.Expr} (hop:op=kLt∨op=kLe∨op=kEq):HSh (cmpF op a b):=by
 have a1:¬op=kSame:=by rcases hop with rfl | rfl | rfl<;>decide+kernel
 have a2:¬(op=kNot∨QuF op):=by rcases hop with rfl | rfl | rfl<;>(unfold QuF;decide+kernel)
 have a3:¬op=kAtom:=by rcases hop with rfl | rfl | rfl<;>decide+kernel
 exact .mk (fun e=>absurd e a1) (fun e=>absurd e a2) (fun e=>absurd e a3) (fun e=>absurd (.inl e) a2) (Z0 _) (fun k hk=>by cases hk)
theorem HSh.zero:HSh Yd5:=by
 have a1:¬Yd5.op=kSame:=by decide+kernel
 have a2:¬(Yd5.op=kNot∨QuF Yd5.op):=by unfold QuF;decide+kernel
 have a3:¬Yd5.op=kAtom:=by decide+kernel
 exact .mk (fun e=>absurd e a1) (fun e=>absurd e a2) (fun e=>absurd e a3) (fun e=>absurd (.inl e) a2) (Z0 _) (fun k hk=>by cases hk)
variable {f:Formula}
theorem kid_w {k:Formula} (h:k∈f.kids):fW k≤fW f:=by
 have:=Xx (w:=fW) h
 rw [Yc5 f];omega
theorem YjL:∀ (n:Nat) {f:Formula} (sg:Bool),SizeOf.sizeOf f≤n→FOk f→fW f≤1500000→HSh (normM sg f)
 | 0,f,_,h,_,_=>by cases f;simp at h
 | n+1,f,sg,hsz,hok,hw=>by
  have hall:=WG.1 hok
  obtain ⟨⟨f1,f2,f3⟩,⟨k,hk,r1,r2,r3,r4⟩,hpar⟩:=hall.1
  have ih:∀ (sg':Bool) (x:Formula),x∈f.kids→HSh (normM sg' x):=fun sg' x hx=>YjL n sg' (by have:=Formula.kids_lt hx;omega) (hall.2.2 x hx) (Nat.le_trans (kid_w hx) hw)
  have hone:∀ sg':Bool,f.kids.length=1→HSh (headN (f.kids.map (normM sg'))):=fun sg' h1=>by
   obtain ⟨x,hx⟩:=List.length_eq_one_iff.1 h1
   rw [hx]
   exact ih sg' x (by rw [hx];simp)
  have hmap:∀ sg':Bool,∀ x∈f.kids.map (normM sg'),HSh x:=fun sg' x hx=>by
   obtain ⟨y,hy,rfl⟩:=List.mem_map.1 hx
   exact ih sg' y hy
  have hw2:=Yc5 f
  rw [WE]
  by_cases w1:f.op=kNot
  ·rw [if_pos w1]
   have e:YaX f=some (0,false,1):=by
    unfold YaX
    rw [w1,if_neg (by decide+kernel),if_neg (by unfold CmpOp;decide+kernel),if_neg (by decide+kernel),if_pos rfl]
   rw [e] at hk
   injection hk with hk
   subst hk
   exact hone _ r3
  ·rw [if_neg w1]
   by_cases w2:f.op=kImply
   ·rw [if_pos w2]
    have e:YaX f=some (0,false,2):=by
     unfold YaX
     rw [w2,if_neg (by decide+kernel),if_neg (by unfold CmpOp;decide+kernel),if_neg (by decide+kernel),if_neg (by decide+kernel),if_pos rfl]
    rw [e] at hk
    injection hk with hk
    subst hk
    have hl:f.kids.length=2:=r3
    obtain ⟨x,y,hxy⟩:∃ x y,f.kids=[x,y]:=by
     match hf:f.kids,hl with
     | [x,y],_=>exact ⟨x,y,rfl⟩
    rw [hxy]
    refine HSh.join (by split<;>simp) (fun z hz=>?_)
    rcases List.mem_cons.1 hz with rfl | hz
    ·exact ih _ x (by rw [hxy];simp)
    ·rw [List.mem_singleton] at hz
     subst hz
     exact ih _ y (by rw [hxy];simp)
   ·rw [if_neg w2]
    by_cases w3:f.op=kAnd
    ·rw [if_pos w3];exact HSh.join (by split<;>simp) (hmap sg)
    ·rw [if_neg w3]
     by_cases w4:f.op=kOr
     ·rw [if_pos w4];exact HSh.join (by split<;>simp) (hmap sg)
     ·rw [if_neg w4]
      by_cases w5:QuF f.op
      ·rw [if_pos w5]
       have e:YaX f=some (0,true,1):=by
        unfold YaX
        rcases w5 with w5 | w5
        ·rw [w5,if_neg (by decide+kernel),if_neg (by unfold CmpOp;decide+kernel),if_neg (by decide+kernel),if_neg (by decide+kernel),if_neg (by decide+kernel),if_pos (by simp)]
        ·rw [w5,if_neg (by decide+kernel),if_neg (by unfold CmpOp;decide+kernel),if_neg (by decide+kernel),if_neg (by decide+kernel),if_neg (by decide+kernel),if_pos (by simp)]
       rw [e] at hk
       injection hk with hk
       subst hk
       have hq:∀ op,op=kForall∨op=kExists→¬op=kSame∧¬op=kAtom∧¬op=kNot:=by
        rintro op (rfl | rfl)<;>decide+kernel
       have hop:QuF (if sg=true then f.op else if f.op=kForall then kExists else kForall):=by
        split
        ·exact w5
        ·split
         ·exact .inr rfl
         ·exact .inl rfl
       obtain ⟨q1,q2,q3⟩:=hq _ hop
       refine .mk (fun e=>absurd e q1) (fun _ h=>by cases h) (fun e=>absurd e q2) (fun e=>absurd e q3) (by show f.params.length≤_;omega) (fun x hx=>?_)
       have hx:x∈ [headN (f.kids.map (normM sg))]:=hx
       rw [List.mem_singleton] at hx
       subst hx
       exact hone _ r3
      ·rw [if_neg w5]
       by_cases w6:f.op=kLt
       ·rw [if_pos w6]
        split
        ·exact HSh.cmp (.inl rfl)
        ·exact HSh.cmp (.inr (.inl rfl))
       ·rw [if_neg w6]
        by_cases w7:f.op=kLe
        ·rw [if_pos w7]
         split
         ·exact HSh.cmp (.inr (.inl rfl))
         ·exact HSh.cmp (.inl rfl)
        ·rw [if_neg w7]
         by_cases w8:f.op=kEq
         ·rw [if_pos w8]
          split
          ·exact HSh.cmp (.inr (.inr rfl))
          ·have a1:¬kOr=kSame:=by decide+kernel
           have a2:¬(kOr=kNot∨QuF kOr):=by unfold QuF;decide+kernel
           have a3:¬kOr=kAtom:=by decide+kernel
           refine .mk (fun e=>absurd e a1) (fun e=>absurd e a2) (fun e=>absurd e a3) (fun e=>absurd (.inl e) a2) (Z0 _) (fun x hx=>?_)
           rcases List.mem_cons.1 hx with rfl | hx
           ·exact HSh.cmp (.inl rfl)
           ·rw [List.mem_singleton] at hx
            subst hx
            exact HSh.cmp (.inl rfl)
         ·rw [if_neg w8]
          have hao:f.op=kAtom∨f.op=kSame:=by
           unfold YaX at hk
           by_cases h0:f.op=kAtom∨f.op=kSame
           ·exact h0
           ·rw [if_neg h0,if_neg (fun h=>by unfold CmpOp at h;rcases h with h | h | h;exact w6 h;exact w7 h;exact w8 h),if_neg (fun h=>h.elim w3 w4),if_neg w1,if_neg w2,if_neg (show ¬(f.op=kForall∨f.op=kExists) from w5)] at hk
            cases hk
          have e:k=(0,false,0):=by
           unfold YaX at hk
           rw [if_pos hao] at hk
           injection hk with hk
           exact hk.symm
          subst e
          have hk0:f.kids=[]:=List.eq_nil_of_length_eq_zero r3
          have hn1:¬(f.op=kNot∨QuF f.op):=fun h=>h.elim w1 w5
          have hf:HSh f:=by
           refine .mk (fun e=>Nat.le_of_eq (f2 e).2.symm) (fun e=>absurd e hn1) (fun e=>⟨Ya0 (f1 e),by omega,fun t ht=>YjH (f3 hao t ht)⟩) (fun e=>absurd (.inl e) hn1) Zi (fun x hx=>by rw [hk0] at hx;cases hx)
          cases sg with
          | true=>rw [if_pos rfl];exact hf
          | false=>
           rw [if_neg Zh]
           have a1:¬kNot=kSame:=by decide+kernel
           have a3:¬kNot=kAtom:=by decide+kernel
           refine .mk (fun e=>absurd e a1) (fun _ h=>by cases h) (fun e=>absurd e a3) (fun _ x hx=>?_) (Z0 _) (fun x hx=>?_)
           ·have hx:x∈ [f]:=hx
            rw [List.mem_singleton] at hx
            subst hx;exact hao
           ·have hx:x∈ [f]:=hx
            rw [List.mem_singleton] at hx
            subst hx;exact hf
theorem Ybn (hw:fW f≤1500000):HSh (normV f):=by
 unfold normV
 split
 ·rename_i h
  exact YjL _ true (Zs _) h.1 hw
 ·exact HSh.zero
theorem Ykd {K:Kn} (hO:∀ o∈K.os,PlnS o.name) {most:Nat}:∀ (ps:List Param) (out:List (List Bs)),(∀ l∈out,∀ t∈l,PlnS t)→∀ l∈ps.foldl (YeU K most) out,∀ t∈l,PlnS t
 | [],_,h=>h
 | p::ps,out,h=>Ykd hO ps _ (fun l hl t ht=>by
  unfold YeU at hl
  obtain ⟨l0,h1,h2⟩:=List.mem_flatMap.1 (List.mem_of_mem_take hl)
  obtain ⟨o,ho,rfl⟩:=List.mem_map.1 h2
  rcases List.mem_append.1 ht with ht | ht
  ·exact h l0 h1 t ht
  ·rw [List.mem_singleton] at ht
   subst ht
   obtain ⟨q,hq,e⟩:=Yi1 ho
   exact e ▸ hO q hq)
theorem YlP {l:List Change} {c:Change} (h:c∈normC l):∃ c0∈l,c={c0 with when_:=normV c0.when_}:=by
 unfold normC at h
 obtain ⟨c0,h1,rfl⟩:=List.mem_map.1 h
 exact ⟨c0,(List.mem_filter.1 h1).1,rfl⟩
theorem Ykc {l:List Change} (hok:Ydh l) (hw:(l.map Y7).sum≤1400000):∀ c∈normC l,CSh c:=by
 intro c hc
 obtain ⟨c0,h0,rfl⟩:=YlP hc
 have h1:=Xx (w:=Y7) h0
 have h2:Y7 c0=1+c0.params.length+fW c0.when_+c0.args.length+eW c0.value:=rfl
 obtain ⟨⟨n1,n2⟩,_,_,_⟩:=hok c0 h0
 exact ⟨Ybn Zi,Ya0 n1,by show c0.args.length≤_;omega,fun t ht=>YjH (n2 t ht),by show c0.params.length≤_;omega⟩
theorem YiI {l:List Change} (hw:(l.map Y7).sum≤1400000):l.length≤2000000∧∀ c∈l,fW c.when_≤1400000:=by
 refine ⟨?_,fun c hc=>?_⟩
 ·have:=X7 (w:=Y7) (fun c=>by unfold Y7;omega) l
  omega
 ·have h1:=Xx (w:=Y7) hc
  have h2:Y7 c=1+c.params.length+fW c.when_+c.args.length+eW c.value:=rfl
  omega
theorem andW (l:List Formula):fW (andF l)=1+(l.map fW).sum:=by
 rw [Yc5]
 show 1+0+0+0+(l.map fW).sum=_
 omega
variable {d:Domain} {p:Problem}
theorem apt_of (hc:(XQ d p).2=0) (hd:domW d≤1300000) (hp:prbW p≤1300000):Apt d p:=by
 have hok:=chk_ok hc
 obtain ⟨hL,hT64,hp6⟩:=YgO hok.lim
 obtain ⟨_,_,d3,_,_,d6,d7⟩:=hok.dok.1
 obtain ⟨_,_,p3,_,p5⟩:=hok.pok.2.1
 have wA:∀ a∈d.actions,actW a≤1300000:=fun a ha=>by
  have:=Xx (w:=actW) ha
  unfold domW at hd;omega
 have wD:∀ a∈d.duratives,durW a≤1300000:=fun a ha=>by
  have:=Xx (w:=durW) ha
  unfold domW at hd;omega
 have hos:∀ o∈(knM d p).os,PlnS o.name:=fun o ho=>by
  rcases List.mem_append.1 ho with ho | ho
  ·have:=(d3 o ho).1
   exact Ya0 (by simpa using this)
  ·have:=(p3 o ho).1
   exact Ya0 (by simpa using this)
 have eA:∀ a:Action,actW a=1+a.params.length+fW a.pre+(a.changes.map Y7).sum:=fun _=>rfl
 have eD:∀ a:Durative,durW a=1+a.params.length+fW a.start+fW a.over+fW a.fin+(a.atStart.map Y7).sum+(a.atEnd.map Y7).sum:=fun _=>rfl
 refine ⟨fun a ha=>?_,⟨by have:=hL.a;omega,by have:=hL.u;omega,fun a ha=>?_,fun a ha=>?_,fun a ha=>?_⟩,hos,fun _ s hs=>?_⟩
 ·have h1:=Xx (w:=YdP) ha
  have h2:YdP a=1+a.args.length:=rfl
  have h3:=p5 a ha
  unfold prbW at hp
  exact ⟨Ya0 h3.1,by omega,fun t ht=>Ya0 (h3.2 t ht)⟩
 ·have h1:=wA a ha
  have h2:=eA a
  obtain ⟨h3,h4⟩:=YiI (l:=a.changes) Zi
  exact ⟨by omega,by omega,h3,fun c hc=>Nat.le_trans (h4 c hc) Zh⟩
 ·have h1:=wD a ha
  have h2:=eD a
  obtain ⟨h3,h4⟩:=YiI (l:=a.atStart) Zi
  obtain ⟨h5,h6⟩:=YiI (l:=a.atEnd) Zi
  exact ⟨by omega,by omega,by omega,by omega,h3,h5,fun c hc=>Nat.le_trans (h4 c hc) Zh,fun c hc=>Nat.le_trans (h6 c hc) Zh⟩
 ·have h1:=wA a ha
  have h2:=eA a
  have h3:=Ykc (d6 a ha).2.2.2.2 Zi
  exact ⟨HSh.shn _ (Zs _) (Ybn Zi),fun c hc=>HSh.shn _ (Zs _) (h3 c hc).when_⟩
 ·obtain ⟨s0,h0,rfl⟩:=List.mem_map.1 hs
  have hargs:∀ a∈(Ybb (knM d p) s0).arguments,a.length=s0.params.length∧∀ t∈a,PlnS t:=fun a ha=>
   ⟨YdL ha,Ykd hos s0.params [[]] (by simp) a ha⟩
  rcases List.mem_append.1 h0 with h0 | h0
  ·obtain ⟨a,ha,rfl⟩:=List.mem_map.1 h0
   have h1:=wA a ha
   have h2:=eA a
   exact ⟨Ybn Zi,Ybn Zi,fun c hc=>(by cases hc),Ykc (d6 a ha).2.2.2.2 Zi,hargs⟩
  ·obtain ⟨a,ha,rfl⟩:=List.mem_map.1 h0
   have h1:=wD a ha
   have h2:=eD a
   obtain ⟨_,_,_,_,_,o1,o2⟩:=d7 a ha
   refine ⟨Ybn ?_,Ybn ?_,Ykc o1 Zi,Ykc o2 Zi,hargs⟩
   ·rw [andW];simp only [List.map_cons,List.map_nil,List.sum_cons,List.sum_nil];omega
   ·rw [andW];simp only [List.map_cons,List.map_nil,List.sum_cons,List.sum_nil];omega
theorem chsm_w {c:Change} (h:Y7 c≤100000000):ChSm c:=by
 unfold Y7 at h
 exact ⟨by omega,by omega,Yd1 _ (Zs _) Zi,Ymt _ (Zs _) Zi⟩
theorem Yjh {l:List Change} (h:(l.map Y7).sum≤100000000):Ym2 l:=by
 have:=X7 Yjk l
 exact ⟨by omega,fun c hc=>chsm_w (by have:=Xx (w:=Y7) hc;omega)⟩
theorem YmF (hd:domW d≤1300000) (hp:prbW p≤1300000):ChkS d p:=by
 unfold domW at hd
 unfold prbW at hp
 have l3:=X7 YhJ d.predicates
 have l4:=X7 Yj2 d.functions
 have l5:=X7 actW_pos d.actions
 have l6:=X7 durW_pos d.duratives
 have l7:=X7 YiA p.init
 have l8:=X7 YfR p.values
 have p3:∀ p∈d.predicates,p.params.length≤100000000:=fun p hp=>by have:=Xx (w:=YhK) hp;have e:YhK p=1+p.params.length:=rfl;omega
 have p4:∀ p∈d.functions,p.params.length≤100000000:=fun p hp=>by have:=Xx (w:=funW) hp;have e:funW p=1+p.params.length:=rfl;omega
 have p5:∀ x∈d.actions,actW x≤100000000:=fun p hp=>by have:=Xx (w:=actW) hp;omega
 have p6:∀ x∈d.duratives,durW x≤100000000:=fun p hp=>by have:=Xx (w:=durW) hp;omega
 refine ⟨⟨by omega,by omega,by omega,fun p hp=>Nat.le_trans (p3 p hp) Zh,by omega,fun p hp=>Nat.le_trans (p4 p hp) Zh,by omega,fun x hx=>?_,by omega,fun x hx=>?_⟩,⟨by omega,by omega,fun a ha=>?_,by omega,fun v hv=>?_,Yd1 _ (Zs _) Zi⟩,fun a ha=>Nat.le_trans (p5 a ha) Zh,fun a ha=>Nat.le_trans (p6 a ha) Zh,by omega⟩
 ·have:=p5 x hx
  unfold actW at this
  exact ⟨by omega,Yd1 _ (Zs _) Zi,Yjh Zi⟩
 ·have:=p6 x hx
  unfold durW at this
  exact ⟨by omega,Yd1 _ (Zs _) Zi,Yd1 _ (Zs _) Zi,Yd1 _ (Zs _) Zi,Yjh Zi,Yjh Zi⟩
 ·have:=Xx (w:=YdP) ha
  have e:YdP a=1+a.args.length:=rfl
  omega
 ·have:=Xx (w:=YdS) hv
  have e:YdS v=1+YdP v.fluent:=rfl
  have e2:YdP v.fluent=1+v.fluent.args.length:=rfl
  omega
end Go.Proofs.YtbnpeechpebmeaaGreatDoor
namespace Go.Proofs.YtbnpeechpebmeaaGreatDoor
open Go.Lx Go.RowKit
attribute [local instance 10] Classical.propDecidable
open Go.Proofs.Tryz (prog)
variable {fz:FZ}
theorem num_q {n:Int}:QFn prog 13 [errV n] fz (.int .i64 n):=by
 by_cases h:n=0
 ·subst h
  refine GFn.quiet ?_
  rw [show errV 0=.nilIface from rfl]
  refine zF Tryz.func13 Tryz.ntmps13 (fun w0=>?_)
  refine zW ?_;intros
  exact zR (h:=rfl)
 ·refine GFn.quiet ?_
  rw [YG h]
  refine zF Tryz.func13 Tryz.ntmps13 (fun w0=>?_)
  refine zW ?_;intros
  exact zR (h:=rfl)
theorem bis_q {n m:Int} (hm:m≠0):QFn prog 10 [errV n,.int .i64 m] fz (.bool (decide (n=m))):=by
 by_cases h:n=0
 ·subst h
  refine GFn.quiet ?_
  rw [show errV 0=.nilIface from rfl]
  refine zF Tryz.func10 Tryz.ntmps10 (fun w0=>?_)
  refine zW ?_;intros
  exact ret1 rfl rfl Zb (Ym (fun h=>hm h.symm))
 ·refine GFn.quiet ?_
  rw [YG h]
  refine zF Tryz.func10 Tryz.ntmps10 (fun w0=>?_)
  refine zW ?_;intros
  ((refine zG ?_);refine Yu Zz Zz (by have:=num_q (fz:=fz) (n:=n);rw [YG h] at this;exact this) ?_)
  refine zW ?_;intros
  refine zC (fun c1=>?_) (fun c1=>?_)
  ·refine zW ?_;intros
   exact ret1 rfl rfl Zb (YB c1)
  ·refine zW ?_;intros
   exact ret1 rfl rfl Zb (Ym c1)
def cmpT:List Bs→List Bs→Int
 | [],l=> -(l.length:Int)
 | x::xs,[]=>((x::xs).length:Int)
 | x::xs,y::ys=>if ltB x y=true then -1 else if x=y then cmpT xs ys else 1
noncomputable def cmpR (a b:Atom):Int:=if a.name=b.name then cmpT a.args b.args else if ltB a.name b.name=true then -1 else 1
theorem ltB_irr (a:Bs):ltB a a=false:=by
 cases h:ltB a a with
 | false=>rfl
 | true=>
  have:∀ l:List UInt8,Op.bytesLess l l=false:=fun l=>by
   induction l with
   | nil=>rfl
   | cons x r ih=>simp [Op.bytesLess,ih]
  unfold ltB at h
  rw [this] at h;cases h
theorem Yiu:∀ (l l':List Bs),cmpT l l'=0↔l=l'
 | [],[]=>by simp [cmpT]
 | [],_::_=>by simp [cmpT];omega
 | _::_,[]=>by simp [cmpT];omega
 | x::xs,y::ys=>by
  rw [cmpT]
  by_cases h:x=y
  ·subst h
   rw [if_neg (by rw [ltB_irr];decide),if_pos rfl,Yiu xs ys]
   simp
  ·rw [if_neg h]
   constructor
   ·intro h1;split at h1<;>simp at h1
   ·intro h1;exact absurd (List.cons.inj h1).1 h
theorem Yiv (a b:Atom):cmpR a b=0↔a=b:=by
 unfold cmpR
 by_cases h:a.name=b.name
 ·rw [if_pos h,Yiu]
  cases a;cases b
  simp at h ⊢
  simp [h]
 ·rw [if_neg h]
  constructor
  ·intro h1;split at h1<;>simp at h1
  ·intro h1;exact absurd (by rw [h1]) h
variable {va vb:Value}
theorem rcmp_q {a b:Atom} (ha:AtomR fz a va) (hb:AtomR fz b vb):QFn prog 29 [.agg #[.string a.name,va],.agg #[.string b.name,vb]] fz (.int .i64 (cmpR a b)):=by
 obtain ⟨A,n,c,rfl,ia⟩:=ha.args
 obtain ⟨B,m,d,rfl,ib⟩:=hb.args
 have la:=ia.len
 have lb:=ib.len
 have sa:=ia.short
 have sb:=ib.short
 refine GFn.quiet ?_
 refine zF Tryz.func29 Tryz.ntmps29 (fun w0=>?_)
 refine Yp (Yo (Ya Zz (YW _ Zz Zz (fun g0=>?_))))
 refine Ya Zz (YW _ Zz Zz (fun g1=>?_))
 refine zW ?_;intros
 refine zC (fun c1=>?_) (fun c1=>?_)
 ·refine zW ?_;intros
  refine zG ?_;refine Ydq Zz Zz (fun h1=>?_) (fun h1=>?_)
  ·refine zW ?_;intros
   exact zR (h:=by rw [cmpR,if_neg c1,if_pos h1])
  ·refine zW ?_;intros
   exact zR (h:=by rw [cmpR,if_neg c1,if_neg (by rw [h1];decide)])
 ·have hv:cmpR a b=cmpT a.args b.args:=by rw [cmpR,if_pos c1]
  refine zW ?_;intros
  refine Yi (fun q σ fz' H'=>∃ k:Nat,k≤n∧q=n - k∧σ=[(5,.int .i64 k),(3,.pointer (some ⟨g1,0,none⟩)),(2,.pointer (some ⟨g0,0,none⟩))]∧fz=fz'∧H'=[(g1,.cells #[.string b.name,.slice B m d] 48 (0,0)),(g0,.cells #[.string a.name,.slice A n c] 48 (0,0))]∧k≤m∧cmpT (a.args.drop k) (b.args.drop k)=cmpT a.args b.args) ⟨0,Z0 _,rfl,rfl,rfl,rfl,⟨Z0 _,rfl⟩⟩ Zw Zb ?_;rintro q σ fz' H' ⟨k,hk,rfl,rfl,rfl,rfl,hh⟩
  obtain ⟨hkm,hcm⟩:=hh
  refine zW ?_;intros
  refine zC (fun c2=>?_) (fun c2=>?_)
  ·obtain ⟨x,hx⟩:=Yg (l:=a.args) (k:=k) Zi
   have ex:a.args.drop k=x::a.args.drop (k+1):=by
    obtain ⟨h1,h2⟩:=Zg hx
    rw [← h2];exact List.drop_eq_getElem_cons h1
   refine zW ?_;intros
   refine zC (fun c3=>?_) (fun c3=>?_)
   ·obtain ⟨y,hy⟩:=Yg (l:=b.args) (k:=k) Zi
    have ey:b.args.drop k=y::b.args.drop (k+1):=by
     obtain ⟨h1,h2⟩:=Zg hy
     rw [← h2];exact List.drop_eq_getElem_cons h1
    rw [ex,ey] at hcm
    refine zW ?_;intros
    refine zI ia hx (fun p1 hp1=>?_)
    refine zH hp1 (fun hs1=>?_)
    refine zW ?_;intros
    refine zI ib hy (fun p2 hp2=>?_)
    refine zH hp2 (fun hs2=>?_)
    refine zW ?_;intros
    refine zG ?_;refine Ydq Zz Zz (fun h1=>?_) (fun h1=>?_)
    ·refine zW ?_;intros
     exact zR (h:=by rw [hv,← hcm,cmpT,if_pos h1])
    ·refine zW ?_;intros
     refine zI ia hx (fun p3 hp3=>?_)
     refine zH hp3 (fun hs3=>?_)
     refine zW ?_;intros
     refine zI ib hy (fun p4 hp4=>?_)
     refine zH hp4 (fun hs4=>?_)
     refine zW ?_;intros
     refine zG ?_;refine YfZ Zz Zz (fun h2 h3=>?_) (fun h2=>?_)
     ·refine zW ?_;intros
      exact zR (h:=by rw [hv,← hcm,cmpT,if_neg (by rw [h1];decide),if_neg h3])
     ·have h3:x=y:=h2.resolve_left (by rw [h1];decide)
      refine zW ?_;intros
      refine Yz ⟨k+1,by omega,rfl,rfl,rfl,rfl,by omega,?_⟩ Zi Zw Zb
      rw [← hcm,cmpT,if_neg (by rw [h1];decide),if_pos h3]
   ·have ey:b.args.drop k=[]:=List.drop_eq_nil_of_le Zi
    have hkm2:k=m:=by omega
    rw [ex,ey,cmpT,← ex,List.length_drop] at hcm
    refine zW ?_;intros
    exact zR (h:=by rw [hv,← hcm];exact congrArg (Value.int .i64) Zi)
  ·have hk2:k=n:=by omega
   subst hk2
   rw [List.drop_eq_nil_of_le Zi,cmpT,List.length_drop] at hcm
   refine zW ?_;intros
   exact zR (h:=by rw [hv,← hcm];exact congrArg (Value.int .i64) Zi)
variable {A:Option Addr} {c n:Nat}
theorem rhas_q {l:List Atom} {a:Atom} (hl:Sl atomL fz A n c l) (ha:AtomR fz a va):QFn prog 14 [.slice A n c,.agg #[.string a.name,va]] fz (.bool (decide (a∈l))):=by
 obtain ⟨B,m,d,rfl,ia⟩:=ha.args
 have l1:=hl.len
 have s1:=hl.short
 refine GFn.quiet ?_
 refine zF Tryz.func14 Tryz.ntmps14 (fun w0=>?_)
 refine Yp (Yo (Ya Zz (YW _ Zz Zz (fun g0=>?_))))
 refine zW ?_;intros
 refine Yi (fun q σ fz' H'=>∃ k:Nat,k≤n∧q=n - k∧σ=[(5,.int .i64 k),(3,.pointer (some ⟨g0,0,none⟩)),(0,.slice A n c)]∧fz=fz'∧H'=[(g0,.cells #[.string a.name,.slice B m d] 48 (0,0))]∧a ∉ l.take k) ⟨0,Z0 _,rfl,rfl,rfl,rfl,(by simp)⟩ Zw Zb ?_;rintro q σ fz' H' ⟨k,hk,rfl,rfl,rfl,rfl,hh⟩
 refine zW ?_;intros
 refine zC (fun c1=>?_) (fun c1=>?_)
 ·obtain ⟨x,hx⟩:=Yg (l:=l) (k:=k) Zi
  refine zW ?_;intros
  refine zI hl hx (fun p1 hp1=>?_)
  refine zL hp1 ?_
  intro cs hcs
  obtain ⟨vx,rfl,hR⟩:=X6 hcs
  refine zW ?_;intros
  refine zc (rcmp_q hR ha) ?_
  refine zW ?_;intros
  refine zC (fun c2=>?_) (fun c2=>?_)
  ·have e:x=a:=(Yiv _ _).1 c2
   refine zW ?_;intros
   exact ret1 rfl rfl Zb (YB (e ▸ Zm hx))
  ·refine zW ?_;intros
   refine Yz ⟨k+1,by omega,rfl,rfl,rfl,rfl,?_⟩ Zi Zw Zb
   rw [List.take_add_one,hx]
   intro h
   rcases List.mem_append.1 h with h | h
   ·exact hh h
   ·simp at h;subst h;exact c2 ((Yiv _ _).2 rfl)
 ·rw [Zl Zi] at hh
  refine zW ?_;intros
  exact ret1 rfl rfl Zb (Ym hh)
variable {k:Nat}
theorem Ygt {α:Type} {w:α→Nat} {l:List α}:((l.take k).map w).sum≤(l.map w).sum:=by
 conv=>rhs;rw [← List.take_append_drop k l]
 rw [List.map_append,List.sum_append];omega
theorem Ygu {α:Type} {w:α→Nat} {l:List α} {x:α} (hx:l[k]?=some x):((l.take (k+1)).map w).sum=((l.take k).map w).sum+w x:=by
 rw [List.take_add_one,hx];simp
mutual
theorem ecount_le:∀ e:Lx.Expr,ecount e≤eW e
 | .mk a b c args kids=>by have:=ecountL_le kids;rw [ecount,eW];omega
theorem ecountL_le:∀ l:List Lx.Expr,ecountL l≤eWL l
 | []=>by simp [ecountL]
 | x::r=>by have h1:=ecount_le x;have h2:=ecountL_le r;rw [ecountL,eWL];omega
end
mutual
theorem fcount_le:∀ f:Formula,fcount f≤fW f
 | .mk a b c d exprs kids=>by have h1:=ecountL_le exprs;have h2:=fcountL_le kids;rw [fcount,fW];omega
theorem fcountL_le:∀ l:List Formula,fcountL l≤fWL l
 | []=>by simp [fcountL]
 | x::r=>by have h1:=fcount_le x;have h2:=fcountL_le r;rw [fcountL,fWL];omega
end
set_option maxHeartbeats 1000000 in
theorem Ylq:∀ (s:Nat) {fz:FZ} {e:Lx.Expr} {va vk:Value},SizeOf.sizeOf e≤s→ExprR fz e va vk→ecount e≤1000000000000→
 QFn prog 76 [.agg #[.string e.op,.string e.name,.int .i64 e.n,va,vk]] fz (.int .i64 (ecount e))
 | 0,_,e,_,_,hs,_,_=>by cases e;simp at hs
 | s+1,fz,e,va,vk,hs,h,hc=>by
  obtain ⟨A,n,ca,rfl,ha⟩:=h.args
  obtain ⟨B,m,cb,rfl,hk⟩:=h.kids
  refine GFn.quiet ?_
  have lk:=hk.len
  have sk:=hk.short
  have ec:=Yb8 e
  refine zF Tryz.func76 Tryz.ntmps76 (fun w0=>?_)
  refine Yp (Yo (Ya Zz (YW _ Zz Zz (fun g0=>?_))))
  refine zW ?_;intros
  refine Yi (fun q σ fz' H'=>∃ (k:Nat) (c:Int),k≤m∧q=m - k∧σ=[(4,.int .i64 k),(3,.int .i64 c),(1,.pointer (some ⟨g0,0,none⟩))]∧fz=fz'∧H'=[(g0,.cells #[.string e.op,.string e.name,.int .i64 e.n,.slice A n ca,.slice B m cb] 36 (0,0))]∧c=((1+ecountL (e.kids.take k):Nat):Int)) ⟨0,_,Z0 _,rfl,rfl,rfl,rfl,rfl⟩ Zw Zb ?_
  rintro q σ fz' H' ⟨k,c,hkm,rfl,rfl,rfl,rfl,hh⟩
  refine zW ?_;intros
  refine zC (fun c1=>?_) (fun c1=>?_)
  ·obtain ⟨x,hx⟩:=Yg (l:=e.kids) (k:=k) Zi
   have hxm:=Zm hx
   have hlt:=Lx.Expr.kids_lt hxm
   have hst:=Yca hx
   have htk:=Yb9 (l:=e.kids) (k:=k+1)
   refine zW ?_;intros
   refine zI hk hx (fun p1 hp1=>?_)
   refine zL hp1 ?_
   intro cs hcs
   obtain ⟨wa,wk,rfl,hRx⟩:=YK hcs
   refine zW ?_;intros
   ((refine zG ?_);refine Yu Zz Zz (Ylq s Zi hRx Zi) ?_)
   refine zW ?_;intros
   exact Yz ⟨k+1,c+(ecount x:Nat),by omega,rfl,rfl,rfl,rfl,by omega⟩ Zi Zw Zb
  ·rw [Zl Zi] at hh
   refine zW ?_;intros
   exact zR (h:=by rw [hh,ec])
variable {vk:Value}
theorem Ylp {e:Lx.Expr} (h:ExprR fz e va vk) (hc:ecount e≤1000000000000):
 QFn prog 76 [.agg #[.string e.op,.string e.name,.int .i64 e.n,va,vk]] fz (.int .i64 (ecount e)):=Ylq _ (Zs _) h hc
set_option maxHeartbeats 1000000 in
theorem size_f:∀ (s:Nat) {fz:FZ} {f:Formula} {va vp ve vk:Value},SizeOf.sizeOf f≤s→FormulaR fz f va vp ve vk→fcount f≤1000000000000→
 QFn prog 26 [.agg #[.string f.op,.string f.name,va,vp,ve,vk]] fz (.int .i64 (fcount f))
 | 0,_,e,_,_,_,_,hs,_,_=>by cases e;simp at hs
 | s+1,fz,f,va,vp,ve,vk,hs,h,hc=>by
  obtain ⟨A,n,ca,rfl,ha⟩:=h.args
  obtain ⟨B,m,cb,rfl,hp⟩:=h.params
  obtain ⟨C,r,cr,rfl,he⟩:=h.exprs
  obtain ⟨D,q0,cq,rfl,hk⟩:=h.kids
  refine GFn.quiet ?_
  have lk:=hk.len
  have sk:=hk.short
  have le:=he.len
  have se:=he.short
  have ec:=Yc4 f
  refine zF Tryz.func26 Tryz.ntmps26 (fun w0=>?_)
  refine Yp (Yo (Ya Zz (YW _ Zz Zz (fun g0=>?_))))
  refine zW ?_;intros
  refine Yi (fun q σ fz' H'=>∃ (k:Nat) (c:Int),k≤r∧q=r - k∧σ=[(4,.int .i64 k),(3,.int .i64 c),(1,.pointer (some ⟨g0,0,none⟩))]∧fz=fz'∧H'=[(g0,.cells #[.string f.op,.string f.name,.slice A n ca,.slice B m cb,.slice C r cr,.slice D q0 cq] 29 (0,0))]∧c=((1+ecountL (f.exprs.take k):Nat):Int)) ⟨0,_,Z0 _,rfl,rfl,rfl,rfl,rfl⟩ Zw Zb ?_
  rintro q σ fz' H' ⟨k,c,hkm,rfl,rfl,rfl,rfl,hh⟩
  refine zW ?_;intros
  refine zC (fun c1=>?_) (fun c1=>?_)
  ·obtain ⟨x,hx⟩:=Yg (l:=f.exprs) (k:=k) Zi
   have hxm:=Zm hx
   have hst:=Yca hx
   have htk:=Yb9 (l:=f.exprs) (k:=k+1)
   refine zW ?_;intros
   refine zI he hx (fun p1 hp1=>?_)
   refine zL hp1 ?_
   intro cs hcs
   obtain ⟨wa,wk,rfl,hRx⟩:=YK hcs
   refine zW ?_;intros
   ((refine zG ?_);refine Yu Zz Zz (Ylp hRx Zi) ?_)
   refine zW ?_;intros
   exact Yz ⟨k+1,c+(ecount x:Nat),by omega,rfl,rfl,rfl,rfl,by omega⟩ Zi Zw Zb
  ·rw [Zl Zi] at hh
   refine zW ?_;intros
   refine Yi (fun q σ fz' H'=>∃ (k:Nat) (c:Int),k≤q0∧q=q0 - k∧σ=[(5,.int .i64 k),(3,.int .i64 c),(1,.pointer (some ⟨g0,0,none⟩))]∧fz=fz'∧H'=[(g0,.cells #[.string f.op,.string f.name,.slice A n ca,.slice B m cb,.slice C r cr,.slice D q0 cq] 29 (0,0))]∧c=((1+ecountL f.exprs+fcountL (f.kids.take k):Nat):Int)) ⟨0,c,Z0 _,rfl,rfl,rfl,rfl,by rw [hh];simp [fcountL]⟩ Zw Zb ?_
   rintro q σ fz' H' ⟨k,c,hkm,rfl,rfl,rfl,rfl,hh⟩
   refine zW ?_;intros
   refine zC (fun c2=>?_) (fun c2=>?_)
   ·obtain ⟨x,hx⟩:=Yg (l:=f.kids) (k:=k) Zi
    have hxm:=Zm hx
    have hlt:=Formula.kids_lt hxm
    have hst:=Yd3 hx
    have htk:=Yd2 (l:=f.kids) (k:=k+1)
    refine zW ?_;intros
    refine zI hk hx (fun p1 hp1=>?_)
    refine zL hp1 ?_
    intro cs hcs
    obtain ⟨w1,w2,w3,w4,rfl,hRx⟩:=YA hcs
    refine zW ?_;intros
    ((refine zG ?_);refine Yu Zz Zz (size_f s Zi hRx Zi) ?_)
    refine zW ?_;intros
    exact Yz ⟨k+1,c+(fcount x:Nat),by omega,rfl,rfl,rfl,rfl,by omega⟩ Zi Zw Zb
   ·rw [Zl Zi] at hh
    refine zW ?_;intros
    exact zR (h:=by rw [hh,ec])
variable {f:Formula} {ve vp:Value}
theorem YcK (h:FormulaR fz f va vp ve vk) (hc:fcount f≤1000000000000):
 QFn prog 26 [.agg #[.string f.op,.string f.name,va,vp,ve,vk]] fz (.int .i64 (fcount f)):=size_f _ (Zs _) h hc
def hvC (c:Change):Nat:=1+c.params.length+c.args.length+fcount c.when_+ecount c.value
def Ya4 (l:List Change):Nat:=(l.map hvC).sum
theorem hvC_le (c:Change):hvC c≤1*Y7 c:=by
 have h1:=fcount_le c.when_
 have h2:=ecount_le c.value
 unfold hvC Y7;omega
theorem Ye9 (l:List Change):Ya4 l≤(l.map Y7).sum:=by
 have:=Ygv hvC_le l
 unfold Ya4;omega
set_option maxHeartbeats 1000000 in
theorem Yi8 {ca:Nat} {l:List Change} (h1:Sl changeL fz A n ca l) (hc:Ya4 l≤1000000000000):
 QFn prog 27 [.slice A n ca] fz (.int .i64 (Ya4 l)):=by
 refine GFn.quiet ?_
 have l1:=h1.len
 have s1:=h1.short
 refine zF Tryz.func27 Tryz.ntmps27 (fun w0=>?_)
 refine zW ?_;intros
 refine Yi (fun q σ fz' H'=>∃ (k:Nat) (c:Int),k≤n∧q=n - k∧σ=[(4,.int .i64 k),(3,.int .i64 c),(0,.slice A n ca)]∧fz=fz'∧H'=[]∧c=((((l.take k).map hvC).sum:Nat):Int)) ⟨0,_,Z0 _,rfl,rfl,rfl,rfl,rfl⟩ Zw Zb ?_
 rintro q σ fz' H' ⟨k,c,hkm,rfl,rfl,rfl,rfl,hh⟩
 refine zW ?_;intros
 refine zC (fun c1=>?_) (fun c1=>?_)
 ·obtain ⟨x,hx⟩:=Yg (l:=l) (k:=k) Zi
  have hst:=Ygu (w:=hvC) hx
  have htk:=Ygt (w:=hvC) (l:=l) (k:=k+1)
  unfold Ya4 at hc
  have hvx:hvC x=1+x.params.length+x.args.length+fcount x.when_+ecount x.value:=rfl
  refine zW ?_;intros
  refine zI h1 hx (fun p1 hp1=>?_)
  refine zW ?_;intros
  ((refine zG ?_);refine YaJ T Zz Zz Zz hp1.Change_params (fun P1 pn1 pc1 ip=>?_))
  have lp:=ip.len
  refine zW ?_;intros
  refine zI h1 hx (fun p2 hp2=>?_)
  refine zW ?_;intros
  ((refine zG ?_);refine YaJ T Zz Zz Zz hp2.Change_args (fun P2 pn2 pc2 ia=>?_))
  have la:=ia.len
  refine zW ?_;intros
  refine zI h1 hx (fun p3 hp3=>?_)
  refine zW ?_;intros
  refine zL hp3.Change_when_ ?_
  intro cs3 hcs3
  obtain ⟨w1,w2,w3,w4,rfl,hR3⟩:=YA hcs3
  ((refine zG ?_);refine Yu Zz Zz (YcK hR3 Zi) ?_)
  refine zW ?_;intros
  refine zI h1 hx (fun p4 hp4=>?_)
  refine zW ?_;intros
  refine zL hp4.Change_value ?_
  intro cs4 hcs4
  obtain ⟨u1,u2,rfl,hR4⟩:=YK hcs4
  ((refine zG ?_);refine Yu Zz Zz (Ylp hR4 Zi) ?_)
  refine zW ?_;intros
  exact Yz ⟨k+1,c+(1+pn1+pn2+(fcount x.when_:Nat)+(ecount x.value:Nat)),by omega,rfl,rfl,rfl,rfl,by omega⟩ Zi Zw Zb
 ·rw [Zl Zi] at hh
  refine zW ?_;intros
  exact zR (h:=by rw [hh];rfl)
def laA (a:Action):Nat:=1+fcount a.pre+Ya4 a.changes
def laU (a:Durative):Nat:=1+fcount a.start+fcount a.over+fcount a.fin+Ya4 a.atStart+Ya4 a.atEnd
def Yh0 (d:Domain) (p:Problem):Nat:=d.types.length+d.constants.length+d.predicates.length+d.functions.length+p.objects.length+p.init.length+p.values.length+fcount p.goal+(d.actions.map laA).sum+(d.duratives.map laU).sum
theorem laA_le (a:Action):laA a≤1*actW a:=by
 have h1:=fcount_le a.pre
 have h2:=Ye9 a.changes
 unfold laA actW;omega
theorem laU_le (a:Durative):laU a≤1*durW a:=by
 have h1:=fcount_le a.start
 have h2:=fcount_le a.over
 have h3:=fcount_le a.fin
 have h4:=Ye9 a.atStart
 have h5:=Ye9 a.atEnd
 unfold laU durW;omega
theorem YhZ (d:Domain) (p:Problem):Yh0 d p≤domW d+prbW p:=by
 have h1:=Ygv laA_le d.actions
 have h2:=Ygv laU_le d.duratives
 have h3:=fcount_le p.goal
 have h4:=X7 YhJ d.predicates
 have h5:=X7 Yj2 d.functions
 have h6:=X7 YiA p.init
 have h7:=X7 YfR p.values
 unfold Yh0 domW prbW;omega
variable {d:Domain} {p:Problem} {u1 u2 u3 u4 u5 u6 u7 v1 v2 v3 v4 v5 v6:Value}
set_option maxHeartbeats 4000000 in
theorem Yf9 (h:DomainR fz d v1 v2 v3 v4 v5 v6) (hp:ProblemR fz p u1 u2 u3 u4 u5 u6 u7) (hn:Yh0 d p≤1000000000000):
 QFn prog 11 [.agg #[.string d.name,v1,v2,v3,v4,v5,v6],.agg #[.string p.name,.string p.domain,u1,u2,u3,.string p.goal.op,.string p.goal.name,u4,u5,u6,u7]] fz (.bool (decide (2000<Yh0 d p))):=by
 obtain ⟨A1,n1,b1,rfl,i1⟩:=h.types
 have l1:=i1.len
 obtain ⟨A2,n2,b2,rfl,i2⟩:=h.constants
 have l2:=i2.len
 obtain ⟨A3,n3,b3,rfl,i3⟩:=h.predicates
 have l3:=i3.len
 obtain ⟨A4,n4,b4,rfl,i4⟩:=h.functions
 have l4:=i4.len
 obtain ⟨A5,n5,b5,rfl,i5⟩:=h.actions
 have l5:=i5.len
 obtain ⟨A6,n6,b6,rfl,i6⟩:=h.duratives
 have l6:=i6.len
 have s5:=i5.short
 have s6:=i6.short
 obtain ⟨C1,m1,e1,rfl,j1⟩:=hp.objects
 have k1:=j1.len
 obtain ⟨C2,m2,e2,rfl,j2⟩:=hp.init
 have k2:=j2.len
 obtain ⟨C3,m3,e3,rfl,j3⟩:=hp.values
 have k3:=j3.len
 have hg:=hp.goal
 obtain ⟨U1,w1,z1,rfl,_⟩:=hp.goal.args
 obtain ⟨U2,w2,z2,rfl,_⟩:=hp.goal.params
 obtain ⟨U3,w3,z3,rfl,_⟩:=hp.goal.exprs
 obtain ⟨U4,w4,z4,rfl,_⟩:=hp.goal.kids
 refine GFn.quiet ?_
 have hnn:Yh0 d p=d.types.length+d.constants.length+d.predicates.length+d.functions.length+p.objects.length+p.init.length+p.values.length+fcount p.goal+(d.actions.map laA).sum+(d.duratives.map laU).sum:=rfl
 refine zF Tryz.func11 Tryz.ntmps11 (fun w0=>?_)
 refine Yp (Yo (Ya Zz (YW _ Zz Zz (fun g0=>?_))))
 refine Ya Zz (YW _ Zz Zz (fun g1=>?_))
 refine zW ?_;intros
 ((refine zG ?_);refine Yk (vs:=[.string p.goal.op,.string p.goal.name,.slice U1 w1 z1,.slice U2 w2 z2,.slice U3 w3 z3,.slice U4 w4 z4]) T 0 Zz Zz Zz Zz Zz Zz ?_)
 ((refine zG ?_);refine Yu Zz Zz (YcK hg Zi) ?_)
 refine zW ?_;intros
 refine Yi (fun q σ fz' H'=>∃ (k:Nat) (c:Int),k≤n5∧q=n5 - k∧σ=[(6,.int .i64 k),(5,.int .i64 c),(2,.pointer (some ⟨g0,0,none⟩))]∧fz=fz'∧H'=[(g0,.cells #[.string d.name,.slice A1 n1 b1,.slice A2 n2 b2,.slice A3 n3 b3,.slice A4 n4 b4,.slice A5 n5 b5,.slice A6 n6 b6] 46 (0,0))]∧c=((n1+n2+n3+n4+m1+m2+m3+fcount p.goal+((d.actions.take k).map laA).sum:Nat):Int)) ⟨0,(n1:Int)+n2+n3+n4+m1+m2+m3+(fcount p.goal:Nat),Z0 _,rfl,rfl,rfl,rfl,by simp⟩ Zw (List.Sublist.cons _ (List.Sublist.refl _)) ?_
 rintro q σ fz' H' ⟨k,c,hkm,rfl,rfl,rfl,rfl,hh⟩
 refine zW ?_;intros
 refine zC (fun c1=>?_) (fun c1=>?_)
 ·obtain ⟨x,hx⟩:=Yg (l:=d.actions) (k:=k) Zi
  have hst:=Ygu (w:=laA) hx
  have htk:=Ygt (w:=laA) (l:=d.actions) (k:=k+1)
  have hvx:laA x=1+fcount x.pre+Ya4 x.changes:=rfl
  refine zW ?_;intros
  refine zI i5 hx (fun pp1 hp1=>?_)
  refine zW ?_;intros
  refine zL hp1.Action_pre ?_
  intro cs1 hcs1
  obtain ⟨s1,s2,s3,s4,rfl,hR1⟩:=YA hcs1
  ((refine zG ?_);refine Yu Zz Zz (YcK hR1 Zi) ?_)
  refine zW ?_;intros
  refine zI i5 hx (fun pp2 hp2=>?_)
  refine zW ?_;intros
  ((refine zG ?_);refine YaJ T Zz Zz Zz hp2.Action_changes (fun P2 pn2 pc2 ic=>?_))
  ((refine zG ?_);refine Yu Zz Zz (Yi8 ic Zi) ?_)
  refine zW ?_;intros
  exact Yz ⟨k+1,c+(1+(fcount x.pre:Nat)+(Ya4 x.changes:Nat)),by omega,rfl,rfl,rfl,rfl,by omega⟩ Zi Zw Zb
 ·rw [Zl Zi] at hh
  refine zW ?_;intros
  refine Yi (fun q σ fz' H'=>∃ (k:Nat) (c:Int),k≤n6∧q=n6 - k∧σ=[(7,.int .i64 k),(5,.int .i64 c),(2,.pointer (some ⟨g0,0,none⟩))]∧fz=fz'∧H'=[(g0,.cells #[.string d.name,.slice A1 n1 b1,.slice A2 n2 b2,.slice A3 n3 b3,.slice A4 n4 b4,.slice A5 n5 b5,.slice A6 n6 b6] 46 (0,0))]∧c=((n1+n2+n3+n4+m1+m2+m3+fcount p.goal+(d.actions.map laA).sum+((d.duratives.take k).map laU).sum:Nat):Int)) ⟨0,c,Z0 _,rfl,rfl,rfl,rfl,by rw [hh];simp⟩ Zw Zb ?_
  rintro q σ fz' H' ⟨k,c,hkm,rfl,rfl,rfl,rfl,hh⟩
  refine zW ?_;intros
  refine zC (fun c2=>?_) (fun c2=>?_)
  ·obtain ⟨x,hx⟩:=Yg (l:=d.duratives) (k:=k) Zi
   have hst:=Ygu (w:=laU) hx
   have htk:=Ygt (w:=laU) (l:=d.duratives) (k:=k+1)
   have hvx:laU x=1+fcount x.start+fcount x.over+fcount x.fin+Ya4 x.atStart+Ya4 x.atEnd:=rfl
   refine zW ?_;intros
   refine zI i6 hx (fun pp1 hp1=>?_)
   refine zL hp1 ?_
   intro cs1 hcs1
   obtain ⟨r0,r1,r2,r3,r4,r5,r6,r7,r8,r9,r10,r11,r12,r13,r14,rfl,hR⟩:=Xz hcs1
   obtain ⟨P,p1,q1,rfl,ip⟩:=hR.params
   have hS1:=hR.start
   have hS2:=hR.over
   have hS3:=hR.fin
   obtain ⟨V1,a1,y1,rfl,_⟩:=hR.start.args
   obtain ⟨V2,a2,y2,rfl,_⟩:=hR.start.params
   obtain ⟨V3,a3,y3,rfl,_⟩:=hR.start.exprs
   obtain ⟨V4,a4,y4,rfl,_⟩:=hR.start.kids
   obtain ⟨V5,a5,y5,rfl,_⟩:=hR.over.args
   obtain ⟨V6,a6,y6,rfl,_⟩:=hR.over.params
   obtain ⟨V7,a7,y7,rfl,_⟩:=hR.over.exprs
   obtain ⟨V8,a8,y8,rfl,_⟩:=hR.over.kids
   obtain ⟨V9,a9,y9,rfl,_⟩:=hR.fin.args
   obtain ⟨V10,a10,y10,rfl,_⟩:=hR.fin.params
   obtain ⟨V11,a11,y11,rfl,_⟩:=hR.fin.exprs
   obtain ⟨V12,a12,y12,rfl,_⟩:=hR.fin.kids
   obtain ⟨V13,a13,y13,rfl,ia⟩:=hR.atStart
   obtain ⟨V14,a14,y14,rfl,ie⟩:=hR.atEnd
   refine zW ?_;intros
   ((refine zG ?_);refine Yk (vs:=[.string x.start.op,.string x.start.name,.slice V1 a1 y1,.slice V2 a2 y2,.slice V3 a3 y3,.slice V4 a4 y4]) T 0 Zz Zz Zz Zz Zz Zz ?_)
   refine zW ?_;intros
   ((refine zG ?_);refine Yu Zz Zz (YcK hS1 Zi) ?_)
   refine zW ?_;intros
   ((refine zG ?_);refine Yk (vs:=[.string x.over.op,.string x.over.name,.slice V5 a5 y5,.slice V6 a6 y6,.slice V7 a7 y7,.slice V8 a8 y8]) T 0 Zz Zz Zz Zz Zz Zz ?_)
   refine zW ?_;intros
   ((refine zG ?_);refine Yu Zz Zz (YcK hS2 Zi) ?_)
   refine zW ?_;intros
   ((refine zG ?_);refine Yk (vs:=[.string x.fin.op,.string x.fin.name,.slice V9 a9 y9,.slice V10 a10 y10,.slice V11 a11 y11,.slice V12 a12 y12]) T 0 Zz Zz Zz Zz Zz Zz ?_)
   refine zW ?_;intros
   ((refine zG ?_);refine Yu Zz Zz (YcK hS3 Zi) ?_)
   refine zW ?_;intros
   ((refine zG ?_);refine Yu Zz Zz (Yi8 ia Zi) ?_)
   refine zW ?_;intros
   ((refine zG ?_);refine Yu Zz Zz (Yi8 ie Zi) ?_)
   refine zW ?_;intros
   exact Yz ⟨k+1,c+(1+(fcount x.start:Nat)+(fcount x.over:Nat)+(fcount x.fin:Nat)+(Ya4 x.atStart:Nat)+(Ya4 x.atEnd:Nat)),by omega,rfl,rfl,rfl,rfl,by omega⟩ Zi Zw Zb
  ·rw [Zl Zi] at hh
   refine zW ?_;intros
   refine zC (fun c3=>?_) (fun c3=>?_)
   ·refine zW ?_;intros
    exact ret1 rfl rfl Zb (YB Zi)
   ·refine zW ?_;intros
    exact ret1 rfl rfl Zb (Ym Zi)
mutual
def spreadM:Formula→Nat
 | .mk _ _ _ params _ kids=>spreadL kids+params.length
def spreadL:List Formula→Nat
 | []=>0
 | k::r=>max (spreadM k) (spreadL r)
end
mutual
theorem spread_le:∀ f:Formula,spreadM f≤fW f
 | .mk a b c d exprs kids=>by have h:=spreadL_le kids;rw [spreadM,fW];omega
theorem spreadL_le:∀ l:List Formula,spreadL l≤fWL l
 | []=>by simp [spreadL]
 | x::r=>by have h1:=spread_le x;have h2:=spreadL_le r;rw [spreadL,fWL];omega
end
theorem kid_fW {k:Formula} (h:k∈f.kids):fW k≤fW f:=by
 have:=Xx (w:=fW) h
 rw [Yc5 f];omega
theorem Ylo (f:Formula):spreadM f=spreadL f.kids+f.params.length:=by cases f;rw [spreadM];rfl
theorem Yez:∀ (a b:List Formula),spreadL (a++b)=max (spreadL a) (spreadL b)
 | [],b=>by simp [spreadL]
 | x::a,b=>by rw [List.cons_append,spreadL,spreadL,Yez a b];omega
theorem Yhu {l:List Formula} {x:Formula} (hx:l[k]?=some x):spreadL (l.take (k+1))=max (spreadL (l.take k)) (spreadM x):=by
 rw [List.take_add_one,hx,Yez];simp [spreadL]
set_option maxHeartbeats 1000000 in
theorem Yjz:∀ (s:Nat) {fz:FZ} {f:Formula} {va vp ve vk:Value},SizeOf.sizeOf f≤s→FormulaR fz f va vp ve vk→fW f≤1000000000000→
 QFn prog 77 [.agg #[.string f.op,.string f.name,va,vp,ve,vk]] fz (.int .i64 (spreadM f))
 | 0,_,e,_,_,_,_,hs,_,_=>by cases e;simp at hs
 | s+1,fz,f,va,vp,ve,vk,hs,h,hc=>by
  obtain ⟨A,n,ca,rfl,ha⟩:=h.args
  obtain ⟨B,m,cb,rfl,hp⟩:=h.params
  obtain ⟨C,r,cr,rfl,he⟩:=h.exprs
  obtain ⟨D,q0,cq,rfl,hk⟩:=h.kids
  refine GFn.quiet ?_
  have lk:=hk.len
  have sk:=hk.short
  have lp:=hp.len
  have ec:=Ylo f
  have el:=spread_le f
  refine zF Tryz.func77 Tryz.ntmps77 (fun w0=>?_)
  refine Yp (Yo (Ya Zz (YW _ Zz Zz (fun g0=>?_))))
  refine zW ?_;intros
  refine Yi (fun q σ fz' H'=>∃ (k:Nat) (c:Int),k≤q0∧q=q0 - k∧σ=[(4,.int .i64 k),(3,.int .i64 c),(1,.pointer (some ⟨g0,0,none⟩))]∧fz=fz'∧H'=[(g0,.cells #[.string f.op,.string f.name,.slice A n ca,.slice B m cb,.slice C r cr,.slice D q0 cq] 29 (0,0))]∧c=((spreadL (f.kids.take k):Nat):Int)) ⟨0,_,Z0 _,rfl,rfl,rfl,rfl,rfl⟩ Zw Zb ?_
  rintro q σ fz' H' ⟨k,c,hkm,rfl,rfl,rfl,rfl,hh⟩
  refine zW ?_;intros
  refine zC (fun c1=>?_) (fun c1=>?_)
  ·obtain ⟨x,hx⟩:=Yg (l:=f.kids) (k:=k) Zi
   have hxm:=Zm hx
   have hlt:=Formula.kids_lt hxm
   have hst:=Yhu hx
   have hxw:=kid_fW hxm
   refine zW ?_;intros
   refine zI hk hx (fun p1 hp1=>?_)
   refine zL hp1 ?_
   intro cs hcs
   obtain ⟨w1,w2,w3,w4,rfl,hRx⟩:=YA hcs
   refine zW ?_;intros
   ((refine zG ?_);refine Yu Zz Zz (Yjz s Zi hRx Zi) ?_)
   refine zW ?_;intros
   exact Yz ⟨k+1,max c (spreadM x:Nat),by omega,rfl,rfl,rfl,rfl,by omega⟩ Zi Zw Zb
  ·rw [Zl Zi] at hh
   refine zW ?_;intros
   exact zR (h:=by rw [hh,ec];exact congrArg (Value.int .i64) Zi)
theorem Ygx (h:FormulaR fz f va vp ve vk) (hc:fW f≤1000000000000):
 QFn prog 77 [.agg #[.string f.op,.string f.name,va,vp,ve,vk]] fz (.int .i64 (spreadM f)):=Yjz _ (Zs _) h hc
set_option maxHeartbeats 8000000 in
theorem Yl2 (h:DomainR fz d v1 v2 v3 v4 v5 v6) (hp:ProblemR fz p u1 u2 u3 u4 u5 u6 u7) (hd:domW d≤1000000000) (hw:prbW p≤1000000000):
 GFn prog 28 [.agg #[.string d.name,v1,v2,v3,v4,v5,v6],.agg #[.string p.name,.string p.domain,u1,u2,u3,.string p.goal.op,.string p.goal.name,u4,u5,u6,u7]] fz [] (fun r _ H'=>H'=[]∧∃ b,r=.bool b):=by
 have h0:=h
 have hp0:=hp
 have hn:=YhZ d p
 obtain ⟨A1,n1,b1,rfl,i1⟩:=h.types
 obtain ⟨A2,n2,b2,rfl,i2⟩:=h.constants
 have l2:=i2.len
 have s2:=i2.short
 obtain ⟨A3,n3,b3,rfl,i3⟩:=h.predicates
 obtain ⟨A4,n4,b4,rfl,i4⟩:=h.functions
 obtain ⟨A5,n5,b5,rfl,i5⟩:=h.actions
 have l5:=i5.len
 obtain ⟨A6,n6,b6,rfl,i6⟩:=h.duratives
 have s5:=i5.short
 obtain ⟨C1,m1,e1,rfl,j1⟩:=hp.objects
 have k1:=j1.len
 have t1:=j1.short
 obtain ⟨C2,m2,e2,rfl,j2⟩:=hp.init
 obtain ⟨C3,m3,e3,rfl,j3⟩:=hp.values
 have hg:=hp.goal
 have hgw:fW p.goal≤prbW p:=by unfold prbW;omega
 have hgc:=fcount_le p.goal
 obtain ⟨U1,w1,z1,rfl,_⟩:=hp.goal.args
 obtain ⟨U2,w2,z2,rfl,_⟩:=hp.goal.params
 obtain ⟨U3,w3,z3,rfl,_⟩:=hp.goal.exprs
 obtain ⟨U4,w4,z4,rfl,_⟩:=hp.goal.kids
 refine zF Tryz.func28 Tryz.ntmps28 (fun w0=>?_)
 refine Yp (Yo (Ya Zz (YW _ Zz Zz (fun g0=>?_))))
 refine Ya Zz (YW _ Zz Zz (fun g1=>?_))
 refine zW ?_;intros
 ((refine zG ?_);refine XM Zz Zz (Yf9 h0 hp0 Zi) (fun f1=>?_) (fun f1=>?_))
 ·refine zW ?_;intros
  exact ret1 rfl rfl Zb ⟨rfl,_,rfl⟩
 ·refine zW ?_;intros
  refine zC (fun c1=>?_) (fun c1=>?_)
  ·refine zW ?_;intros
   exact ret1 rfl rfl Zb ⟨rfl,_,rfl⟩
  ·refine zW ?_;intros
   refine zC (fun c2=>?_) (fun c2=>?_)
   ·refine zW ?_;intros
    exact ret1 rfl rfl Zb ⟨rfl,_,rfl⟩
   ·refine zW ?_;intros
    refine zC (fun c3=>?_) (fun c3=>?_)
    ·refine zW ?_;intros
     exact ret1 rfl rfl Zb ⟨rfl,_,rfl⟩
    ·refine zW ?_;intros
     ((refine zG ?_);refine Yk (vs:=[.string p.goal.op,.string p.goal.name,.slice U1 w1 z1,.slice U2 w2 z2,.slice U3 w3 z3,.slice U4 w4 z4]) T 0 Zz Zz Zz Zz Zz Zz ?_)
     ((refine zG ?_);refine Yu Zz Zz (Ygx hg Zi) ?_)
     refine zW ?_;intros
     refine zC (fun c4=>?_) (fun c4=>?_)
     ·refine zW ?_;intros
      exact ret1 rfl rfl Zb ⟨rfl,_,rfl⟩
     ·refine zW ?_;intros
      ((refine zG ?_);refine Yk (vs:=[.string p.goal.op,.string p.goal.name,.slice U1 w1 z1,.slice U2 w2 z2,.slice U3 w3 z3,.slice U4 w4 z4]) T 0 Zz Zz Zz Zz Zz Zz ?_)
      ((refine zG ?_);refine Yu Zz Zz (YcK hg Zi) ?_)
      refine zW ?_;intros
      refine zC (fun c5=>?_) (fun c5=>?_)
      ·refine zW ?_;intros
       exact ret1 rfl rfl Zb ⟨rfl,_,rfl⟩
      ·refine zW ?_;intros
       refine Yi (fun q σ fz' H'=>∃ (k:Nat),k≤n5∧q=n5 - k∧σ=[(5,.int .i64 k),(2,.pointer (some ⟨g0,0,none⟩))]∧fz=fz'∧H'=[(g0,.cells #[.string d.name,.slice A1 n1 b1,.slice A2 n2 b2,.slice A3 n3 b3,.slice A4 n4 b4,.slice A5 n5 b5,.slice A6 n6 b6] 46 (0,0))]) ⟨0,Z0 _,rfl,rfl,rfl,rfl⟩ Zw (List.Sublist.cons _ (List.Sublist.refl _)) ?_
       rintro q σ fz' H' ⟨k,hkm,rfl,rfl,rfl,rfl⟩
       refine zW ?_;intros
       refine zC (fun c6=>?_) (fun c6=>?_)
       ·obtain ⟨x,hx⟩:=Yg (l:=d.actions) (k:=k) Zi
        have hxw:actW x≤domW d:=by
         have:=Xx (w:=actW) (Zm hx)
         unfold domW;omega
        have hxe:actW x=1+x.params.length+fW x.pre+(x.changes.map Y7).sum:=rfl
        have hxc:=fcount_le x.pre
        refine zW ?_;intros
        refine zI i5 hx (fun pp1 hp1=>?_)
        refine zL hp1 ?_
        intro cs1 hcs1
        obtain ⟨r1,r2,r3,r4,r5,r6,rfl,hR⟩:=Xw hcs1
        obtain ⟨P,p1,q1,rfl,ip⟩:=hR.params
        have hS1:=hR.pre
        obtain ⟨V1,a1,y1,rfl,_⟩:=hR.pre.args
        obtain ⟨V2,a2,y2,rfl,_⟩:=hR.pre.params
        obtain ⟨V3,a3,y3,rfl,_⟩:=hR.pre.exprs
        obtain ⟨V4,a4,y4,rfl,_⟩:=hR.pre.kids
        obtain ⟨W1,o1,f2,rfl,ic⟩:=hR.changes
        have lc:=ic.len
        have sc:=ic.short
        refine Ya Zz (YX T Zz Zz (fun ga=>?_))
        refine zW ?_;intros
        refine zC (fun d1=>?_) (fun d1=>?_)
        ·refine zW ?_;intros
         exact ret1 rfl rfl Zb ⟨rfl,_,rfl⟩
        ·refine zW ?_;intros
         ((refine zG ?_);refine Yk (vs:=[.string x.pre.op,.string x.pre.name,.slice V1 a1 y1,.slice V2 a2 y2,.slice V3 a3 y3,.slice V4 a4 y4]) T 0 Zz Zz Zz Zz Zz Zz ?_)
         ((refine zG ?_);refine Yu Zz Zz (Ygx hS1 Zi) ?_)
         refine zW ?_;intros
         refine zC (fun d2=>?_) (fun d2=>?_)
         ·refine zW ?_;intros
          exact ret1 rfl rfl Zb ⟨rfl,_,rfl⟩
         ·refine zW ?_;intros
          ((refine zG ?_);refine Yk (vs:=[.string x.pre.op,.string x.pre.name,.slice V1 a1 y1,.slice V2 a2 y2,.slice V3 a3 y3,.slice V4 a4 y4]) T 0 Zz Zz Zz Zz Zz Zz ?_)
          ((refine zG ?_);refine Yu Zz Zz (YcK hS1 Zi) ?_)
          refine zW ?_;intros
          refine zC (fun d3=>?_) (fun d3=>?_)
          ·refine zW ?_;intros
           exact ret1 rfl rfl Zb ⟨rfl,_,rfl⟩
          ·refine zW ?_;intros
           refine zC (fun d4=>?_) (fun d4=>?_)
           ·refine zW ?_;intros
            exact ret1 rfl rfl Zb ⟨rfl,_,rfl⟩
           ·refine zW ?_;intros
            refine Yi (fun q σ fz' H'=>∃ (k':Nat),k'≤o1∧q=o1 - k'∧σ=[(7,.int .i64 k'),(6,.pointer (some ⟨ga,0,none⟩)),(5,.int .i64 k),(2,.pointer (some ⟨g0,0,none⟩))]∧fz=fz'∧H'=[(ga,.cells #[.string x.name,.slice P p1 q1,.int .i64 x.cost,.string x.pre.op,.string x.pre.name,.slice V1 a1 y1,.slice V2 a2 y2,.slice V3 a3 y3,.slice V4 a4 y4,.slice W1 o1 f2] 41 (0,0)),(g0,.cells #[.string d.name,.slice A1 n1 b1,.slice A2 n2 b2,.slice A3 n3 b3,.slice A4 n4 b4,.slice A5 n5 b5,.slice A6 n6 b6] 46 (0,0))]) ⟨0,Z0 _,rfl,rfl,rfl,rfl⟩ Zw Zb ?_
            rintro q σ fz' H' ⟨k',hkm',rfl,rfl,rfl,rfl⟩
            refine zW ?_;intros
            refine zC (fun c7=>?_) (fun c7=>?_)
            ·obtain ⟨ch,hch⟩:=Yg (l:=x.changes) (k:=k') Zi
             have hcw:=Xx (w:=Y7) (Zm hch)
             have hce:Y7 ch=1+ch.params.length+fW ch.when_+ch.args.length+eW ch.value:=rfl
             have hcc:=fcount_le ch.when_
             have hcs:=spread_le ch.when_
             refine zW ?_;intros
             refine zI ic hch (fun pp2 hp2=>?_)
             refine zW ?_;intros
             ((refine zG ?_);refine YaJ T Zz Zz Zz hp2.Change_params (fun P2 pn2 pc2 ipc=>?_))
             have lpc:=ipc.len
             refine zW ?_;intros
             refine zI ic hch (fun pp3 hp3=>?_)
             refine zW ?_;intros
             refine zL hp3.Change_when_ ?_
             intro cs3 hcs3
             obtain ⟨w1,w2,w3,w4,rfl,hR3⟩:=YA hcs3
             refine zW ?_;intros
             ((refine zG ?_);refine Yu Zz Zz (Ygx hR3 Zi) ?_)
             refine zW ?_;intros
             refine zC (fun e1=>?_) (fun e1=>?_)
             ·refine zW ?_;intros
              exact ret1 rfl rfl Zb ⟨rfl,_,rfl⟩
             ·refine zW ?_;intros
              refine zI ic hch (fun pp4 hp4=>?_)
              refine zW ?_;intros
              refine zL hp4.Change_when_ ?_
              intro cs4 hcs4
              obtain ⟨x1,x2,x3,x4,rfl,hR4⟩:=YA hcs4
              refine zW ?_;intros
              ((refine zG ?_);refine Yu Zz Zz (YcK hR4 Zi) ?_)
              refine zW ?_;intros
              refine zC (fun e2=>?_) (fun e2=>?_)
              ·refine zW ?_;intros
               exact ret1 rfl rfl Zb ⟨rfl,_,rfl⟩
              ·refine zW ?_;intros
               exact Yz ⟨k'+1,by omega,rfl,rfl,rfl,rfl⟩ Zi Zw Zb
            ·refine zW ?_;intros
             exact Yz ⟨k+1,by omega,rfl,rfl,rfl,rfl⟩ Zi Zw (List.Sublist.cons _ (List.Sublist.refl _))
       ·refine zW ?_;intros
        exact ret1 rfl rfl Zb ⟨rfl,_,rfl⟩
set_option maxHeartbeats 4000000 in
theorem Yl1 (h:DomainR fz d v1 v2 v3 v4 v5 v6) (hp:ProblemR fz p u1 u2 u3 u4 u5 u6 u7) (hd:domW d≤1000000000) (hw:prbW p≤1000000000):
 GFn prog 12 [.agg #[.string d.name,v1,v2,v3,v4,v5,v6],.agg #[.string p.name,.string p.domain,u1,u2,u3,.string p.goal.op,.string p.goal.name,u4,u5,u6,u7]] fz [] (fun r _ H'=>H'=[]∧∃ b,r=.bool b):=by
 have h0:=h
 have hp0:=hp
 obtain ⟨A1,n1,b1,rfl,i1⟩:=h.types
 obtain ⟨A2,n2,b2,rfl,i2⟩:=h.constants
 obtain ⟨A3,n3,b3,rfl,i3⟩:=h.predicates
 obtain ⟨A4,n4,b4,rfl,i4⟩:=h.functions
 obtain ⟨A5,n5,b5,rfl,i5⟩:=h.actions
 obtain ⟨A6,n6,b6,rfl,i6⟩:=h.duratives
 obtain ⟨C1,m1,e1,rfl,j1⟩:=hp.objects
 obtain ⟨C2,m2,e2,rfl,j2⟩:=hp.init
 obtain ⟨C3,m3,e3,rfl,j3⟩:=hp.values
 obtain ⟨U1,w1,z1,rfl,_⟩:=hp.goal.args
 obtain ⟨U2,w2,z2,rfl,_⟩:=hp.goal.params
 obtain ⟨U3,w3,z3,rfl,_⟩:=hp.goal.exprs
 obtain ⟨U4,w4,z4,rfl,_⟩:=hp.goal.kids
 refine zF Tryz.func12 Tryz.ntmps12 (fun w0=>?_)
 refine Yp (Yo (Ya Zz (YW _ Zz Zz (fun g0=>?_))))
 refine Ya Zz (YW _ Zz Zz (fun g1=>?_))
 refine zW ?_;intros
 refine Ya Zz (Yn [] _ Zz Zz Zz (Yl2 h0 hp0 hd hw) (fun v1 fz1 H1 hle1 hR1=>?_))
 obtain ⟨rfl,b,rfl⟩:=hR1
 cases b with
 | true=>
  refine zW ?_;intros
  exact ret1 rfl rfl Zb ⟨rfl,_,rfl⟩
 | false=>
  refine zW ?_;intros
  refine zC (fun c1=>?_) (fun c1=>?_)
  ·refine zW ?_;intros
   exact ret1 rfl rfl Zb ⟨rfl,_,rfl⟩
  ·refine zW ?_;intros
   refine zC (fun c2=>?_) (fun c2=>?_)
   ·refine zW ?_;intros
    exact ret1 rfl rfl Zb ⟨rfl,_,rfl⟩
   ·refine zW ?_;intros
    exact ret1 rfl rfl Zb ⟨rfl,_,rfl⟩
theorem YkQ (K:Kn) (d:Domain) (S0:List Atom):expE K d S0=0∨expE K d S0=5:=by
 unfold expE
 split
 ·unfold schE
  split
  ·exact .inr rfl
  ·split
   ·exact .inr rfl
   ·exact .inl rfl
 ·split
  ·exact .inr rfl
  ·exact .inl rfl
variable {K:Kn}
theorem expM_sub {S0:List Atom} {a:Atom} (h:a∈S0):a∈(expM K d S0).S:=by
 have:=(Yfn (K:=K) (l:=schL K d) _ (w:=⟨S0,exN0 (schL K d),exN0 (schL K d),false⟩) (Nat.lt_succ_self _) (Yc6 _) (Yc6 _)).1
 obtain ⟨T,hT⟩:=this
 unfold expM exM
 rw [hT]
 exact List.mem_append_left _ h
set_option maxHeartbeats 8000000 in
theorem linit_q (hM:MaxF fz) (hD:DomainR fz d v1 v2 v3 v4 v5 v6) (hP:ProblemR fz p u1 u2 u3 u4 u5 u6 u7) (hd:domW d≤1300000) (hp:prbW p≤1300000)
 (hw:∀ fz:FZ,MaxF fz→QFn prog 5 [] fz (.bool true)):
 QFn prog 4 [.agg #[.string d.name,v1,v2,v3,v4,v5,v6],.agg #[.string p.name,.string p.domain,u1,u2,u3,.string p.goal.op,.string p.goal.name,u4,u5,u6,u7]] fz (.bool true):=by
 have hD0:=hD
 have hP0:=hP
 have hS:=YmF hd hp
 have hA:=fun hc=>apt_of (d:=d) (p:=p) hc hd hp
 have hn:=YhZ d p
 obtain ⟨A1,n1,b1,rfl,i1⟩:=hD.types
 obtain ⟨A2,n2,b2,rfl,i2⟩:=hD.constants
 obtain ⟨A3,n3,b3,rfl,i3⟩:=hD.predicates
 obtain ⟨A4,n4,b4,rfl,i4⟩:=hD.functions
 obtain ⟨A5,n5,b5,rfl,i5⟩:=hD.actions
 obtain ⟨A6,n6,b6,rfl,i6⟩:=hD.duratives
 obtain ⟨B1,m1,d1,rfl,j1⟩:=hP.objects
 obtain ⟨B2,m2,d2,rfl,j2⟩:=hP.init
 obtain ⟨B3,m3,d3,rfl,j3⟩:=hP.values
 obtain ⟨B4,m4,d4,rfl,_⟩:=hP.goal.args
 obtain ⟨B5,m5,d5,rfl,_⟩:=hP.goal.params
 obtain ⟨B6,m6,d6,rfl,_⟩:=hP.goal.exprs
 obtain ⟨B7,m7,d7,rfl,_⟩:=hP.goal.kids
 have l2:=j2.len
 refine GFn.quiet ?_
 refine zF Tryz.func4 Tryz.ntmps4 (fun w0=>?_)
 refine Yp (Yo (Ya Zz (YW _ Zz Zz (fun g2=>?_))))
 refine Ya Zz (YW _ Zz Zz (fun g3=>?_))
 refine zW ?_;intros
 ((refine zG ?_);refine XM Zz Zz (Yf9 hD0 hP0 Zi) (fun f1=>?_) (fun f1=>?_))
 ·refine zW ?_;intros
  ((refine zG ?_);refine Yu Zz Zz (hw _ hM) ?_)
  refine zW ?_;intros
  exact zR (h:=rfl)
 ·refine zW ?_;intros
  refine Seq.guard_yesK Zz Zz Zz (Yn [] _ Zz Zz Zz (Yl1 hD0 hP0 Zi Zi) (fun v1 fz1 H1 hle1 hR1=>?_))
  obtain ⟨rfl,b,rfl⟩:=hR1
  have hM1:MaxF fz1:=hM.mono hle1
  cases b with
  | true=>
   refine zW ?_;intros
   ((refine zG ?_);refine Yu Zz Zz (hw _ hM1) ?_)
   refine zW ?_;intros
   exact zR (h:=rfl)
  | false=>
   refine zW ?_;intros
   ((refine zG ?_);refine Yu Zz Zz (hw _ hM1) ?_)
   refine zW ?_;intros
   refine Ya Zz (Yn [] _ Zz Zz Zz (YmN hM1 (hD0.mono hle1) (hP0.mono hle1) hS hA) (fun v4 fz4 H4 hle4 hR4=>?_))
   obtain ⟨rfl,S0,hS0,v,rfl,hz1,hz2⟩:=hR4
   have hle:=hle1.trans hle4
   have hck:=YmG (hM.mono hle) (hD0.mono hle) (hP0.mono hle) hS
   have j2':=j2.mono hle
   rw [resV] at hck
   by_cases hc:(XQ d p).2=0
   rotate_left 1
   ·have hE:Ws d p S0=(XQ d p).2:=by rw [Ws,if_pos hc]
    rw [YG hc] at hck
    have hnum:=num_q (fz:=fz4) (n:=(XQ d p).2)
    rw [YG hc] at hnum
    rw [hE,YG hc]
    refine zW ?_;intros
    refine zc hck ?_
    refine zW ?_;intros
    refine zc hnum ?_
    refine zW ?_;intros
    refine zc hnum ?_
    refine zW ?_;intros
    refine zC (fun c1=>?_) (fun c1=>?_)
    ·refine zW ?_;intros
     exact zR (h:=rfl)
    ·exact absurd rfl c1
   ·rw [hc,show errV 0=.nilIface from rfl] at hck
    have hE:Ws d p S0=expE (knM d p) d S0:=by rw [Ws,if_neg (by rw [hc];decide)]
    by_cases he:Ws d p S0=0
    rotate_left 1
    ·have h5:Ws d p S0=5:=by
      rw [hE] at he ⊢
      exact (YkQ _ _ _).resolve_left he
     have his:=bis_q (fz:=fz4) (n:=5) (m:=5) Zh
     rw [YG Zh] at his
     rw [h5,YG Zh]
     refine zW ?_;intros
     refine zc hck ?_
     refine zW ?_;intros
     refine Yi (fun q σ fz' H'=>q=0∧σ=[(9,.int .i64 0),(6,.iface 60 (.int .i64 5)),(5,v),(3,.pointer (some ⟨g3,0,none⟩))]∧fz4=fz'∧H'=[(g3,.cells #[.string p.name,.string p.domain,.slice B1 m1 d1,.slice B2 m2 d2,.slice B3 m3 d3,.string p.goal.op,.string p.goal.name,.slice B4 m4 d4,.slice B5 m5 d5,.slice B6 m6 d6,.slice B7 m7 d7] 52 (0,0))]) ⟨rfl,rfl,rfl,rfl⟩ Zw (List.Sublist.cons₂ _ (List.Sublist.cons _ (List.Sublist.refl _))) ?_
     rintro q σ fz' H' ⟨rfl,rfl,rfl,rfl⟩
     have l2':=j2'.len
     refine zW ?_;intros
     refine zC (fun c1=>?_) (fun c1=>?_)
     ·refine zW ?_;intros
      refine zc his ?_
      refine zW ?_;intros
      exact zR (h:=rfl)
     ·refine zW ?_;intros
      refine zc his ?_
      refine zW ?_;intros
      exact zR (h:=rfl)
    ·obtain ⟨l,hl,hpm,_⟩:=hz2 he
     obtain ⟨Al,nl,cl,rfl,hsl⟩:=hl
     rw [he,show errV 0=.nilIface from rfl]
     refine zW ?_;intros
     refine zc hck ?_
     refine zW ?_;intros
     refine Yi (fun q σ fz' H'=>∃ k:Nat,k≤m2∧q=m2 - k∧σ=[(9,.int .i64 k),(6,.nilIface),(5,.slice Al nl cl),(3,.pointer (some ⟨g3,0,none⟩))]∧fz4=fz'∧H'=[(g3,.cells #[.string p.name,.string p.domain,.slice B1 m1 d1,.slice B2 m2 d2,.slice B3 m3 d3,.string p.goal.op,.string p.goal.name,.slice B4 m4 d4,.slice B5 m5 d5,.slice B6 m6 d6,.slice B7 m7 d7] 52 (0,0))]) ⟨0,Z0 _,rfl,rfl,rfl,rfl⟩ Zw (List.Sublist.cons₂ _ (List.Sublist.cons _ (List.Sublist.refl _))) ?_
     rintro q σ fz' H' ⟨k,hk,rfl,rfl,rfl,rfl⟩
     have l2':=j2'.len
     have s2':=j2'.short
     refine zW ?_;intros
     refine zC (fun c1=>?_) (fun c1=>?_)
     ·obtain ⟨x,hx⟩:=Yg (l:=p.init) (k:=k) Zi
      have hxl:x∈l:=hpm.mem_iff.2 (expM_sub ((hS0.2 x).2 (Yh9.2 (Zm hx))))
      refine zW ?_;intros
      refine zI j2' hx (fun p1 hp1=>?_)
      refine zL hp1 ?_
      intro cs hcs
      obtain ⟨vx,rfl,hR⟩:=X6 hcs
      have hh:=rhas_q hsl hR
      rw [decide_eq_true hxl] at hh
      refine zW ?_;intros
      refine zc hh ?_
      refine zW ?_;intros
      exact Yz ⟨k+1,by omega,rfl,rfl,rfl,rfl⟩ Zi Zw Zb
     ·refine zW ?_;intros
      exact zR (h:=rfl)
abbrev StepM:=Bs × List Bs
def Yln:Lay StepM where
 size:=3
 rep:=fun fz x cs=>∃ va,cs=[.int .i64 0,.string x.1,va]∧Short x.1∧IsSl strL fz va x.2
 len:=fun h=>by obtain ⟨va,rfl,_⟩:=h;rfl
 mono:=fun hle h=>by obtain ⟨va,e,h1,h2⟩:=h;exact ⟨va,e,h1,h2.mono hle⟩
def YfI (n:Bs) (as_:List (List Bs)) (b:List Bool):List StepM:=((as_.zip b).filter (·.2)).map fun z=>(n,z.1)
def YdD (l:List Schema) (D:List (List Bool)):List StepM:=(l.zip D).flatMap fun z=>YfI z.1.name z.1.arguments z.2
theorem YcI {α β:Type}:∀ (k:Nat) (l:List α) (m:List β),(l.take k).zip (m.take k)=(l.zip m).take k
 | 0,_,_=>by simp
 | k+1,[],_=>by simp
 | k+1,_::_,[]=>by simp
 | k+1,a::l,b::m=>by simp [YcI k l m]
theorem YkM {l:List Schema} {D:List (List Bool)} {s:Schema} {b:List Bool} (hs:l[k]?=some s) (hb:D[k]?=some b):YdD (l.take (k+1)) (D.take (k+1))=YdD (l.take k) (D.take k)++YfI s.name s.arguments b:=by
 unfold YdD
 have hz:(l.zip D)[k]?=some (s,b):=by rw [List.getElem?_zip_eq_some];exact ⟨hs,hb⟩
 rw [YcI,YcI,List.take_add_one,hz]
 simp
variable {j:Nat}
theorem Yga {n:Bs} {l:List (List Bs)} {b:List Bool} {a:List Bs} {x:Bool} (ha:l[j]?=some a) (hx:b[j]?=some x):YfI n (l.take (j+1)) (b.take (j+1))=YfI n (l.take j) (b.take j)++(if x=true then [(n,a)] else []):=by
 unfold YfI
 have hz:(l.zip b)[j]?=some (a,x):=by rw [List.getElem?_zip_eq_some];exact ⟨ha,hx⟩
 rw [YcI,YcI,List.take_add_one,hz]
 cases x<;>simp
theorem Yh7 {n:Bs} {l:List (List Bs)} {b:List Bool}:(YfI n l b).length≤l.length:=by
 unfold YfI
 rw [List.length_map]
 refine Nat.le_trans (List.length_filter_le _ _) ?_
 rw [List.length_zip];omega
theorem Yh8:∀ (l:List Schema) (D:List (List Bool)),(YdD l D).length≤Ybf l
 | [],_=>by simp [YdD]
 | _::_,[]=>by simp [YdD]
 | s::l,b::D=>by
  have h1:=Yh8 l D
  have h2:=Yh7 (n:=s.name) (l:=s.arguments) (b:=b)
  have e:YdD (s::l) (b::D)=YfI s.name s.arguments b++YdD l D:=by simp [YdD]
  rw [e,List.length_append]
  unfold Ybf at*
  simp only [List.map_cons,List.sum_cons];omega
theorem YkH (l:List Schema) (k:Nat):Ybf (l.take k)≤Ybf l:=by
 unfold Ybf
 conv=>rhs;rw [← List.take_append_drop k l]
 rw [List.map_append,List.sum_append];omega
theorem step_one:OneC Yln:=by
 intro fz d cs h u hu
 obtain ⟨va,rfl,_,A,n,c,rfl,_⟩:=h
 simp at hu
 rcases hu with rfl | rfl | rfl<;>rfl
set_option maxHeartbeats 8000000 in
theorem insts_f (hM:MaxF fz) (hD:DomainR fz d v1 v2 v3 v4 v5 v6) (hP:ProblemR fz p u1 u2 u3 u4 u5 u6 u7) (hS:ChkS d p) (hA:(XQ d p).2=0→Apt d p):
 GFn prog 16 [.agg #[.string d.name,v1,v2,v3,v4,v5,v6],.agg #[.string p.name,.string p.domain,u1,u2,u3,.string p.goal.op,.string p.goal.name,u4,u5,u6,u7]] fz []
  (fun r fz' H'=>∃ S0,YmY S0 (Ye6 p.init)∧∃ v,r=.tuple #[v,errV (Ws d p S0)]∧(Ws d p S0≠0→v=.slice none 0 0∧H'=[])∧(Ws d p S0=0→∃ n,Grow Yln 71 fz' v n H' (YdD (schL (knM d p) d) (expM (knM d p) d S0).D))):=by
 have hD0:=hD
 have hP0:=hP
 obtain ⟨A1,n1,b1,rfl,i1⟩:=hD.types
 obtain ⟨A2,n2,b2,rfl,i2⟩:=hD.constants
 obtain ⟨A3,n3,b3,rfl,i3⟩:=hD.predicates
 obtain ⟨A4,n4,b4,rfl,i4⟩:=hD.functions
 obtain ⟨A5,n5,b5,rfl,i5⟩:=hD.actions
 obtain ⟨A6,n6,b6,rfl,i6⟩:=hD.duratives
 obtain ⟨B1,m1,d1,rfl,j1⟩:=hP.objects
 obtain ⟨B2,m2,d2,rfl,j2⟩:=hP.init
 obtain ⟨B3,m3,d3,rfl,j3⟩:=hP.values
 obtain ⟨B4,m4,d4,rfl,_⟩:=hP.goal.args
 obtain ⟨B5,m5,d5,rfl,_⟩:=hP.goal.params
 obtain ⟨B6,m6,d6,rfl,_⟩:=hP.goal.exprs
 obtain ⟨B7,m7,d7,rfl,_⟩:=hP.goal.kids
 refine zF Tryz.func16 Tryz.ntmps16 (fun w0=>?_)
 refine Yp (Yo (Ya Zz (YW _ Zz Zz (fun g2=>?_))))
 refine Ya Zz (YW _ Zz Zz (fun g3=>?_))
 refine zWO ?_;intros
 refine zV ?_;intros
 refine Ya Zz (Yn [] _ Zz Zz Zz (Yl0 hM hD0 hP0 hS (fun h=>(hA h).init)) (fun v4 fz4 H4 hle4 hR4=>?_))
 obtain ⟨rfl,vk,rfl,hkd⟩:=hR4
 by_cases hc:(XQ d p).2=0
 rotate_left 1
 ·rw [YG hc]
  refine zV ?_;intros
  exact ret2 rfl rfl rfl Zb ⟨Ye6 p.init,⟨Ye5 p.init,fun _=>Iff.rfl⟩,_,by rw [Ws,if_pos hc,YG hc];try rfl,fun _=>⟨rfl,rfl⟩,fun h=>absurd h (by rw [Ws,if_pos hc];exact hc)⟩
 ·rw [hc,show errV 0=.nilIface from rfl]
  have hap:=hA hc
  have hKD:=hkd hc
  refine zV ?_;intros
  refine Ya Zz (Yn [] _ Zz Zz Zz (Yil hKD hap.sch hap.os hap.sh) (fun v5 fz5 H5 hle5 hR5=>?_))
  obtain ⟨rfl,S0,hS0,vr,rfl,hrr⟩:=hR5
  have hE:Ws d p S0=expE (knM d p) d S0:=by rw [Ws,if_neg (by rw [hc];decide)]
  by_cases he:expE (knM d p) d S0=0
  rotate_left 1
  ·rw [YG he]
   refine zV ?_;intros
   exact ret2 rfl rfl rfl Zb ⟨S0,hS0,_,by rw [hE,YG he];try rfl,fun _=>⟨rfl,rfl⟩,fun h=>absurd h (by rw [hE];exact he)⟩
  ·rw [he,show errV 0=.nilIface from rfl]
   obtain ⟨gr,gs,vk',As,Ad,n,cS,cd,vb,m,gD,rfl,h1,h2,h3,h4,h5,h6,h7⟩:=(hrr he).ex
   have ln:=h4.len
   have sn:=h4.short
   refine zV ?_;intros
   have hE0:schE (knM d p) d=0:=by
    unfold expE at he
    by_cases h0:schE (knM d p) d=0
    ·exact h0
    ·rw [if_pos h0] at he;exact absurd he h0
   have hfit:FitR (schL (knM d p) d) (expM (knM d p) d S0).D:=(Yfn (K:=knM d p) (l:=schL (knM d p) d) _ (w:=⟨S0,exN0 (schL (knM d p) d),exN0 (schL (knM d p) d),false⟩) (Nat.lt_succ_self _) (Yc6 _) (Yc6 _)).2.2.1
   have hmany:Ybf (schL (knM d p) d)≤4096:=by
    unfold schE at hE0
    by_cases h0:4096<Ybf (schL (knM d p) d)
    ·rw [if_pos h0] at hE0;cases hE0
    ·omega
   have hlen:∀ s∈schL (knM d p) d,∀ a∈s.arguments,a.length≤2000000:=fun s hs a ha=>by
    obtain ⟨s0,h0,rfl⟩:=List.mem_map.1 hs
    have h1:=YjC hap.sch h0
    have e:a.length=s0.params.length:=YdL ha
    omega
   generalize hll:schL (knM d p) d=l at*
   generalize hDD:(expM (knM d p) d S0).D=D at*
   obtain ⟨hfl,hff⟩:=hfit
   refine Yi (fun q σ fz' H'=>∃ (k:Nat) (v:Value) (nn:Nat),k≤n∧q=n - k∧σ=[(36,.int .i64 k),(35,.int .i64 n),(34,.slice As n cS),(9,v),(8,.pointer (some ⟨gr,0,none⟩))]∧Le fz5 fz'∧Grow Yln 71 fz' v nn H' (YdD (l.take k) (D.take k))) ⟨0,_,0,Z0 _,rfl,rfl,Le.refl _,Grow.nil _ _ _⟩ Zw Zb ?_
   rintro q σ fz6 H6 ⟨k,v6,nn,hk,rfl,rfl,hle6,hG6⟩
   obtain ⟨A6,c6,rfl,_,_⟩:=hG6.form
   refine zW ?_;intros
   refine zC (fun c1=>?_) (fun c1=>?_)
   ·obtain ⟨s,hs⟩:=Yg (l:=l) (k:=k) Zi
    obtain ⟨b,hb⟩:=Yg (l:=D) (k:=k) Zi
    have hbl:=hff k s b hs hb
    refine zW ?_;intros
    refine zI (h4.mono hle6) hs (fun p1 hp1=>?_)
    refine zL hp1 ?_
    intro cs hcs
    obtain ⟨u0,u1,u2,u3,u4,u5,u6,u7,u8,u9,u10,u11,u12,u13,u14,u15,u16,u17,u18,u19,rfl,hR⟩:=WL hcs
    obtain ⟨P0,p0,q0,rfl,_⟩:=id hR.params
    obtain ⟨P1,p1,q1,rfl,_⟩:=id hR.start.args
    obtain ⟨P2,p2,q2,rfl,_⟩:=id hR.start.params
    obtain ⟨P3,p3,q3,rfl,_⟩:=id hR.start.exprs
    obtain ⟨P4,p4,q4,rfl,_⟩:=id hR.start.kids
    obtain ⟨P5,p5,q5,rfl,_⟩:=id hR.all.args
    obtain ⟨P6,p6,q6,rfl,_⟩:=id hR.all.params
    obtain ⟨P7,p7,q7,rfl,_⟩:=id hR.all.exprs
    obtain ⟨P8,p8,q8,rfl,_⟩:=id hR.all.kids
    obtain ⟨P9,p9,q9,rfl,_⟩:=id hR.over.args
    obtain ⟨P10,p10,q10,rfl,_⟩:=id hR.over.params
    obtain ⟨P11,p11,q11,rfl,_⟩:=id hR.over.exprs
    obtain ⟨P12,p12,q12,rfl,_⟩:=id hR.over.kids
    obtain ⟨P13,p13,q13,rfl,_⟩:=id hR.fin.args
    obtain ⟨P14,p14,q14,rfl,_⟩:=id hR.fin.params
    obtain ⟨P15,p15,q15,rfl,_⟩:=id hR.fin.exprs
    obtain ⟨P16,p16,q16,rfl,_⟩:=id hR.fin.kids
    obtain ⟨P17,p17,q17,rfl,_⟩:=id hR.early
    obtain ⟨P18,p18,q18,rfl,_⟩:=id hR.late
    obtain ⟨P19,p19,q19,rfl,iar⟩:=id hR.arguments
    have lar:=iar.len
    have sar:=iar.short
    refine Ya Zz (YX T Zz Zz (fun ga=>?_))
    refine zW ?_;intros
    refine Yi (fun q σ fz' H'=>∃ (j:Nat) (v:Value) (mm:Nat) (Hs:HP),j≤p19∧q=p19 - j∧σ=[(44,.int .i64 j),(43,.int .i64 p19),(42,.slice P19 p19 q19),(36,.int .i64 k),(35,.int .i64 n),(34,.slice As n cS),(11,.pointer (some ⟨ga,0,none⟩)),(10,.int .i64 k),(9,v),(8,.pointer (some ⟨gr,0,none⟩))]∧Le fz6 fz'∧H'=(ga,.cells #[.string s.name,.slice P0 p0 q0,.string s.start.op,.string s.start.name,.slice P1 p1 q1,.slice P2 p2 q2,.slice P3 p3 q3,.slice P4 p4 q4,.string s.all.op,.string s.all.name,.slice P5 p5 q5,.slice P6 p6 q6,.slice P7 p7 q7,.slice P8 p8 q8,.string s.over.op,.string s.over.name,.slice P9 p9 q9,.slice P10 p10 q10,.slice P11 p11 q11,.slice P12 p12 q12,.string s.fin.op,.string s.fin.name,.slice P13 p13 q13,.slice P14 p14 q14,.slice P15 p15 q15,.slice P16 p16 q16,.slice P17 p17 q17,.slice P18 p18 q18,.bool s.count,.slice P19 p19 q19] 111 (0,0))::Hs∧Grow Yln 71 fz' v mm Hs (YdD (l.take k) (D.take k)++YfI s.name (s.arguments.take j) (b.take j))) ⟨0,_,nn,H6,Z0 _,rfl,rfl,Le.refl _,rfl,by simpa [YfI] using hG6⟩ Zw Zb ?_
    rintro q σ fz7 H' ⟨j,v7,mm,H7,hj,rfl,rfl,hle7,rfl,hG7⟩
    obtain ⟨A7,c7,rfl,_,_⟩:=hG7.form
    have hx7:=hle6.trans hle7
    refine zW ?_;intros
    refine zC (fun c2=>?_) (fun c2=>?_)
    ·obtain ⟨a,ha⟩:=Yg (l:=s.arguments) (k:=j) Zi
     obtain ⟨x,hx⟩:=Yg (l:=b) (k:=j) Zi
     have hgl:gD.length=n:=h6
     obtain ⟨gg,hgg⟩:=Yg (l:=gD) (k:=k) Zi
     have hz:(gD.zip (l.map fun s=>s.arguments.length))[k]?=some (gg,p19):=by
      rw [List.getElem?_zip_eq_some]
      refine ⟨hgg,?_⟩
      rw [List.getElem?_map,hs]
      exact congrArg some lar
     have hfg:fz7 gg=some (.cells (b.map Value.bool).toArray 4 (0,0)):=hx7 _ _ (h7 _ (Zm (YeC hgg hb)))
     refine zW ?_;intros
     refine zI (iar.mono hle7) ha (fun p1 hp1=>?_)
     ((refine zG ?_);refine YaJ T Zz Zz Zz hp1 (fun Ay ny cy hy=>?_))
     have ly:=hy.len
     have sy:=hy.short
     have hgr7:=hx7 _ _ h1
     refine zV ?_;intros
     refine zI (h5.mono hx7) hz (fun p2 hp2=>?_)
     refine zG ?_;refine Y8 T Zz Zz Zz hp2 ?_
     refine zW ?_;intros
     refine zG ?_;refine Ys (z:=1) T Zz Zz Zz Zz Zz rfl Zi Zi ?_
     refine zG ?_;refine Yb1 T Zz Zz Zz hfg (WI hx) ?_
     cases x with
     | false=>
      refine zW ?_;intros
      exact Yz ⟨j+1,_,mm,H7,by omega,rfl,rfl,hle7,rfl,hG7.of (by rw [Yga ha hx];simp) rfl⟩ Zi Zw Zb
     | true=>
      have hlen7:mm≤8192:=by
       have e7:=hG7.len
       have b1:=Yh8 (l.take k) (D.take k)
       have b2:=YkH l k
       have b3:=Yh7 (n:=s.name) (l:=s.arguments.take j) (b:=b.take j)
       have b4:s.arguments.length≤Ybf l:=Ydm (f:=fun s:Schema=>s.arguments.length) (Zm hs)
       rw [List.length_append] at e7
       rw [List.length_take] at b3
       omega
      have hny:ny≤2000000:=by rw [← ly];exact hlen s (Zm hs) a (Zm ha)
      refine zWN ?_;intros
      refine Wp.drawK (Hq:=[(ga,_)]) T.mixed Zj Zj Zb ?_
      refine zW ?_;intros
      refine Yc ?_
      refine Yc ?_
      refine Yc ?_
      refine Yc ?_
      refine Yc ?_
      refine YF ⟨by kernel_rfl,?_⟩
      refine Yl (Yn [] ((ga,_)::H7) Zz Zz Zz (Yep hy Zi) (fun v8 fz8 H8 hle8 hR8=>?_))
      obtain ⟨A8,c8,rfl,_,_⟩:=hR8.form
      refine ⟨⟨hle8,fun p hp=>List.mem_append_right _ (by simp at hp;subst hp;exact .head _)⟩,?_⟩
      refine Ch.qk ⟨hle8,fun p hp=>List.mem_append_right _ (by simp at hp;subst hp;exact .head _)⟩ (X2 T Zz Zz Zz Zz Zz ?_)
      refine Yl (Does.freeze (H1:=(ga,_)::H7) (H2:=H8) Zq (fun fz9 hle9 hf9=>?_))
      obtain ⟨B8,d8,e8,hS8⟩:=hR8.sl hle9 hf9 Zi
      injection e8 with e81 e82 e83
      subst e81;subst e83
      refine Yd T (cs:=[.int .i64 0,.string s.name,.slice A8 ny c8]) Zz Zz Zz Zz Zz Zz Zz Zz (fun gb=>⟨⟨hle8.trans hle9,fun p hp=>by simp at hp;subst hp;simp⟩,?_⟩)
      refine Yl (YN T (Hr:=(gb,_)::(ga,_):: []) (d:=(s.name,a)) Zz Zz Zz Zz Zz Zz Zz Zz (Zr _) (hG7.mono (hle8.trans hle9)) step_one (.head _) ⟨_,rfl,hR.name,_,_,_,rfl,hS8⟩ (by show _*48≤_;omega) Zi (fun v10 H10 hO10=>⟨⟨hle8.trans hle9,fun p hp=>by simp at hp;subst hp;simp⟩,?_⟩))
      obtain ⟨A10,c10,rfl,_,_⟩:=hO10.form
      refine Ch.qk ⟨hle8.trans hle9,fun p hp=>by simp at hp;subst hp;simp⟩ (YD Zz ?_)
      refine Ch.done ?_
      refine zW ?_;intros
      exact Yz ⟨j+1,_,mm+1,H10,by omega,rfl,rfl,hle7.trans (hle8.trans hle9),rfl,hO10.of (by rw [Yga ha hx,if_pos rfl,List.append_assoc]) rfl⟩ Zi Zw (List.Sublist.cons _ (List.Sublist.refl _))
    ·have hj2:j=p19:=by omega
     subst hj2
     rw [Zl (show s.arguments.length≤j by omega),Zl (show b.length≤j by omega),← YkM hs hb] at hG7
     refine zW ?_;intros
     exact Yz ⟨k+1,_,mm,by omega,rfl,rfl,hx7,hG7⟩ Zi Zw (List.Sublist.cons _ (List.Sublist.refl _))
   ·have hk2:k=n:=by omega
    subst hk2
    rw [Zl Zi,Zl Zi] at hG6
    refine zW ?_;intros
    exact ret2 rfl rfl rfl Zb ⟨S0,hS0,_,by rw [hE,he];rfl,fun h=>absurd (by rw [hE];exact he) h,fun _=>⟨nn,by first | exact hG6 | (rw [hDD];exact hG6)⟩⟩
end Go.Proofs.YtbnpeechpebmeaaGreatDoor
