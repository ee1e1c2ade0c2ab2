/- The texts YQ, RH, RI, RJ, RK, laid together. Conditions: none. -/
import Derived.Test.YtfjopfinkdhmaaaGreatDoorRZO
set_option linter.all false
noncomputable section
set_option maxRecDepth 20000
namespace Go.Proofs.YtfjopfinkdhmaaaGreatDoor
open Go.Lx Go.RowKit
attribute [local instance 10] Classical.propDecidable
theorem get_l {t:Bs} {a:Nat}:t[a]?=t.data.toList[a]?:=by
 by_cases ha:a<t.size
 ·rw [Ye7 ha,getElem?_pos t a ha]
 rw [getElem?_neg t a ha,List.getElem?_eq_none (by rw [YaF];omega)]
theorem ext_l {t:Bs} {a e:Nat}:(t.extract a e).data.toList=(t.data.toList.drop a).take (e - a):=by
 rw [ByteArray.data_extract,Array.toList_extract,List.extract_eq_take_drop]
theorem ba_e {s t:Bs} (h:s.data.toList=t.data.toList):s=t:=by
 cases s;cases t;simp only at h;rw [Array.toList_inj] at h;rw [h]
theorem drop_at {t:Bs} {a:Nat} {s r:List UInt8} (h:t.data.toList.drop a=s++r):t.data.toList.drop (a+s.length)=r:=by
 rw [<- List.drop_drop,h,List.drop_left]
theorem get_at {t:Bs} {a:Nat} {b:UInt8} {r:List UInt8} (h:t.data.toList.drop a=b::r):t[a]?=some b:=by
 rw [get_l,<- Nat.add_zero a,<- List.getElem?_drop,h];rfl
theorem Yie:∀ {s:List UInt8} {b:UInt8} {r:List UInt8},(∀ c∈s,SepP c.toNat)->¬SepP b.toNat->b≠59->YaJ false (s++b::r)=s.length
 | [],b,r,_,h1,h2=>by rw [List.nil_append,YaJ,if_neg h1,if_neg h2];rfl
 | c::s,b,r,h,h1,h2=>by
  rw [List.cons_append,YaJ,if_pos (h c (by simp)),Yie (fun d hd=>h d (by simp [hd])) h1 h2,List.length_cons];omega
theorem Yd8 {t:Bs} {a:Nat} {s r:List UInt8} {b:UInt8} (h:t.data.toList.drop a=s++b::r) (hs:∀ c∈s,SepP c.toNat) (h1:¬SepP b.toNat) (h2:b≠59):XY false t a=a+s.length:=by
 rw [XY,h,Yie hs h1 h2]
theorem YkA:∀ {s:List UInt8},(∀ c∈s,SepP c.toNat)->YaJ false s=s.length
 | [],_=>by rw [YaJ];rfl
 | c::s,h=>by rw [YaJ,if_pos (h c (by simp)),YkA (fun d hd=>h d (by simp [hd])),List.length_cons];omega
def StopL:List UInt8->Prop
 | []=>True
 | b::_=>StopP b
theorem Ykv:∀ {w r:List UInt8},(∀ b∈w,¬StopP b)->StopL r->tokL (w++r)=w.length
 | [],[],_,_=>rfl
 | [],b::r,_,h=>by
  have h:StopP b:=h;rw [List.nil_append,tokL,if_pos h];rfl
 | c::w,r,h,h2=>by
  rw [List.cons_append,tokL,if_neg (h c (by simp)),Ykv (fun b hb=>h b (by simp [hb])) h2,List.length_cons];omega
theorem Yku {s:Bs} {p:Int × Int} (h:WordT s):tokX s p=.ok (.mk 1 0 p.1 p.2 s []):=by
 have h1:=Yhw.2 ⟨h.1,h.2.1,h.2.2.1⟩;rw [tokX,if_neg h.2.2.2,if_pos h1.1,h1.2]
variable {k n:Nat}
theorem YbO {t:Bs} {f a:Nat} {st:List Lev} (hk:XY false t a=k) (hb:t[k]?=some 40) (hs:st.length<=32) (hn:n<4096):YaM t (f+1) a n st=YaM t f (k+1) (n+1) (⟨3,(posA t k).1,(posA t k).2,[]⟩::st):=by
 have hl:k<t.size:=by
  rcases Nat.lt_or_ge k t.size with h | h
  ·exact h
  rw [getElem?_neg t k Zi] at hb;cases hb
 rw [Yay,hk,if_neg Zi];unfold YcF;rw [hb];simp only [if_true];rw [if_neg Zi]
theorem Ya7 {t:Bs} {f a:Nat} {e e2:Lev} {st:List Lev} (hk:XY false t a=k) (hb:t[k]?=some 41):YaM t (f+1) a n (e::e2::st)=YaM t f (k+1) n (e2.add e.x::st):=by
 have hl:k<t.size:=by
  rcases Nat.lt_or_ge k t.size with h | h
  ·exact h
  rw [getElem?_neg t k Zi] at hb;cases hb
 rw [Yay,hk,if_neg Zi];unfold YcF;rw [hb];simp only [if_neg (show ¬(41:UInt8)=40 by decide),if_true]
theorem read_tok {t:Bs} {f a e:Nat} {b:UInt8} {s:Bs} {X:Sexpr} {e0:Lev} {st:List Lev} (hk:XY false t a=k) (hb:t[k]?=some b) (h1:b≠40) (h2:b≠41) (he:tokE t k=e) (hs:t.extract k e=s) (hw:tokX s (posA t k)=.ok X) (hn:n<4096):
 YaM t (f+1) a n (e0::st)=YaM t f e (n+1) (e0.add X::st):=by
 have hl:k<t.size:=by
  rcases Nat.lt_or_ge k t.size with h | h
  ·exact h
  rw [getElem?_neg t k Zi] at hb;cases hb
 rw [Yay,hk,if_neg Zi];unfold YcF;rw [hb];simp only [if_neg h1,if_neg h2];rw [tokM,he,hs,hw];simp only;rw [if_neg Zi];rfl
theorem Yhc {t:Bs} {f a:Nat} {st:List Lev} (h:t.size<=XY false t a):YaM t (f+1) a n st=endM st:=by
 rw [Yay,if_pos h]
theorem Ygw {t:Bs} {a:Nat} {s w rest:List UInt8} {X:Int × Int->Sexpr} {e0:Lev} {st:List Lev} (hs:∀ c∈s,SepP c.toNat) (h:t.data.toList.drop a=s++(w++rest)) (hr:StopL rest) (hw:∀ b∈w,¬StopP b) (hne:w≠ [])
 (hX:∀ p,tokX (strOf w) p=.ok (X p)) (hn:n<4096):
 ∃ p,∀ f,YaM t (f+1) a n (e0::st)=YaM t f (a+(s++w).length) (n+1) (e0.add (X p)::st):=by
 cases w with
 | nil=>exact absurd rfl hne
 | cons b w=>
  have hb:=hw b (by simp);have hk:=Yd8 (r:=w++rest) h hs (fun h=>hb (.inl h)) (fun h=>hb (.inr (.inr (.inr h))));have hd:=drop_at h;refine ⟨_,fun f=>read_tok hk (get_at hd) (fun h=>hb (.inr (.inl h))) (fun h=>hb (.inr (.inr (.inl h)))) ?_ ?_ (hX _) hn⟩
  ·rw [tokE,hd,Ykv hw hr,List.length_append];omega
  refine ba_e ?_;rw [ext_l,hd,X8,List.length_append,show a+(s.length+(b::w).length) - (a+s.length)=(b::w).length by omega,List.take_left]
theorem YdN (h:k<10):(UInt8.ofNat (48+k)).toNat=48+k:=by
 rw [UInt8.toNat_ofNat'];omega
theorem Yf0:∀ (u:Nat),∀ b∈Lib.decDigits u,DigP b.toNat:=fun u=>by
 induction u using Nat.strongRecOn with
 | _ u ih=>
  intro b hb;rw [Lib.decDigits] at hb;split at hb
  ·rename_i h;simp only [List.mem_singleton] at hb;subst hb;rw [YdN h];unfold DigP;omega
  rename_i h;rcases List.mem_append.1 hb with hb | hb
  ·exact ih _ Zi b hb
  simp only [List.mem_singleton] at hb;subst hb;rw [YdN (Nat.mod_lt _ Zh)];unfold DigP;omega
theorem YnV (u:Nat):Lib.decDigits u≠ []:=by
 rw [Lib.decDigits];split<;>simp
theorem Yh8:∀ (l:List UInt8) (b:UInt8) (n m:Nat),valD l n=some m->10*m+(b.toNat - 48)<=1099511627776->valD (l++ [b]) n=some (10*m+(b.toNat - 48))
 | [],b,n,m,h,hb=>by
  rw [valD] at h;injection h with h;subst h
  rw [List.nil_append,valD,if_neg Zi,valD]
 | c::l,b,n,m,h,hb=>by
  rw [valD] at h;rw [List.cons_append,valD];split at h
  ·cases h
  rename_i h1;rw [if_neg h1];exact Yh8 l b _ m h hb
theorem Ykp (u:Nat):u<=1099511627776->valD (Lib.decDigits u) 0=some u:=by
 induction u using Nat.strongRecOn with
 | _ u ih=>
  intro hu;rw [Lib.decDigits];split
  ·rename_i h;rw [valD,YdN h,if_neg Zi,valD]
   congr 1;omega
  rename_i h;have h1:=ih (u / 10) Zi Zi;have h2:(UInt8.ofNat (48+u % 10)).toNat=48+u % 10:=YdN (Nat.mod_lt _ Zh);rw [Yh8 _ _ _ _ h1 (by rw [h2];omega),h2]
  congr 1;omega
theorem YmM (l:List UInt8):PreP (strOf (45::l)) Wm:=by
 refine ⟨by rw [XF];show 1<=_;simp,?_⟩;refine ba_e ?_;rw [ext_l,X8];rfl
theorem Ykt (l:List UInt8):W6 (strOf (45::l)) Wm=strOf l:=by
 rw [W6,if_pos (YmM l)];refine ba_e ?_;rw [ext_l,X8,X8,XF];show ((45::l).drop 1).take _=l;rw [List.drop_one,List.tail_cons,Zl (by show _<=(45::l).length - 1;simp)]
theorem pre_dig {l:List UInt8} (h:∀ b∈l,DigP b.toNat):¬PreP (strOf l) Wm:=by
 rintro ⟨h1,h2⟩;have h3:=congrArg (fun x:Bs=>x.data.toList) h2;simp only [ext_l,X8] at h3;cases l with
 | nil=>cases h3
 | cons b r=>
  have h4:b::([]:List UInt8)=[45]:=h3;injection h4 with h4 _
  have:=h b (by simp);subst h4;unfold DigP at this;exact absurd this.1 Zh
theorem Yle {l:List UInt8} (h:∀ b∈l,DigP b.toNat) (hne:l≠ []):(∀ i,i<(strOf l).size->DigP (Yap (strOf l) i))/\strOf l≠kEmpty:=by
 refine ⟨fun i hi=>?_,fun h2=>hne ?_⟩
 ·obtain ⟨b,hb,hb2⟩:=Wa hi;rw [hb2];rw [get_l,X8] at hb;exact h b (Zm hb)
 have:=congrArg (fun x:Bs=>x.data.toList) h2;simpa [X8,kEmpty] using this
theorem tok_num {v:Int} {p:Int × Int} (h:NumOk v):tokX (strOf (Lib.itoa v)) p=.ok (.mk 2 v p.1 p.2 ⟨#[]⟩ []):=by
 unfold NumOk at h;rw [Lib.itoa];by_cases hv:v<0
 ·rw [if_pos hv];have hn:NumP (strOf (45::Lib.decDigits v.natAbs)):=by
   unfold NumP;rw [Ykt];exact Yle (Yf0 _) (YnV _)
  have hval:numS (strOf (45::Lib.decDigits v.natAbs))=some v:=by
   rw [numS,Ykt,X8,Ykp _ Zi];show some (if PreP (strOf (45::Lib.decDigits v.natAbs)) Wm then -(v.natAbs:Int) else (v.natAbs:Int))=some v;rw [if_pos (YmM _)];have h5: -(v.natAbs:Int)=v:=by omega
   rw [h5]
  rw [tokX,if_pos hn,hval]
 rw [if_neg hv];have hp:=pre_dig (Yf0 v.toNat);have ht:W6 (strOf (Lib.decDigits v.toNat)) Wm=strOf (Lib.decDigits v.toNat):=by rw [W6,if_neg hp]
 have hn:NumP (strOf (Lib.decDigits v.toNat)):=by
  unfold NumP;rw [ht];exact Yle (Yf0 _) (YnV _)
 have hval:numS (strOf (Lib.decDigits v.toNat))=some v:=by
  rw [numS,ht,X8,Ykp _ Zi];show some (if PreP (strOf (Lib.decDigits v.toNat)) Wm then -(v.toNat:Int) else (v.toNat:Int))=some v;rw [if_neg hp];have h5:(v.toNat:Int)=v:=by omega
  rw [h5]
 rw [tokX,if_pos hn,hval]
theorem Ym9 {b:UInt8} (h:LowC b):¬StopP b:=by
 unfold LowC LetP DigP SymL at h;have k:∀ c:UInt8,b=c->b.toNat=c.toNat:=fun c h=>by rw [h]
 rintro (h2 | h2 | h2 | h2)
 ·unfold SepP at h2;rcases h with h | h | h
  ·omega
  ·omega
  simp only [List.mem_cons,List.not_mem_nil,or_false] at h;rcases h with rfl | rfl | rfl | rfl | rfl | rfl | rfl | rfl | rfl<;>revert h2<;>decide
 all_goals
  subst h2;revert h;decide
theorem dig_go {b:UInt8} (h:DigP b.toNat):¬StopP b:=Ym9 (.inr (.inl h))
theorem itoa_go {v:Int}:∀ b∈Lib.itoa v,¬StopP b:=by
 intro b hb;rw [Lib.itoa] at hb;split at hb
 ·rcases List.mem_cons.1 hb with rfl | hb
  ·exact Ym9 (.inr (.inr Zh))
  exact dig_go (Yf0 _ b hb)
 exact dig_go (Yf0 _ b hb)
theorem Ynl (v:Int):Lib.itoa v≠ []:=by
 rw [Lib.itoa];split
 ·simp
 exact YnV _
def nopl:Sexpr->Sexpr
 | .mk k v _ _ t ks=>.mk k v 0 0 t (noplL ks)
where noplL:List Sexpr->List Sexpr
 | []=>[]
 | x::r=>nopl x::noplL r
theorem YiK:∀ (l:List Sexpr),nopl.noplL l=l.map nopl
 | []=>rfl
 | x::r=>by rw [nopl.noplL,YiK r];rfl
theorem YcC (x:Sexpr):nopl x=.mk x.kind x.value 0 0 x.text (x.kids.map nopl):=by
 cases x;rw [nopl,YiK];rfl
mutual
inductive Wr:Sexpr->List UInt8->Prop
 | word {x:Sexpr}:x.kind=1->WordT x.text->x.value=0->x.kids=[]->Wr x x.text.data.toList
 | num {x:Sexpr}:x.kind=2->x.text=kEmpty->x.kids=[]->NumOk x.value->Wr x (Lib.itoa x.value)
 | list {x:Sexpr} {m:List UInt8}:x.kind=3->x.text=kEmpty->x.value=0->WrL x.kids m->Wr x (40::(m++ [41]))
inductive WrL:List Sexpr->List UInt8->Prop
 | nil:WrL [] []
 | cons {x:Sexpr} {r:List Sexpr} {s l m:List UInt8}:(∀ c∈s,SepP c.toNat)->Wr x l->WrL r m->StopL m->WrL (x::r) (s++(l++m))
end
def RdX (t:Bs) (x:Sexpr) (l:List UInt8):Prop:=∀ (s rest:List UInt8) (a n:Nat) (e:Lev) (st:List Lev),(∀ c∈s,SepP c.toNat)->t.data.toList.drop a=s++(l++rest)->StopL rest->n+xcount x<=4096->st.length+xdepth x<=32->
 ∃ x' k,nopl x'=nopl x/\k<=l.length/\∀ f,YaM t (f+k) a n (e::st)=YaM t f (a+(s++l).length) (n+xcount x) (e.add x'::st)
def RdL (t:Bs) (ks:List Sexpr) (m:List UInt8):Prop:=∀ (rest:List UInt8) (a n:Nat) (e:Lev) (st:List Lev),t.data.toList.drop a=m++rest->StopL rest->n+xcountL ks<=4096->st.length+xdepthL ks<=32->
 ∃ ks' k,ks'.map nopl=ks.map nopl/\k<=m.length/\∀ f,YaM t (f+k) a n (e::st)=YaM t f (a+m.length) (n+xcountL ks) ({e with kids:=e.kids++ks'}::st)
theorem wr_rd {t:Bs} {x:Sexpr} {l:List UInt8} (h:Wr x l):RdX t x l:=by
 refine @Wr.rec (fun x l _=>RdX t x l) (fun ks m _=>RdL t ks m) ?_ ?_ ?_ ?_ ?_ x l h
 ·intro x h1 h2 h3 h4 s rest a n e st hs hd hr hn hst;have hc:xcount x=1:=by rw [Y4,h4];rfl
  have hwne:x.text.data.toList≠ []:=fun h=>h2.1 (ba_e (by rw [h];rfl))
  obtain ⟨p,hp⟩:=Ygw (n:=n) (e0:=e) (st:=st) hs hd hr (fun b hb=>Ym9 (h2.2.2.1 b hb)) hwne (X:=fun p=>.mk 1 0 p.1 p.2 x.text []) (fun p=>by rw [Yky];exact Yku h2) Zi;refine ⟨_,1,?_,?_,fun f=>by rw [hc];exact hp f⟩
  ·rw [YcC,YcC x,h1,h3,h4];rfl
  cases hx:x.text.data.toList with
  | nil=>exact absurd hx hwne
  | cons b r=>simp
 ·intro x h1 h2 h3 h4 s rest a n e st hs hd hr hn hst;have hc:xcount x=1:=by rw [Y4,h3];rfl
  obtain ⟨p,hp⟩:=Ygw (n:=n) (e0:=e) (st:=st) hs hd hr itoa_go (Ynl _) (X:=fun p=>.mk 2 x.value p.1 p.2 ⟨#[]⟩ []) (fun p=>tok_num h4) Zi;refine ⟨_,1,?_,?_,fun f=>by rw [hc];exact hp f⟩
  ·rw [YcC,YcC x,h1,h2,h3];rfl
  have:=Ynl x.value;cases hx:Lib.itoa x.value with
  | nil=>exact absurd hx this
  | cons b r=>simp
 ·intro x m h1 h2 h3 h4 ih s rest a n e st hs hd hr hn hst;have hc:=Y4 x;have hdp:=Ybd x;rw [if_pos h1] at hdp;have hd1:t.data.toList.drop a=s++40::(m++(41::rest)):=by rw [hd];simp
  have hk:=Yd8 hd1 hs (by unfold SepP;decide) Zh;have hd2:=drop_at hd1;have hd3:t.data.toList.drop (a+s.length+1)=m++(41::rest):=drop_at (s:=[40]) hd2;have hd4:=drop_at hd3;obtain ⟨ks',k,i1,i2,i3⟩:=ih (41::rest) (a+s.length+1) (n+1) ⟨3,(posA t (a+s.length)).1,(posA t (a+s.length)).2,[]⟩ (e::st) hd3 (.inr (.inr (.inl rfl))) Zi (by rw [List.length_cons];omega);refine ⟨.mk 3 0 (posA t (a+s.length)).1 (posA t (a+s.length)).2 ⟨#[]⟩ ks',k+2,?_,?_,?_⟩
  ·rw [YcC,YcC x,h1,h2,h3];show Sexpr.mk 3 0 0 0 ⟨#[]⟩ (ks'.map nopl)=_;rw [i1];rfl
  ·simp only [List.length_cons,List.length_append,List.length_nil];omega
  intro f;have hk2:XY false t (a+s.length+1+m.length)=a+s.length+1+m.length:=by
   have:=Yd8 (s:=[]) (r:=rest) (b:=41) hd4 (by simp) (by unfold SepP;decide) Zh;simpa using this
  rw [show f+(k+2)=(f+1+k)+1 by omega,YbO hk (get_at hd2) (by rw [List.length_cons];omega) Zi,i3,Ya7 hk2 (get_at hd4)];have e1:a+s.length+1+m.length+1=a+(s++40::(m++ [41])).length:=by simp only [List.length_cons,List.length_append,List.length_nil];omega
  have e2:n+1+xcountL x.kids=n+xcount x:=by omega
  rw [e1,e2];rfl
 ·intro rest a n e st hd hr hn hst;refine ⟨[],0,rfl,Z0 _,fun f=>?_⟩;rw [List.append_nil];rfl
 intro x r s l m hs h1 h2 h3 ih1 ih2 rest a n e st hd hr hn hst;have hc:xcountL (x::r)=xcount x+xcountL r:=rfl;have hdp:xdepthL (x::r)=max (xdepth x) (xdepthL r):=rfl;have hd1:t.data.toList.drop a=s++(l++(m++rest)):=by rw [hd];simp
 have hst1:StopL (m++rest):=by
  cases m with
  | nil=>exact hr
  | cons b m=>exact h3
 have hd2:t.data.toList.drop (a+(s++l).length)=m++rest:=drop_at (by rw [hd1];simp);obtain ⟨x',k1,i1,i2,i3⟩:=ih1 s (m++rest) a n e st hs hd1 hst1 Zi Zi;obtain ⟨ks',k2,j1,j2,j3⟩:=ih2 rest (a+(s++l).length) (n+xcount x) (e.add x') st hd2 hr Zi Zi;refine ⟨x'::ks',k1+k2,by rw [List.map_cons,List.map_cons,i1,j1],by simp only [List.length_append] at*;omega,fun f=>?_⟩;rw [show f+(k1+k2)=f+k2+k1 by omega,i3,j3];have e1:a+(s++l).length+m.length=a+(s++(l++m)).length:=by simp only [List.length_append];omega
 have e2:n+xcount x+xcountL r=n+xcountL (x::r):=by omega
 rw [e1,e2];show YaM t f _ _ ({e with kids:=e.kids++ [x']++ks'}::st)=_;rw [List.append_assoc];rfl
theorem num_sep (i:Nat):∀ c∈List.replicate i (32:UInt8),SepP c.toNat:=fun c hc=>by
 rw [List.eq_of_mem_replicate hc];exact .inl rfl
theorem YlV:∀ {ks:List Sexpr},(∀ k∈ks,Wr k (txt k))->WrL ks (Lib.joinTail [32] (ks.map txt))/\StopL (Lib.joinTail [32] (ks.map txt))
 | [],_=>⟨.nil,trivial⟩
 | k::r,h=>by
  have hr:=YlV (ks:=r) (fun j hj=>h j (by simp [hj]));have e:Lib.joinTail [32] ((k::r).map txt)=[32]++(txt k++Lib.joinTail [32] (r.map txt)):=rfl;rw [e];exact ⟨.cons (by intro c hc;simp at hc;subst hc;exact .inl rfl) (h k (by simp)) hr.1 hr.2,.inl (.inl rfl)⟩
theorem wr_leaf {x:Sexpr} (h:YeA x) (hk:x.kind≠3):Wr x (txt x):=by
 rw [Yl9];rcases h with ⟨h1,h2,h3,h4⟩ | ⟨h1,h2,h3,h4⟩ | ⟨h1,_⟩
 ·rw [if_pos h1];exact .word h1 h2 h3 h4
 ·rw [if_neg Zi,if_pos h1];exact .num h1 h2 h3 h4
 exact absurd h1 hk
theorem wr_txt:∀ (s:Nat) {x:Sexpr},SizeOf.sizeOf x<=s->XOk x->Wr x (txt x)
 | 0,x,hs,_=>by cases x;simp at hs
 | s+1,x,hs,h=>by
  have hN:=Y2.1 h;by_cases hk:x.kind=3
  ·have hN1:=hN.1;rcases hN1 with ⟨h1,_⟩ | ⟨h1,_⟩ | ⟨h1,h2,h3⟩
   ·omega
   ·omega
   rw [Yl9,if_neg Zi,if_neg Zi];have hks:∀ k∈x.kids,Wr k (txt k):=fun k hk=>wr_txt s (by have:=Sexpr.kids_lt hk;omega) (hN.2 k hk)
   refine .list h1 h2 h3 ?_;cases hx:x.kids with
   | nil=>exact .nil
   | cons k r=>
    rw [hx] at hks;have ht:=YlV (ks:=r) (fun j hj=>hks j (by simp [hj]));rw [List.map_cons,Lib.join_cons];exact .cons (s:=[]) (by simp) (hks k (by simp)) ht.1 ht.2
  exact wr_leaf hN.1 hk
theorem YlW {w:Nat}:∀ {ks:List Sexpr} {i:Nat},(∀ k∈ks,Wr k (lay w k i))->WrL ks (layT w ks i)/\StopL (layT w ks i)
 | [],_,_=>⟨.nil,trivial⟩
 | k::r,i,h=>by
  have hr:=YlW (w:=w) (ks:=r) (i:=i) (fun j hj=>h j (by simp [hj]));have e:layT w (k::r) i=(10::List.replicate i 32)++(lay w k i++layT w r i):=by rw [layT];simp
  rw [e];refine ⟨.cons (fun c hc=>?_) (h k (by simp)) hr.1 hr.2,.inl (.inr (.inr (.inr rfl)))⟩;rcases List.mem_cons.1 hc with rfl | hc
  ·exact .inr (.inr (.inr rfl))
  exact num_sep i c hc
theorem wr_lay {w:Nat}:∀ (s:Nat) {x:Sexpr} {i:Nat},SizeOf.sizeOf x<=s->XOk x->Wr x (lay w x i)
 | 0,x,_,hs,_=>by cases x;simp at hs
 | s+1,x,i,hs,h=>by
  by_cases hf:x.kind≠3\/x.kids.length=0\/i+(txt x).length<=w
  ·rw [YdO hf];exact wr_txt _ (Zs _) h
  rw [YkV hf];have hN:=Y2.1 h;have hk:x.kind=3:=Classical.byContradiction fun h=>hf (.inl h)
  have hN1:=hN.1;rcases hN1 with ⟨h1,_⟩ | ⟨h1,_⟩ | ⟨h1,h2,h3⟩
  ·omega
  ·omega
  refine .list h1 h2 h3 ?_;have hks:∀ j,∀ k∈x.kids,Wr k (lay w k j):=fun j k hk=>wr_lay s (by have:=Sexpr.kids_lt hk;omega) (hN.2 k hk)
  cases hx:x.kids with
  | nil=>exact .nil
  | cons k r=>
   rw [hx] at hks;have ht:=YlW (w:=w) (ks:=r) (i:=i+2) (fun j hj=>hks _ j (by simp [hj]));rw [layH];exact .cons (s:=[]) (by simp) (hks _ k (by simp)) ht.1 ht.2
theorem read_lay {x:Sexpr} (h:XVal x) (hl:(lay 80 x 0++ [10]).length<=65536):∃ x',nopl x'=nopl x/\YdH (strOf (lay 80 x 0++ [10]))=.ok [x']:=by
 have hd:(strOf (lay 80 x 0++ [10])).data.toList.drop 0=[]++(lay 80 x 0++ [10]):=by rw [X8];rfl
 obtain ⟨x',k,h1,h2,h3⟩:=wr_rd (t:=strOf (lay 80 x 0++ [10])) (wr_lay (w:=80) _ (i:=0) (Zs _) h.1) [] [10] 0 0 ⟨0,0,0,[]⟩ [] (by simp) hd (.inl (.inr (.inr (.inr rfl)))) (by have:=h.2.2;omega) (by have:=h.2.1;simp;omega);refine ⟨x',h1,?_⟩;have hs:(strOf (lay 80 x 0++ [10])).size=(lay 80 x 0).length+1:=by rw [XF];simp
 rw [YdH,if_neg (by rw [XF];omega),hs];have h4:=h3 ((lay 80 x 0).length+1 - k+1);rw [show (lay 80 x 0).length+1 - k+1+k=(lay 80 x 0).length+1+1 by omega] at h4;rw [h4,Yhc]
 ·rfl
 have hd2:=drop_at (s:=[]++lay 80 x 0) (r:=[10]) (a:=0) (t:=strOf (lay 80 x 0++ [10])) (by rw [hd];simp);rw [XY,hd2,YkA (by intro c hc;simp at hc;subst hc;exact .inr (.inr (.inr rfl))),hs];simp
end Go.Proofs.YtfjopfinkdhmaaaGreatDoor
namespace Go.Proofs.YtfjopfinkdhmaaaGreatDoor
open Go.Lx Go.RowKit
attribute [local instance 10] Classical.propDecidable
open Go.Proofs.Tryz (prog)
variable {k:Nat}
theorem YbG {α:Type} {l:List α} {x:α} (h:l[k]?=some x):l.drop k=x::l.drop (k+1):=by
 obtain ⟨h1,h2⟩:=Zg h;rw [List.drop_eq_getElem_cons h1,h2]
theorem YcX:OneC strL:=by
 intro fz d cs h u hu;obtain ⟨rfl,_⟩:=h;simp at hu;subst hu;rfl
def ResS {α:Type} (L:Lay α) (fz:FZ) (x:Except Int (List α)) (v:Value):Prop:=
 match x with
 | .error c=>v=.tuple #[.slice none 0 0,errV c]/\c≠0
 | .ok l=>∃ A n c,v=.tuple #[.slice A n c,.nilIface]/\Sl L fz A n c l
def exA {α:Type} (o:List α):Except Int (List α)->Except Int (List α)
 | .error c=>.error c
 | .ok l=>.ok (o++l)
theorem YcL {α:Type} {x:Except Int (List α)}:exA [] x=x:=by cases x<;>rfl
theorem YfU {α:Type} {a b:List α} {x:Except Int (List α)}:exA a (exA b x)=exA (a++b) x:=by cases x<;>simp [exA]
def Xw (x:Sexpr):Option (Bs × List Sexpr):=match x.kids with
 | []=>none
 | w::r=>if x.kind=3/\w.kind=1 then some (w.text,r) else none
def Ydy (fz:FZ) (x:Sexpr) (v:Value):Prop:=match Xw x with
 | none=>v=.tuple #[.string ⟨#[]⟩,.slice none 0 0,.bool false]
 | some (w,r)=>∃ A n c,v=.tuple #[.string w,.slice A n c,.bool true]/\Sl Yz fz A n c r/\Short w
variable {fz:FZ} {vk:Value}
theorem head_f {x:Sexpr} (h:YS fz x vk):GFn prog 214 [.agg #[Zk x.kind,Zk x.value,Zk x.line,Zk x.column,.string x.text,vk]] fz [] (fun r fz' H'=>fz'=fz/\H'=[]/\Ydy fz x r):=by
 obtain ⟨A,n,c,rfl,ik⟩:=h.kids;have hl:=ik.len;have no:Xw x=none->Ydy fz x (.tuple #[Ze,Zn,.bool false]):=fun e=>by unfold Ydy;rw [e]
 have hM:Xw x=match x.kids with
  | []=>none
  | w::r=>if x.kind=3/\w.kind=1 then some (w.text,r) else none:=rfl
 refine zF Tryz.func214 Tryz.ntmps214 (fun w0=>?_);refine zW ?_;intros;refine zC (fun c1=>?_) (fun c1=>?_)
 ·refine zW ?_;exact retN T (H':=[]) (vs:=[Ze,Zn,.bool false]) Zz ⟨rfl,rfl,rfl,trivial⟩ Zb ⟨rfl,rfl,no (by rw [hM];split;rfl;rw [if_neg (fun h=>c1 h.1)])⟩
 refine wC (fun c2=>?_) (fun c2=>?_)
 ·have hk:x.kids=[]:=List.eq_nil_of_length_eq_zero Zi;refine zW ?_;exact retN T (H':=[]) (vs:=[Ze,Zn,.bool false]) Zz ⟨rfl,rfl,rfl,trivial⟩ Zb ⟨rfl,rfl,no (by rw [hM,hk])⟩
 obtain ⟨w,r,hk⟩:∃ w r,x.kids=w::r:=by
  cases hx:x.kids with
  | nil=>rw [hx] at hl;simp at hl;omega
  | cons w r=>exact ⟨w,r,rfl⟩
 have hk0:x.kids[0]?=some w:=by rw [hk];rfl
 rw [hk] at hM hl;rw [List.length_cons] at hl;refine wI ik hk0 (fun p hp=>?_);refine wG ?_;refine XG T Zz Zz Zz hp.Sexpr_kind (fun i1=>?_);refine zC (fun c3=>?_) (fun c3=>?_)
 ·refine zW ?_;exact retN T (H':=[]) (vs:=[Ze,Zn,.bool false]) Zz ⟨rfl,rfl,rfl,trivial⟩ Zb ⟨rfl,rfl,no (by rw [hM];exact if_neg (fun h=>c3 h.2))⟩
 have c1':x.kind=3:=by omega
 have c3':w.kind=1:=by omega
 have hM':Xw x=some (w.text,r):=hM.trans (if_pos ⟨c1',c3'⟩);refine wI ik hk0 (fun p hp=>?_);refine wH hp.Sexpr_text (fun hs=>?_);refine wG ?_;refine XC (j:=1) T Zz Zz Zz Zz Zz Zz ik Zi (fun A' hA'=>?_);refine zW ?_;exact retN T (H':=[]) (vs:=[.string w.text,.slice A' (n - 1) (c - 1),.bool true]) Zz ⟨rfl,rfl,rfl,trivial⟩ Zb ⟨rfl,rfl,by unfold Ydy;rw [hM'];exact ⟨A',n - 1,c - 1,rfl,by rw [hk] at hA';exact hA',hs⟩⟩
theorem Yft {x:Sexpr} (h:YS fz x vk):GFn prog 97 [.agg #[Zk x.kind,Zk x.value,Zk x.line,Zk x.column,.string x.text,vk]] fz [] (fun r fz' H'=>fz'=fz/\H'=[]/\Ydy fz x r):=by
 obtain ⟨A,n,c,rfl,ik⟩:=h.kids;have hl:=ik.len;have no:Xw x=none->Ydy fz x (.tuple #[Ze,Zn,.bool false]):=fun e=>by unfold Ydy;rw [e]
 have hM:Xw x=match x.kids with
  | []=>none
  | w::r=>if x.kind=3/\w.kind=1 then some (w.text,r) else none:=rfl
 refine zF Tryz.func97 Tryz.ntmps97 (fun w0=>?_);refine zW ?_;intros;refine zC (fun c1=>?_) (fun c1=>?_)
 ·refine zW ?_;exact retN T (H':=[]) (vs:=[Ze,Zn,.bool false]) Zz ⟨rfl,rfl,rfl,trivial⟩ Zb ⟨rfl,rfl,no (by rw [hM];split;rfl;rw [if_neg (fun h=>c1 h.1)])⟩
 refine wC (fun c2=>?_) (fun c2=>?_)
 ·have hk:x.kids=[]:=List.eq_nil_of_length_eq_zero Zi;refine zW ?_;exact retN T (H':=[]) (vs:=[Ze,Zn,.bool false]) Zz ⟨rfl,rfl,rfl,trivial⟩ Zb ⟨rfl,rfl,no (by rw [hM,hk])⟩
 obtain ⟨w,r,hk⟩:∃ w r,x.kids=w::r:=by
  cases hx:x.kids with
  | nil=>rw [hx] at hl;simp at hl;omega
  | cons w r=>exact ⟨w,r,rfl⟩
 have hk0:x.kids[0]?=some w:=by rw [hk];rfl
 rw [hk] at hM hl;rw [List.length_cons] at hl;refine wI ik hk0 (fun p hp=>?_);refine wG ?_;refine XG T Zz Zz Zz hp.Sexpr_kind (fun i1=>?_);refine zC (fun c3=>?_) (fun c3=>?_)
 ·refine zW ?_;exact retN T (H':=[]) (vs:=[Ze,Zn,.bool false]) Zz ⟨rfl,rfl,rfl,trivial⟩ Zb ⟨rfl,rfl,no (by rw [hM];exact if_neg (fun h=>c3 h.2))⟩
 have c1':x.kind=3:=by omega
 have c3':w.kind=1:=by omega
 have hM':Xw x=some (w.text,r):=hM.trans (if_pos ⟨c1',c3'⟩);refine wI ik hk0 (fun p hp=>?_);refine wH hp.Sexpr_text (fun hs=>?_);refine wG ?_;refine XC (j:=1) T Zz Zz Zz Zz Zz Zz ik Zi (fun A' hA'=>?_);refine zW ?_;exact retN T (H':=[]) (vs:=[.string w.text,.slice A' (n - 1) (c - 1),.bool true]) Zz ⟨rfl,rfl,rfl,trivial⟩ Zb ⟨rfl,rfl,by unfold Ydy;rw [hM'];exact ⟨A',n - 1,c - 1,rfl,by rw [hk] at hA';exact hA',hs⟩⟩
def Yal:List Sexpr->Except Int (List Bs)
 | []=>.ok []
 | x::r=>if x.kind≠1 then .error 2 else if ¬Ydx x.text then .error 8 else exA [x.text] (Yal r)
variable {A:Option Addr} {c n:Nat}
set_option maxHeartbeats 2000000 in
theorem Yjw {l:List Sexpr} (h:Sl Yz fz A n c l) (hn:n<=1000000000):
 GFn prog 218 [.slice A n c] fz [] (fun r fz' H'=>H'=[]/\ResS strL fz' (Yal l) r):=by
 have hl:=h.len;refine zF Tryz.func218 Tryz.ntmps218 (fun w0=>?_);refine zW ?_;refine Ym (fun q σ fz' H'=>∃ (k:Nat) (v:Value) (Hs:HP) (out:List Bs),k<=n/\q=n - k/\σ=[(9,Zk k),(8,Zk n),(7,.slice A n c),(4,v)]/\fz=fz'/\H'=Hs/\Grow strL 9 fz v k Hs out/\Yal l=exA out (Yal (l.drop k))) ⟨0,_,[],[],Z0 _,rfl,rfl,rfl,rfl,Grow.nil _ _ _,by rw [YcL];rfl⟩ Zw Zb ?_;rintro q σ fz' H' ⟨k,v,Hs,out,hk,rfl,rfl,rfl,rfl,hG,hM⟩;refine wC (fun c1=>?_) (fun c1=>?_)
 ·obtain ⟨x,hx⟩:=Yl (l:=l) (k:=k) Zi;rw [YbG hx,Yal] at hM;refine wI h hx (fun p hp=>?_);refine zL hp ?_;intro cs hcs;obtain ⟨vk,rfl,hR⟩:=Yi hcs;obtain ⟨Ak,nk,ck,rfl,ikk⟩:=hR.kids;refine zW ?_;intros;rename_i g6;refine zC (fun c2=>?_) (fun c2=>?_)
  ·rw [if_pos c2] at hM;exact wS (h:=by exact ⟨rfl,by rw [hM];exact ⟨rfl,by decide⟩⟩)
  rw [if_neg (Classical.not_not.2 c2)] at hM;refine wb (Ymg hR.text) (fun f1=>?_) (fun f1=>?_)
  ·rw [if_neg (Classical.not_not.2 (Zt f1)),YfU] at hM;obtain ⟨Av,cv,rfl,_,_⟩:=hG.form;refine zW ?_;refine Ya Zz (Yb T (cs:=[.string x.text]) Zz Zz Zz Zz Zz Zz Zz Zz (fun gb=>?_));refine Ya Zz (YP T (d:=x.text) (cs:=[.string x.text]) (Hr:=[(gb,_),(g6,_)]) Zz Zz Zz Zz Zz Zz Zz Zz (Zr _) hG YcX (.head _) ⟨rfl,hR.text⟩ (by show _*16<=_;omega) Zi (fun v' Hs' hG'=>?_));exact wP (h:=by exact ⟨k+1,v',Hs',out++ [x.text],by omega,rfl,rfl,rfl,rfl,hG',hM⟩)
  rw [if_pos (Zf f1)] at hM;exact wS (h:=by exact ⟨rfl,by rw [hM];exact ⟨rfl,by decide⟩⟩)
 obtain ⟨Av,cv,rfl,_,_⟩:=hG.form;have hkn:k=n:=by omega
 rw [List.drop_eq_nil_of_le Zi,Yal] at hM;refine zW ?_;refine YjC rfl rfl rfl (fun fz3 hle3 hf3=>⟨rfl,?_⟩);obtain ⟨A1,c1',hv1,hS1⟩:=hG.sl hle3 hf3 Zi;injection hv1 with hv1 hv2 hv3
 subst hv1 hv3;rw [hM];exact ⟨_,_,_,rfl,by rw [List.append_nil];exact hS1⟩
def kGt:Bs:=⟨#[62]⟩
def kGe:Bs:=⟨#[62,61]⟩
def Cnt2 (w:Bs):Prop:=w=YgK\/w=XL\/w=WJ\/w=kEq\/w=kLt\/w=kLe\/w=kGt\/w=kGe
def cntM (w:Bs):Int:=if w=kNot then 1 else if Cnt2 w then 2 else -1
theorem count_q {w:Bs}:QFn prog 215 [.string w] fz (Zk (cntM w)):=by
 refine GFn.quiet ?_;refine zF Tryz.func215 Tryz.ntmps215 (fun w0=>?_);refine wC (fun c0=>?_) (fun c0=>?_)
 ·exact wR (h:=by rw [cntM,if_pos (show w=kNot from c0)])
 have two:Cnt2 w->Value.int .i64 2=Zk (cntM w):=fun h=>by rw [cntM,if_neg (show ¬w=kNot from c0),if_pos h]
 refine wC (fun c1=>?_) (fun c1=>?_)
 ·exact wR (h:=by exact two (.inl c1))
 refine wC (fun c2=>?_) (fun c2=>?_)
 ·exact wR (h:=by exact two (.inr (.inl c2)))
 refine wC (fun c3=>?_) (fun c3=>?_)
 ·exact wR (h:=by exact two (.inr (.inr (.inl c3))))
 refine wC (fun c4=>?_) (fun c4=>?_)
 ·exact wR (h:=by exact two (.inr (.inr (.inr (.inl c4)))))
 refine wC (fun c5=>?_) (fun c5=>?_)
 ·exact wR (h:=by exact two (.inr (.inr (.inr (.inr (.inl c5))))))
 refine wC (fun c6=>?_) (fun c6=>?_)
 ·exact wR (h:=by exact two (.inr (.inr (.inr (.inr (.inr (.inl c6)))))))
 refine wC (fun c7=>?_) (fun c7=>?_)
 ·exact wR (h:=by exact two (.inr (.inr (.inr (.inr (.inr (.inr (.inl c7))))))))
 refine wC (fun c8=>?_) (fun c8=>?_)
 ·exact wR (h:=by exact two (.inr (.inr (.inr (.inr (.inr (.inr (.inr c8))))))))
 exact wR (h:=by rw [cntM,if_neg (show ¬w=kNot from c0),if_neg (fun h=>by rcases h with h | h | h | h | h | h | h | h;exact c1 h;exact c2 h;exact c3 h;exact c4 h;exact c5 h;exact c6 h;exact c7 h;exact c8 h)])
def ResL {α:Type} (L:Lay α) (fz:FZ) (x:Except Int α) (v:Value):Prop:=
 ∃ d cs,L.rep fz d cs/\match x with
  | .error c=>v=.tuple #[.agg cs.toArray,errV c]/\c≠0
  | .ok y=>y=d/\v=.tuple #[.agg cs.toArray,.nilIface]
variable {cs:List Value}
theorem ResL.err {α:Type} {L:Lay α} {x:Except Int α} {c:Int} {d:α} (h:x=.error c) (hc:c≠0) (hr:L.rep fz d cs):ResL L fz x (.tuple #[.agg cs.toArray,.iface 65 (Zk c)]):=by
 rw [h];exact ⟨d,cs,hr,by rw [Yk hc],hc⟩
theorem ResL.fine {α:Type} {L:Lay α} {x:Except Int α} {d:α} (h:x=.ok d) (hr:L.rep fz d cs):ResL L fz x (.tuple #[.agg cs.toArray,.nilIface]):=by
 rw [h];exact ⟨d,cs,hr,rfl,rfl⟩
def mapE {α β:Type} (f:α->Except Int β):List α->Except Int (List β)
 | []=>.ok []
 | x::r=>match f x with
  | .error c=>.error c
  | .ok y=>exA [y] (mapE f r)
theorem Ye0 {α β:Type} {f:α->Except Int β} {l:List α} {x:α} {c:Int} {o:List β} {m:Except Int (List β)} (hx:l[k]?=some x) (hm:m=exA o (mapE f (l.drop k))) (hf:f x=.error c):m=.error c:=by
 rw [hm,YbG hx,mapE,hf];rfl
theorem Yhv {α β:Type} {f:α->Except Int β} {l:List α} {x:α} {y:β} {o:List β} {m:Except Int (List β)} (hx:l[k]?=some x) (hm:m=exA o (mapE f (l.drop k))) (hf:f x=.ok y):m=exA (o++ [y]) (mapE f (l.drop (k+1))):=by
 rw [hm,YbG hx,mapE,hf,YfU]
theorem Ye1 {α β:Type} {f:α->Except Int β} {l:List α} {o:List β} {m:Except Int (List β)} (hk:l.length<=k) (hm:m=exA o (mapE f (l.drop k))):m=.ok o:=by
 rw [hm,List.drop_eq_nil_of_le hk,mapE,exA,List.append_nil]
def OpE (w:Bs):Prop:=w=kPlus\/w=Wm\/w=kStar
def Ydd:Nat->Sexpr->Except Int Lx.Expr
 | 0,_=>.error 2
 | d+1,x=>if x.kind=2 then .ok (.mk kNumber ⟨#[]⟩ x.value [] []) else match Xw x with
  | none=>.error 2
  | some (w,r)=>if OpE w then (if r.length≠2 then .error 2 else match mapE (Ydd d) r with
   | .error c=>.error c
   | .ok l=>.ok (.mk w ⟨#[]⟩ 0 [] l))
   else if YX w then match Yal r with
    | .error c=>.error c
    | .ok a=>.ok (.mk kFluent w 0 a [])
   else .error 8
theorem Ydm {d:Nat} {x:Sexpr}:Ydd (d+1) x=if x.kind=2 then .ok (.mk kNumber ⟨#[]⟩ x.value [] []) else match Xw x with
 | none=>.error 2
 | some (w,r)=>if OpE w then (if r.length≠2 then .error 2 else match mapE (Ydd d) r with
  | .error c=>.error c
  | .ok l=>.ok (.mk w ⟨#[]⟩ 0 [] l))
  else if YX w then match Yal r with
   | .error c=>.error c
   | .ok a=>.ok (.mk kFluent w 0 a [])
  else .error 8:=rfl
theorem XV:Short ⟨#[]⟩:=by unfold Short;decide
variable {va:Value}
theorem Yfa {w u:Bs} {n:Int} {a:List Bs} {k:List Lx.Expr} (h1:Short w) (h2:Short u) (h3:I64 n) (h4:IsSl strL fz va a) (h5:IsSl exprL fz vk k):exprL.rep fz (.mk w u n a k) [.string w,.string u,Zk n,va,vk]:=YbV (x:=.mk w u n a k) ⟨h1,h2,h3,h4,h5⟩
theorem YaW:exprL.rep fz (.mk ⟨#[]⟩ ⟨#[]⟩ 0 [] []) [Ze,Ze,Zk 0,Zn,Zn]:=Yfa XV XV i64z IsSl.nil IsSl.nil
theorem XR {x:Sexpr} {w:Bs} {r:List Sexpr} (h:Xw x=some (w,r)):∃ y,x.kids=y::r/\y.text=w/\x.kind=3/\y.kind=1:=by
 unfold Xw at h;split at h
 ·cases h
 rename_i y r' hk;split at h
 ·rename_i hc;injection h with h
  injection h with h1 h2
  subst h1 h2;exact ⟨y,hk,rfl,hc.1,hc.2⟩
 cases h
theorem YjX {x:Sexpr} {w:Bs} {r:List Sexpr} (h:Xw x=some (w,r)) {y:Sexpr} (hy:y∈r):SizeOf.sizeOf y<SizeOf.sizeOf x:=by
 obtain ⟨u,hk,_⟩:=XR h;exact Sexpr.kids_lt (by rw [hk];exact List.mem_cons_of_mem _ hy)
def XSmN (x:Sexpr):Prop:=x.kids.length<=1000000
abbrev XSm (x:Sexpr):Prop:=XAll XSmN x
theorem Wf {x:Sexpr} (h:XSm x) {w:Bs} {r:List Sexpr} (hh:Xw x=some (w,r)) {y:Sexpr} (hy:y∈r):XSm y:=by
 obtain ⟨u,hk,_⟩:=XR hh;exact (Y2.1 h).2 y (by rw [hk];exact List.mem_cons_of_mem _ hy)
theorem WA {x:Sexpr} (h:XSm x) {w:Bs} {r:List Sexpr} (hh:Xw x=some (w,r)):r.length<=1000000:=by
 obtain ⟨u,hk,_⟩:=XR hh;have:=(Y2.1 h).1;unfold XSmN at this;rw [hk,List.length_cons] at this;omega
theorem YnE:OneC exprL:=by
 intro fz d cs h u hu;obtain ⟨va,vk,rfl,hR⟩:=YK h;obtain ⟨A,n,c,rfl,_⟩:=hR.args;obtain ⟨B,m,b,rfl,_⟩:=hR.kids;simp at hu;rcases hu with rfl | rfl | rfl | rfl | rfl<;>rfl
set_option maxHeartbeats 8000000 in
theorem YeK:∀ (d:Nat) {fz:FZ} {x:Sexpr} {vk:Value},SizeOf.sizeOf x<=d->XSm x->YS fz x vk->
 GFn prog 239 [.agg #[Zk x.kind,Zk x.value,Zk x.line,Zk x.column,.string x.text,vk]] fz [] (fun r fz' H'=>H'=[]/\ResL exprL fz' (Ydd d x) r)
 | 0,fz,x,vk,hz,_,_=>by cases x;simp at hz
 | d+1,fz,x,vk,hz,hs,hR=>by
  obtain ⟨A,n,c,rfl,ik⟩:=hR.kids;have hM:=Ydm (d:=d) (x:=x);refine zF Tryz.func239 Tryz.ntmps239 (fun w0=>?_);refine zW ?_;intros;rename_i g1 g2;refine zC (fun c1=>?_) (fun c1=>?_)
  ·rw [if_pos c1] at hM;refine zW ?_;exact YN T (vs:=[.agg #[.string kNumber,Ze,Zk x.value,Zn,Zn],.nilIface]) Zz ⟨⟨_,_,0,_,_,_,rfl,rfl,rfl,rfl,rfl,rfl⟩,rfl,trivial⟩ (fun fz3 hle3 hf3=>⟨rfl,ResL.fine hM (Yfa (by unfold Short;decide) XV hR.value IsSl.nil IsSl.nil)⟩)
  rw [if_neg c1] at hM;refine wK (q:=head_f hR) (h:=fun r1 fz1 H1 hle1 hR1=>?_);obtain ⟨rfl,rfl,hR1⟩:=hR1;unfold Ydy at hR1;cases hh:Xw x with
  | none=>
   rw [hh] at hR1 hM;subst hR1;refine zW ?_;exact YN T (vs:=[.agg #[Ze,Ze,Zk 0,Zn,Zn],.iface 65 (Zk 2)]) Zz ⟨⟨_,_,0,_,_,_,rfl,rfl,rfl,rfl,rfl,rfl⟩,rfl,trivial⟩ (fun fz3 hle3 hf3=>⟨rfl,ResL.err hM Zh YaW⟩)
  | some wr=>
   obtain ⟨w,r⟩:=wr;rw [hh] at hR1 hM;obtain ⟨A',n',c',rfl,ir,hw⟩:=hR1;have hrl:=ir.len;have hrs:=WA hs hh;refine zWX ?_;refine Yj ?_;refine zWX ?_;refine Yj ?_;refine zWX ?_;refine Yj ?_;refine Yj (Wp.mid (fun σ fz' H'=>∃ b:Bool,σ=[(39,.bool b),(4,.string w),(5,.slice A' n' c'),(2,Zp g2)]/\fz1=fz'/\H'=[(g2,.cells #[Ze,Ze,Zk 0,Zn,Zn] 120 (0,0))]/\(b=true↔¬OpE w)) ?_ ?_)
   ·refine wC (fun e1=>?_) (fun e1=>?_)
    ·refine wC (fun e2=>?_) (fun e2=>?_)
     ·refine wC (fun e3=>?_) (fun e3=>?_)
      ·exact wN (h:=by exact ⟨true,rfl,rfl,rfl,iff_of_true rfl (fun h=>by rcases h with h | h | h;exact e1 h;exact e2 h;exact e3 h)⟩)
      exact wN (h:=by exact ⟨false,rfl,rfl,rfl,iff_of_false Zh (fun h=>h (.inr (.inr e3)))⟩)
     exact wN (h:=by exact ⟨false,rfl,rfl,rfl,iff_of_false Zh (fun h=>h (.inr (.inl e2)))⟩)
    exact wN (h:=by exact ⟨false,rfl,rfl,rfl,iff_of_false Zh (fun h=>h (.inl e1))⟩)
   rintro σ fz' H' ⟨b,rfl,rfl,rfl,hb⟩;simp only at hM;cases b with
   | true=>
    rw [if_neg (hb.1 rfl)] at hM;refine wb (Ww hw) (fun f1=>?_) (fun f1=>?_)
    ·rw [if_pos (Zt f1)] at hM;refine wK (q:=Yjw ir Zi) (h:=fun r2 fz2 H2 hle2 hR2=>?_);obtain ⟨rfl,hR2⟩:=hR2;cases ht:Yal r with
     | error c=>
      rw [ht] at hM hR2;obtain ⟨rfl,hc⟩:=hR2;rw [Yk hc];refine zW ?_;exact YN T (vs:=[.agg #[Ze,Ze,Zk 0,Zn,Zn],.iface 65 (Zk c)]) Zz ⟨⟨_,_,0,_,_,_,rfl,rfl,rfl,rfl,rfl,rfl⟩,rfl,trivial⟩ (fun fz3 hle3 hf3=>⟨rfl,ResL.err hM hc YaW⟩)
     | ok a=>
      rw [ht] at hM hR2;obtain ⟨A3,n3,c3,rfl,ia⟩:=hR2;refine zW ?_;exact YN T (vs:=[.agg #[.string kFluent,.string w,Zk 0,.slice A3 n3 c3,Zn],.nilIface]) Zz ⟨⟨_,_,0,_,_,_,rfl,rfl,rfl,rfl,rfl,rfl⟩,rfl,trivial⟩ (fun fz3 hle3 hf3=>⟨rfl,ResL.fine hM (Yfa (by unfold Short;decide) hw i64z ⟨_,_,_,rfl,ia.mono hle3⟩ IsSl.nil)⟩)
    rw [if_neg (Zf f1)] at hM;refine zW ?_;exact YN T (vs:=[.agg #[Ze,Ze,Zk 0,Zn,Zn],.iface 65 (Zk 8)]) Zz ⟨⟨_,_,0,_,_,_,rfl,rfl,rfl,rfl,rfl,rfl⟩,rfl,trivial⟩ (fun fz3 hle3 hf3=>⟨rfl,ResL.err hM Zh YaW⟩)
   | false=>
    rw [if_pos (Classical.byContradiction fun h=>absurd (hb.2 h) Zh)] at hM;refine wC (fun e4=>?_) (fun e4=>?_)
    ·rw [if_pos Zi] at hM;refine zW ?_;exact YN T (vs:=[.agg #[Ze,Ze,Zk 0,Zn,Zn],.iface 65 (Zk 2)]) Zz ⟨⟨_,_,0,_,_,_,rfl,rfl,rfl,rfl,rfl,rfl⟩,rfl,trivial⟩ (fun fz3 hle3 hf3=>⟨rfl,ResL.err hM Zh YaW⟩)
    rw [if_neg Zi] at hM;have hn2:n'=2:=by omega
    subst hn2;refine zW ?_;intros;rename_i g9;refine Ym (fun q σ fz' H'=>∃ (k:Nat) (v:Value) (Hs:HP) (out:List Lx.Expr),k<=2/\q=2 - k/\σ=[(66,Zk k),(65,Zk 2),(64,.slice A' 2 c'),(9,Zp g9),(2,Zp g2)]/\Le fz1 fz'/\H'=(g9,.cells #[.string w,Ze,Zk 0,Zn,v] 120 (0,0))::(g2,.cells #[Ze,Ze,Zk 0,Zn,Zn] 120 (0,0))::Hs/\Grow exprL 120 fz' v k Hs out/\mapE (Ydd d) r=exA out (mapE (Ydd d) (r.drop k))) ⟨0,_,[],[],Z0 _,rfl,rfl,Le.refl _,rfl,Grow.nil _ _ _,by rw [YcL];rfl⟩ Zw Zb ?_;rintro q σ fz' H' ⟨k,v,Hs,out,hk,rfl,rfl,hle,rfl,hG,hmap⟩;obtain ⟨Av,cv,rfl,_,_⟩:=hG.form;refine wC (fun e5=>?_) (fun e5=>?_)
    ·obtain ⟨y,hy⟩:=Yl (l:=r) (k:=k) Zi;have hlt:=YjX hh (Zm hy);refine wI (ir.mono hle) hy (fun p hp=>?_);refine zL hp ?_;intro cs hcs;obtain ⟨vy,rfl,hRy⟩:=Yi hcs;obtain ⟨Ay,ny,cy,rfl,iy⟩:=hRy.kids;refine zW ?_;intros;rename_i g11;refine wK (q:=YeK d Zi (Wf hs hh (Zm hy)) hRy) (h:=fun r2 fz2 H2 hle2 hR2=>?_);obtain ⟨rfl,de,cs2,hr2,hR2⟩:=hR2;obtain ⟨va2,vk2,rfl,hE2⟩:=YK hr2;obtain ⟨Aa2,na2,ca2,rfl,ia2⟩:=hE2.args;obtain ⟨Ak2,nk2,ck2,rfl,ik2⟩:=hE2.kids;cases hx:Ydd d y with
     | error c=>
      rw [hx] at hR2;obtain ⟨rfl,hc⟩:=hR2;have hm:=Ye0 hy hmap hx;rw [hm] at hM;rw [Yk hc];refine zW ?_;intros;exact YN T (vs:=[.agg #[Ze,Ze,Zk 0,Zn,Zn],.iface 65 (Zk c)]) Zz ⟨⟨_,_,3,_,_,_,rfl,rfl,rfl,rfl,rfl,rfl⟩,rfl,trivial⟩ (fun fz3 hle3 hf3=>⟨rfl,ResL.err hM hc YaW⟩)
     | ok z=>
      rw [hx] at hR2;obtain ⟨rfl,rfl⟩:=hR2;have hm:=Yhv hy hmap hx;refine zW ?_;intros;refine Ya Zz (Yb T (cs:=[.string z.op,.string z.name,Zk z.n,.slice Aa2 na2 ca2,.slice Ak2 nk2 ck2]) Zz Zz Zz Zz Zz Zz Zz Zz (fun gb=>?_));rename_i g12;refine Ya Zz (YP T (d:=z) (cs:=[.string z.op,.string z.name,Zk z.n,.slice Aa2 na2 ca2,.slice Ak2 nk2 ck2]) (Hr:=(gb,_)::(g12,_)::(g11,_)::(g9,_):: [(g2,_)]) Zz Zz Zz Zz Zz Zz Zz Zz (Zr _) (hG.mono hle2) YnE (.head _) hr2 (by show _*88<=_;omega) Zi (fun v' Hs' hG'=>?_));obtain ⟨Av',cv',rfl,_,_⟩:=hG'.form;exact wP (h:=by exact ⟨k+1,_,Hs',out++ [z],by omega,rfl,rfl,hle.trans hle2,rfl,hG',hm⟩)
    have hm:=Ye1 Zi hmap;rw [hm] at hM;refine zW ?_;refine YN T (vs:=[.agg #[.string w,Ze,Zk 0,Zn,.slice Av k cv],.nilIface]) Zz ⟨⟨_,_,1,_,_,_,rfl,rfl,rfl,rfl,rfl,rfl⟩,rfl,trivial⟩ (fun fz3 hle3 hf3=>⟨rfl,?_⟩);obtain ⟨A1,c1',hv1,hS1⟩:=hG.sl hle3 (fun p hp=>hf3 p (by simp [hp])) Zi;injection hv1 with hv1 hv2 hv3
    subst hv1 hv3;exact ResL.fine hM (Yfa hw XV i64z IsSl.nil ⟨_,_,_,rfl,hS1⟩)
end Go.Proofs.YtfjopfinkdhmaaaGreatDoor
namespace Go.Lx
open Go.RowKit
variable {fz:FZ} {g j n:Nat} {v:Value}
theorem gB_set {α:Type} {L:Lay α} {e:Nat} {cap:Nat} {cur:List Value} {l:List α} (h:GrowB L e fz g n cap cur l) {o:Nat} {d d':α} (hj:l[j]?=some d) (ho:o<L.size) (hr:∀ cs,L.rep fz d cs->L.rep fz d' (cs.set o v)):
 GrowB L e fz g n cap (cur.set (j*L.size+o) v) (l.set j d'):=by
 obtain ⟨cs,hd,hc⟩:=gB_cut h hj;have hr:=hr cs hd;obtain ⟨xs,h1,h2,h3⟩:=h.pairs;have hl:=h.len;have hjn:j<n:=by have:=(Zg hj).1;omega
 have hxl:xs.length=n:=by rw [<- h1,List.length_map] at hl;exact hl
 have hsz:=h.size;have hcap:=h.capn;have hjz:j*L.size+L.size<=n*L.size:=by rw [<- Nat.succ_mul];exact Nat.mul_le_mul_right _ hjn
 have hnc:n*L.size<=cap*L.size:=Nat.mul_le_mul_right _ hcap;refine ⟨⟨xs.set j (d',cs.set o v),by rw [List.map_set,h1],fun p hp=>?_,?_⟩,by rw [List.length_set];exact hl,hcap,h.max,by rw [List.length_set];exact hsz⟩
 ·rcases List.mem_or_eq_of_mem_set hp with hp | hp
  ·exact h2 p hp
  subst hp;exact hr
 have hcl:cs.length=L.size:=by rw [<- hc,List.length_take,List.length_drop];omega
 rw [<- YhH (z:=L.size) (d:=(d',cs.set o v)) (by simpa using hcl) (fun p hp=>L.len (h2 p hp)) Zi,<- h3];refine List.ext_getElem? fun i=>?_
 rw [List.getElem?_take];simp only [<- hc];by_cases hi:i<n*L.size
 ·rw [if_pos hi];by_cases h5:i<j*L.size
  ·rw [List.append_assoc,List.getElem?_append_left (by rw [List.length_take,List.length_take];omega),List.getElem?_take_of_lt h5,List.getElem?_take_of_lt hi,List.getElem?_set_ne Zi]
  have e1:((cur.take (n*L.size)).take (j*L.size)).length=j*L.size:=by rw [List.length_take,List.length_take];omega
  have e2:(((cur.drop (j*L.size)).take L.size).set o v).length=L.size:=by rw [List.length_set,List.length_take,List.length_drop];omega
  rw [List.append_assoc,List.getElem?_append_right Zi,e1];by_cases h6:i<j*L.size+L.size
  ·rw [List.getElem?_append_left Zi];by_cases h7:i=j*L.size+o
   ·subst h7;rw [List.getElem?_set_self Zi,Nat.add_sub_cancel_left,List.getElem?_set_self (by rw [List.length_set] at e2;omega)]
   rw [List.getElem?_set_ne Zi,List.getElem?_set_ne Zi,List.getElem?_take_of_lt Zi,List.getElem?_drop]
   congr 1;omega
  rw [List.getElem?_append_right Zi,e2,List.getElem?_drop,List.getElem?_take_of_lt Zi,List.getElem?_set_ne Zi]
  congr 1;omega
 rw [if_neg hi];have:i>=(List.take (j*L.size) (cur.take (n*L.size))++((cur.drop (j*L.size)).take L.size).set o v++(cur.take (n*L.size)).drop (j*L.size+L.size)).length:=by
  simp only [List.length_append,List.length_take,List.length_drop,List.length_set];omega
 rw [List.getElem?_eq_none Zi]
end Go.Lx
namespace Go.Proofs.YtfjopfinkdhmaaaGreatDoor
open Go.Lx Go.RowKit
attribute [local instance 10] Classical.propDecidable
open Go.Proofs.Tryz (prog)
def parT (t:Bs) (l:List Bs):List Param:=l.map fun s=>⟨s,t⟩
def PBad (b:Bool) (s:Bs):Prop:=b=true/\¬VarP s\/b=false/\¬YX s
def parM (b:Bool):List Sexpr->List Param->List Bs->Except Int (List Param)
 | [],done,opn=>.ok (done++parT Wt opn)
 | x::r,done,opn=>
  if ¬(x.kind=1/\XVal x) then .error 2
  else if x.text≠Wm then (if PBad b x.text then .error 8 else parM b r done (opn++ [x.text]))
  else match r with
   | []=>.error 2
   | y::r'=>if opn=[]\/¬(y.kind=1/\XVal y) then .error 2 else if ¬YcT y.text then .error 8 else parM b r' (done++parT y.text opn) []
theorem YiD {b:Bool} {x:Sexpr} {r:List Sexpr} {done:List Param} {opn:List Bs}:parM b (x::r) done opn=if ¬(x.kind=1/\XVal x) then .error 2
 else if x.text≠Wm then (if PBad b x.text then .error 8 else parM b r done (opn++ [x.text]))
 else match r with
  | []=>.error 2
  | y::r'=>if opn=[]\/¬(y.kind=1/\XVal y) then .error 2 else if ¬YcT y.text then .error 8 else parM b r' (done++parT y.text opn) []:=by
 cases r<;>rfl
theorem YmW {t s:Bs} {l:List Bs}:parT t (l++ [s])=parT t l++ [⟨s,t⟩]:=by simp [parT]
variable {j:Nat}
theorem parT_set {t u:Bs} {opn:List Bs} {done:List Param} {s:Bs} (h:opn[j]?=some s):
 (done++parT t (opn.take j)++parT u (opn.drop j)).set (done.length+j) ⟨s,t⟩=done++parT t (opn.take (j+1))++parT u (opn.drop (j+1)):=by
 have hj:=(Zg h).1;have hl:(done++parT t (opn.take j)).length=done.length+j:=by simp [parT];omega
 rw [List.set_append_right _ _ Zi,hl,Nat.sub_self,YbG h,List.take_add_one,h];simp [parT]
theorem parT_get {t u:Bs} {opn:List Bs} {done:List Param} {s:Bs} (h:opn[j]?=some s):
 (done++parT t (opn.take j)++parT u (opn.drop j))[done.length+j]?=some ⟨s,u⟩:=by
 have hj:=(Zg h).1;have hl:(done++parT t (opn.take j)).length=done.length+j:=by simp [parT];omega
 rw [List.getElem?_append_right Zi,hl,Nat.sub_self,YbG h];simp [parT]
variable {A:Option Addr} {c n:Nat} {fz:FZ}
set_option maxHeartbeats 8000000 in
theorem YaN {l:List Sexpr} {b:Bool} (h:Sl Yz fz A n c l) (hn:n<=1000000):
 GFn prog 92 [.slice A n c,.bool b] fz [] (fun r fz' H'=>H'=[]/\ResS paramL fz' (parM b l [] []) r):=by
 have hl:=h.len;refine zF Tryz.func92 Tryz.ntmps92 (fun w0=>?_);refine zW ?_;refine Ym (fun q σ fz' H'=>∃ (i:Nat) (v:Value) (Hs:HP) (done:List Param) (opn:List Bs),i<=n/\q=n - i/\σ=[(8,Zk i),(7,Zk done.length),(6,v),(1,.bool b),(0,.slice A n c)]/\fz=fz'/\H'=Hs/\Grow paramL 110 fz v (done.length+opn.length) Hs (done++parT Wt opn)/\done.length+opn.length<=i/\parM b l [] []=parM b (l.drop i) done opn) ⟨0,_,[],[],[],Z0 _,rfl,rfl,rfl,rfl,Grow.nil _ _ _,Zs _,rfl⟩ Zw Zb ?_;rintro q σ fz' H' ⟨i,v,Hs,done,opn,hi,rfl,rfl,rfl,rfl,hG,hle,hM⟩;obtain ⟨Av,cv,rfl,_,_⟩:=hG.form;refine wC (fun c1=>?_) (fun c1=>?_)
 ·obtain ⟨x,hx⟩:=Yl (l:=l) (k:=i) Zi;rw [YbG hx,YiD] at hM;refine wI h hx (fun p hp=>?_);refine wG ?_;refine XG T Zz Zz Zz hp.Sexpr_kind (fun i1=>?_);refine zC (fun c2=>?_) (fun c2=>?_)
  ·rw [if_pos (fun h=>c2 h.1)] at hM;exact wS (h:=by exact ⟨rfl,by rw [hM];exact ⟨rfl,by decide⟩⟩)
  refine wI h hx (fun p2 hp2=>?_);refine zL hp2 ?_;intro cs hcs;obtain ⟨vk,rfl,hR⟩:=Yi hcs;refine zb (WZ hR) (fun f1=>?_) (fun f1=>?_)
  ·rw [if_neg (Classical.not_not.2 ⟨by omega,Zt f1⟩)] at hM;refine wI h hx (fun p3 hp3=>?_);refine wH hp3.Sexpr_text (fun hs3=>?_);refine wC (fun c3=>?_) (fun c3=>?_)
   ·have c3':x.text≠Wm:=c3;rw [if_pos c3'] at hM;refine zWX ?_;refine Yj ?_;refine Yj (Wp.mid (fun σ fz' H2=>∃ bb:Bool,σ=[(52,.bool bb),(9,.string x.text),(8,Zk i),(7,Zk done.length),(6,.slice Av (done.length+opn.length) cv),(1,.bool b),(0,.slice A n c)]/\fz=fz'/\H2=H'/\(bb=true↔PBad b x.text)) ?_ ?_)
    ·cases b with
     | true=>
      refine wb (YbN hR.text) (fun f2=>?_) (fun f2=>?_)
      ·exact wN (h:=by exact ⟨false,rfl,rfl,rfl,iff_of_false Zh (fun h=>by rcases h with h | h;exact h.2 (Zt f2);exact absurd h.1 Zh)⟩)
      exact wN (h:=by exact ⟨true,rfl,rfl,rfl,iff_of_true rfl (.inl ⟨rfl,Zf f2⟩)⟩)
     | false=>
      refine wb (Ww hR.text) (fun f2=>?_) (fun f2=>?_)
      ·exact wN (h:=by exact ⟨false,rfl,rfl,rfl,iff_of_false Zh (fun h=>by rcases h with h | h;exact absurd h.1 Zh;exact h.2 (Zt f2))⟩)
      exact wN (h:=by exact ⟨true,rfl,rfl,rfl,iff_of_true rfl (.inr ⟨rfl,Zf f2⟩)⟩)
    rintro σ fz' H2 ⟨bb,rfl,rfl,rfl,hb⟩;cases bb with
    | true=>
     rw [if_pos (hb.1 rfl)] at hM;exact wS (h:=by exact ⟨rfl,by rw [hM];exact ⟨rfl,by decide⟩⟩)
    | false=>
     rw [if_neg (fun h=>absurd (hb.2 h) Zh)] at hM;refine zW ?_;refine Ya Zz (Yb T (cs:=[.string x.text,.string Wt]) Zz Zz Zz Zz Zz Zz Zz Zz (fun gb=>?_));refine Ya Zz (YP T (d:=⟨x.text,Wt⟩) (cs:=[.string x.text,.string Wt]) (Hr:=[(gb,_)]) Zz Zz Zz Zz Zz Zz Zz Zz (Zr _) hG WV (.head _) (Yca (x:=⟨x.text,Wt⟩) ⟨hR.text,by show Short Wt;unfold Short;decide⟩) (by show _*32<=_;omega) Zi (fun v' Hs' hG'=>?_));exact wP (h:=by exact ⟨i+1,v',Hs',done,opn++ [x.text],by omega,rfl,rfl,rfl,rfl,hG'.of (by rw [YmW,List.append_assoc]) (by rw [List.length_append];rfl),by rw [List.length_append,List.length_singleton];omega,hM⟩)
   have c3':¬x.text≠Wm:=Classical.not_not.2 c3;rw [if_neg c3'] at hM;have bad:∀ {y r},l.drop (i+1)=y::r->(opn=[]\/¬(y.kind=1/\XVal y))->parM b l [] []=.error 2:=fun e h0=>by
    rw [e] at hM;exact hM.trans (if_pos h0)
   have nob:l.drop (i+1)=[]->parM b l [] []=.error 2:=fun e=>by
    rw [e] at hM;exact hM
   have bad0:opn=[]->parM b l [] []=.error 2:=fun h0=>by
    cases e:l.drop (i+1) with
    | nil=>exact nob e
    | cons y r=>exact bad e (.inl h0)
   refine wC (fun c4=>?_) (fun c4=>?_)
   ·exact wS (h:=by exact ⟨rfl,by rw [bad0 (List.eq_nil_of_length_eq_zero Zi)];exact ⟨rfl,by decide⟩⟩)
   refine wC (fun c5=>?_) (fun c5=>?_)
   ·exact wS (h:=by exact ⟨rfl,by rw [nob (List.drop_eq_nil_of_le Zi)];exact ⟨rfl,by decide⟩⟩)
   obtain ⟨y,hy⟩:=Yl (l:=l) (k:=i+1) Zi;refine wI h hy (fun p4 hp4=>?_);refine wG ?_;refine XG T Zz Zz Zz hp4.Sexpr_kind (fun i4=>?_);refine zC (fun c6=>?_) (fun c6=>?_)
   ·exact wS (h:=by exact ⟨rfl,by rw [bad (YbG hy) (.inr (fun h=>c6 h.1))];exact ⟨rfl,by decide⟩⟩)
   refine wI h hy (fun p5 hp5=>?_);refine zL hp5 ?_;intro cs5 hcs5;obtain ⟨vk5,rfl,hR5⟩:=Yi hcs5;refine zb (WZ hR5) (fun f5=>?_) (fun f5=>?_)
   ·rw [YbG hy] at hM;have hM:=hM.trans (if_neg (fun h=>by rcases h with h | h;exact c4 (by rw [h];simp);exact h ⟨by omega,Zt f5⟩));refine wI h hy (fun p6 hp6=>?_);refine wH hp6.Sexpr_text (fun hs6=>?_);refine zb (Yl6 hR5.text) (fun f6=>?_) (fun f6=>?_)
    ·rw [if_neg (Classical.not_not.2 (Zt f6))] at hM;obtain ⟨g,cap,cur,hv,rfl,hB⟩:=hG.b Zi;injection hv with hv1 hv2 hv3
     subst hv1 hv3;refine zW ?_;refine Ym (fun q σ fz' H'=>∃ (j:Nat) (cur:List Value),j<=opn.length/\q=opn.length - j/\σ=[(8,Zk (i+1:Nat)),(7,Zk (done.length+j:Nat)),(6,Zv g (done.length+opn.length) cv),(1,.bool b),(0,.slice A n c)]/\fz=fz'/\H'=[(g,.cells (List.toArray cur) 110 (0,0))]/\GrowB paramL 110 fz g (done.length+opn.length) cv cur (done++parT y.text (opn.take j)++parT Wt (opn.drop j))) ⟨0,cur,Z0 _,rfl,rfl,rfl,rfl,by simpa [parT] using hB⟩ Zw Zb ?_;rintro q σ fz' H' ⟨j,cur,hj,rfl,rfl,rfl,rfl,hB⟩;have hcapB:=hB.capn;have hszB:cur.length=cv*2:=hB.size;refine wC (fun c7=>?_) (fun c7=>?_)
     ·obtain ⟨s,hs⟩:=Yl (l:=opn) (k:=j) Zi;refine wI h hy (fun p7 hp7=>?_);refine wH hp7.Sexpr_text (fun hs7=>?_);refine zG ?_;refine YC T Zz Zz Zz Zz Zz rfl Zi Zi ?_;refine zW ?_;refine YF (Ych T (pre:=[]) Zz Zz Zz rfl Zz Zz Zz (by show (done.length+j)*2+1<cur.length;omega) ?_);refine zW ?_;exact WO ⟨j+1,_,by omega,rfl,rfl,rfl,rfl,by
       have h9:=gB_set hB (o:=1) (d':=⟨s,y.text⟩) (v:=.string y.text) (parT_get hs) Zh (fun cs hcs=>by obtain ⟨rfl,hp⟩:=YR hcs;exact Yca (x:=⟨s,y.text⟩) ⟨hp.name,hR5.text⟩);rw [parT_set hs] at h9;exact h9⟩ Zi Zw Zb
     have hjo:j=opn.length:=by omega
     subst hjo;rw [List.take_length,List.drop_length] at hB;refine zW ?_;have e7:(done++parT y.text opn).length=done.length+opn.length:=by simp [parT]
     exact WO (σ':=[(8,Zk (i+2:Nat)),(7,Zk (done.length+opn.length:Nat)),(6,Zv g (done.length+opn.length) cv),(1,.bool b),(0,.slice A n c)]) ⟨i+2,_,_,done++parT y.text opn,[],by omega,rfl,by rw [e7],rfl,rfl,hB.grow.of rfl (by simp [parT]),by simp [parT];omega,hM⟩ Zi Zw Zb
    rw [if_pos (Zf f6)] at hM;exact wS (h:=by exact ⟨rfl,by rw [hM];exact ⟨rfl,by decide⟩⟩)
   exact wS (h:=by exact ⟨rfl,by rw [bad (YbG hy) (.inr (fun h=>Zf f5 h.2))];exact ⟨rfl,by decide⟩⟩)
  rw [if_pos (fun h=>Zf f1 h.2)] at hM;exact wS (h:=by exact ⟨rfl,by rw [hM];exact ⟨rfl,by decide⟩⟩)
 rw [List.drop_eq_nil_of_le Zi,parM] at hM;refine zW ?_;refine YjC rfl rfl rfl (fun fz3 hle3 hf3=>⟨rfl,?_⟩);obtain ⟨A1,c1',hv1,hS1⟩:=hG.sl hle3 hf3 Zi;injection hv1 with hv1 hv2 hv3
 subst hv1 hv3;rw [hM];exact ⟨_,_,_,rfl,hS1⟩
def Yfu (x:Sexpr):Except Int Lx.Expr:=Ydd (SizeOf.sizeOf x) x
variable {vk:Value}
theorem YjL {x:Sexpr} (hs:XSm x) (hR:YS fz x vk):
 GFn prog 239 [.agg #[Zk x.kind,Zk x.value,Zk x.line,Zk x.column,.string x.text,vk]] fz [] (fun r fz' H'=>H'=[]/\ResL exprL fz' (Yfu x) r):=YeK _ (Zs _) hs hR
variable {va ve vp:Value}
theorem YaG {w u:Bs} {a:List Bs} {p:List Param} {e:List Lx.Expr} {k:List Formula} (h1:Short w) (h2:Short u) (h3:IsSl strL fz va a) (h4:IsSl paramL fz vp p) (h5:IsSl exprL fz ve e) (h6:IsSl YW fz vk k):YW.rep fz (.mk w u a p e k) [.string w,.string u,va,vp,ve,vk]:=WL (x:=.mk w u a p e k) ⟨h1,h2,h3,h4,h5,h6⟩
theorem YaC:YW.rep fz (.mk ⟨#[]⟩ ⟨#[]⟩ [] [] [] []) [Ze,Ze,Zn,Zn,Zn,Zn]:=YaG XV XV IsSl.nil IsSl.nil IsSl.nil IsSl.nil
theorem YdT:OneC YW:=by
 intro fz d cs h u hu;obtain ⟨v1,v2,v3,v4,rfl,hR⟩:=YA h;obtain ⟨A,n,c,rfl,_⟩:=hR.args;obtain ⟨B,m,b,rfl,_⟩:=hR.params;obtain ⟨C,o,e,rfl,_⟩:=hR.exprs;obtain ⟨D,q,f,rfl,_⟩:=hR.kids;simp at hu;rcases hu with rfl | rfl | rfl | rfl | rfl | rfl<;>rfl
def Yn2 (w:Bs) (a b:Lx.Expr):Formula:=
 if w=kGt then .mk kLt ⟨#[]⟩ [] [] [b,a] [] else if w=kGe then .mk kLe ⟨#[]⟩ [] [] [b,a] [] else .mk w ⟨#[]⟩ [] [] [a,b] []
def cmpM (w:Bs) (y z:Sexpr):Except Int Formula:=
 if w=kEq/\y.kind=1/\z.kind=1 then match Yal [y,z] with
  | .error c=>.error c
  | .ok a=>.ok (.mk kSame ⟨#[]⟩ a [] [] [])
 else match Yfu y with
  | .error c=>.error c
  | .ok a=>match Yfu z with
   | .error c=>.error c
   | .ok b=>.ok (Yn2 w a b)
set_option maxHeartbeats 8000000 in
theorem YlF {w:Bs} {y z:Sexpr} {vy vz:Value} (hw:Short w) (hsy:XSm y) (hsz:XSm z) (hy:YS fz y vy) (hz:YS fz z vz):
 GFn prog 217 [.string w,.agg #[Zk y.kind,Zk y.value,Zk y.line,Zk y.column,.string y.text,vy],.agg #[Zk z.kind,Zk z.value,Zk z.line,Zk z.column,.string z.text,vz]] fz [] (fun r fz' H'=>H'=[]/\ResL YW fz' (cmpM w y z) r):=by
 obtain ⟨A,n,c,rfl,iy⟩:=hy.kids;obtain ⟨B,m,b,rfl,iz⟩:=hz.kids;have hM:cmpM w y z=if w=kEq/\y.kind=1/\z.kind=1 then match Yal [y,z] with
  | .error c=>.error c
  | .ok a=>.ok (.mk kSame ⟨#[]⟩ a [] [] [])
 else match Yfu y with
  | .error c=>.error c
  | .ok a=>match Yfu z with
   | .error c=>.error c
   | .ok b=>.ok (Yn2 w a b):=rfl
 refine zF Tryz.func217 Tryz.ntmps217 (fun w0=>?_);refine zWX ?_;refine Yj ?_;refine zWX ?_;intros;rename_i g4 g5 g6;refine Yj ?_;refine Yj (Wp.mid (fun σ fz' H'=>∃ bb:Bool,σ=[(24,.bool bb),(6,Zp g6),(5,Zp g5),(4,Zp g4),(0,.string w)]/\fz=fz'/\H'=[(g6,.cells #[Ze,Ze,Zn,Zn,Zn,Zn] 38 (0,0)),(g5,.cells #[Zk z.kind,Zk z.value,Zk z.line,Zk z.column,.string z.text,.slice B m b] 57 (0,0)),(g4,.cells #[Zk y.kind,Zk y.value,Zk y.line,Zk y.column,.string y.text,.slice A n c] 57 (0,0))]/\(bb=true↔w=kEq/\y.kind=1/\z.kind=1)) ?_ ?_)
 ·refine wC (fun c1=>?_) (fun c1=>?_)
  ·refine wC (fun c2=>?_) (fun c2=>?_)
   ·refine wC (fun c3=>?_) (fun c3=>?_)
    ·exact wN (h:=by exact ⟨true,rfl,rfl,rfl,iff_of_true rfl ⟨c1,by omega,by omega⟩⟩)
    exact wN (h:=by exact ⟨false,rfl,rfl,rfl,iff_of_false Zh (fun h=>c3 Zi)⟩)
   exact wN (h:=by exact ⟨false,rfl,rfl,rfl,iff_of_false Zh (fun h=>c2 Zi)⟩)
  exact wN (h:=by exact ⟨false,rfl,rfl,rfl,iff_of_false Zh (fun h=>c1 h.1)⟩)
 rintro σ fz' H' ⟨bb,rfl,rfl,rfl,hb⟩;cases bb with
 | true=>
  rw [if_pos (hb.1 rfl)] at hM;refine zW ?_;refine Ya Zz (Yb T (cs:=[Zk y.kind,Zk y.value,Zk y.line,Zk y.column,.string y.text,.slice A n c]++ [Zk z.kind,Zk z.value,Zk z.line,Zk z.column,.string z.text,.slice B m b]) Zz Zz Zz Zz Zz Zz Zz Zz (fun gb=>?_))
  first | refine Wp.freeze Zz (fun fz1 hle1 hg1=>?_) | refine Seq.freeze Zz (fun fz1 hle1 hg1=>?_)
  refine wK (q:=Yjw (n:=2) (Xz (m:=2) (l:=[y,z]) (ys:=[(y,[Zk y.kind,Zk y.value,Zk y.line,Zk y.column,.string y.text,.slice A n c]),(z,[Zk z.kind,Zk z.value,Zk z.line,Zk z.column,.string z.text,.slice B m b])]) hg1 rfl rfl (by intro p hp;simp only [List.mem_cons,List.not_mem_nil,or_false] at hp;rcases hp with rfl | rfl;exact Yh (hy.mono hle1);exact Yh (hz.mono hle1)) rfl Zh) Zh) (h:=fun r2 fz2 H2 hle2 hR2=>?_);obtain ⟨rfl,hR2⟩:=hR2;cases ht:Yal [y,z] with
  | error c'=>
   rw [ht] at hM hR2;obtain ⟨rfl,hc⟩:=hR2;rw [Yk hc];refine zW ?_;exact YN T (vs:=[.agg #[.string kSame,Ze,Zn,Zn,Zn,Zn],.iface 65 (Zk c')]) Zz ⟨⟨_,_,0,_,_,_,rfl,rfl,rfl,rfl,rfl,rfl⟩,rfl,trivial⟩ (fun fz3 hle3 hf3=>⟨rfl,ResL.err hM hc (YaG (a:=[]) (p:=[]) (e:=[]) (k:=[]) (by unfold Short;decide) XV IsSl.nil IsSl.nil IsSl.nil IsSl.nil)⟩)
  | ok a=>
   rw [ht] at hM hR2;obtain ⟨A3,n3,c3,rfl,ia⟩:=hR2;refine zW ?_;exact YN T (vs:=[.agg #[.string kSame,Ze,.slice A3 n3 c3,Zn,Zn,Zn],.nilIface]) Zz ⟨⟨_,_,0,_,_,_,rfl,rfl,rfl,rfl,rfl,rfl⟩,rfl,trivial⟩ (fun fz3 hle3 hf3=>⟨rfl,ResL.fine hM (YaG (by unfold Short;decide) XV ⟨_,_,_,rfl,ia.mono hle3⟩ IsSl.nil IsSl.nil IsSl.nil)⟩)
 | false=>
  rw [if_neg (fun h=>absurd (hb.2 h) Zh)] at hM;refine wK (q:=YjL hsy hy) (h:=fun r2 fz2 H2 hle2 hR2=>?_);obtain ⟨rfl,ea,cs2,hr2,hR2⟩:=hR2;obtain ⟨va2,vk2,rfl,hE2⟩:=YK hr2;obtain ⟨Aa,na,ca,rfl,ia2⟩:=hE2.args;obtain ⟨Ba,ma,ba,rfl,ik2⟩:=hE2.kids;cases hx:Yfu y with
  | error c'=>
   rw [hx] at hM hR2;obtain ⟨rfl,hc⟩:=hR2;rw [Yk hc];refine zW ?_;intros;exact YN T (vs:=[.agg #[Ze,Ze,Zn,Zn,Zn,Zn],.iface 65 (Zk c')]) Zz ⟨⟨_,_,1,_,_,_,rfl,rfl,rfl,rfl,rfl,rfl⟩,rfl,trivial⟩ (fun fz3 hle3 hf3=>⟨rfl,ResL.err hM hc YaC⟩)
  | ok ea2=>
   rw [hx] at hM hR2;obtain ⟨rfl,rfl⟩:=hR2;refine zW ?_;intros;refine wK (q:=YjL hsz (hz.mono hle2)) (h:=fun r4 fz4 H4 hle4 hR4=>?_);obtain ⟨rfl,eb,cs4,hr4,hR4⟩:=hR4;obtain ⟨va4,vk4,rfl,hE4⟩:=YK hr4;obtain ⟨Ab,nb,cb,rfl,ia4⟩:=hE4.args;obtain ⟨Bb,mb,bb2,rfl,ik4⟩:=hE4.kids;cases hx4:Yfu z with
   | error c'=>
    rw [hx4] at hM hR4;obtain ⟨rfl,hc⟩:=hR4;rw [Yk hc];refine zW ?_;intros;exact YN T (vs:=[.agg #[Ze,Ze,Zn,Zn,Zn,Zn],.iface 65 (Zk c')]) Zz ⟨⟨_,_,2,_,_,_,rfl,rfl,rfl,rfl,rfl,rfl⟩,rfl,trivial⟩ (fun fz3 hle3 hf3=>⟨rfl,ResL.err hM hc YaC⟩)
   | ok eb2=>
    rw [hx4] at hM hR4;obtain ⟨rfl,rfl⟩:=hR4;simp only [Yn2] at hM;have ra:exprL.rep fz4 ea2 [.string ea2.op,.string ea2.name,Zk ea2.n,.slice Aa na ca,.slice Ba ma ba]:=exprL.mono hle4 hr2;refine zW ?_;intros;refine zC (fun c7=>?_) (fun c7=>?_)
    ·rw [if_pos (show w=kGt from c7)] at hM;refine zW ?_;refine Ya Zz (Yb T (cs:=[.string eb2.op,.string eb2.name,Zk eb2.n,.slice Ab nb cb,.slice Bb mb bb2]++ [.string ea2.op,.string ea2.name,Zk ea2.n,.slice Aa na ca,.slice Ba ma ba]) Zz Zz Zz Zz Zz Zz Zz Zz (fun gb=>?_));refine zW ?_;refine YN T (vs:=[.agg #[.string kLt,Ze,Zn,Zn,Zv gb 2 2,Zn],.nilIface]) Zz ⟨⟨_,_,3,_,_,_,rfl,rfl,rfl,rfl,rfl,rfl⟩,rfl,trivial⟩ (fun fz3 hle3 hf3=>⟨rfl,ResL.fine hM ?_⟩);exact YaG (by first | exact hw | (unfold Short;decide)) XV IsSl.nil IsSl.nil ⟨_,_,_,rfl,Xz (m:=2) (ys:=[(eb2,[.string eb2.op,.string eb2.name,Zk eb2.n,.slice Ab nb cb,.slice Bb mb bb2]),(ea2,[.string ea2.op,.string ea2.name,Zk ea2.n,.slice Aa na ca,.slice Ba ma ba])]) (hf3 (gb,_) (.head _)) rfl rfl (by intro p hp;simp only [List.mem_cons,List.not_mem_nil,or_false] at hp;rcases hp with rfl | rfl;exact exprL.mono hle3 hr4;exact exprL.mono hle3 ra) rfl Zh⟩ IsSl.nil
    rw [if_neg (show ¬w=kGt from c7)] at hM;refine wC (fun c8=>?_) (fun c8=>?_)
    ·rw [if_pos (show w=kGe from c8)] at hM;refine zW ?_;refine Ya Zz (Yb T (cs:=[.string eb2.op,.string eb2.name,Zk eb2.n,.slice Ab nb cb,.slice Bb mb bb2]++ [.string ea2.op,.string ea2.name,Zk ea2.n,.slice Aa na ca,.slice Ba ma ba]) Zz Zz Zz Zz Zz Zz Zz Zz (fun gb=>?_));refine zW ?_;refine YN T (vs:=[.agg #[.string kLe,Ze,Zn,Zn,Zv gb 2 2,Zn],.nilIface]) Zz ⟨⟨_,_,3,_,_,_,rfl,rfl,rfl,rfl,rfl,rfl⟩,rfl,trivial⟩ (fun fz3 hle3 hf3=>⟨rfl,ResL.fine hM ?_⟩);exact YaG (by first | exact hw | (unfold Short;decide)) XV IsSl.nil IsSl.nil ⟨_,_,_,rfl,Xz (m:=2) (ys:=[(eb2,[.string eb2.op,.string eb2.name,Zk eb2.n,.slice Ab nb cb,.slice Bb mb bb2]),(ea2,[.string ea2.op,.string ea2.name,Zk ea2.n,.slice Aa na ca,.slice Ba ma ba])]) (hf3 (gb,_) (.head _)) rfl rfl (by intro p hp;simp only [List.mem_cons,List.not_mem_nil,or_false] at hp;rcases hp with rfl | rfl;exact exprL.mono hle3 hr4;exact exprL.mono hle3 ra) rfl Zh⟩ IsSl.nil
    rw [if_neg (show ¬w=kGe from c8)] at hM;refine zW ?_;refine Ya Zz (Yb T (cs:=[.string ea2.op,.string ea2.name,Zk ea2.n,.slice Aa na ca,.slice Ba ma ba]++ [.string eb2.op,.string eb2.name,Zk eb2.n,.slice Ab nb cb,.slice Bb mb bb2]) Zz Zz Zz Zz Zz Zz Zz Zz (fun gb=>?_));refine zW ?_;refine YN T (vs:=[.agg #[.string w,Ze,Zn,Zn,Zv gb 2 2,Zn],.nilIface]) Zz ⟨⟨_,_,3,_,_,_,rfl,rfl,rfl,rfl,rfl,rfl⟩,rfl,trivial⟩ (fun fz3 hle3 hf3=>⟨rfl,ResL.fine hM ?_⟩);exact YaG (by first | exact hw | (unfold Short;decide)) XV IsSl.nil IsSl.nil ⟨_,_,_,rfl,Xz (m:=2) (ys:=[(ea2,[.string ea2.op,.string ea2.name,Zk ea2.n,.slice Aa na ca,.slice Ba ma ba]),(eb2,[.string eb2.op,.string eb2.name,Zk eb2.n,.slice Ab nb cb,.slice Bb mb bb2])]) (hf3 (gb,_) (.head _)) rfl rfl (by intro p hp;simp only [List.mem_cons,List.not_mem_nil,or_false] at hp;rcases hp with rfl | rfl;exact exprL.mono hle3 ra;exact exprL.mono hle3 hr4) rfl Zh⟩ IsSl.nil
end Go.Proofs.YtfjopfinkdhmaaaGreatDoor
