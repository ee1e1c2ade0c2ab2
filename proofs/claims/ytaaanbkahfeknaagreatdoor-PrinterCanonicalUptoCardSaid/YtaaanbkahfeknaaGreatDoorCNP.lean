/- The texts EvQ, EvP, EvO, EvN, EvM, EvK, EvJ, EvI, laid together. Conditions: none. -/
import Derived.Test.YtaaanbkahfeknaaGreatDoorCNO
set_option linter.all false
namespace Go.Ev
open Go.Lx Go.RowKit
theorem nbeq (a b:Nat):Nat.beq a b=decide (a=b):=by
 by_cases h:a=b
 ·subst h;simp
 rw [Xa h];simp [h]
theorem iEq_eq (a b:Int):iEq a b=decide (a=b):=by
 cases a with
 | ofNat a=>
  cases b with
  | ofNat b=>simp only [iEq,nbeq,Int.ofNat.injEq]
  | negSucc b=>simp [iEq]
 | negSucc a=>
  cases b with
  | ofNat b=>simp [iEq]
  | negSucc b=>simp only [iEq,nbeq,Int.negSucc.injEq]
theorem YcA (a b:Int):iLt a b=decide (a<b):=by
 cases a with
 | ofNat a=>
  cases b with
  | ofNat b=>simp only [iLt];rw [Bool.eq_iff_iff,Nat.blt_eq,decide_eq_true_iff];simp
  | negSucc b=>simp only [iLt];symm;rw [decide_eq_false_iff_not];simp only [Int.ofNat_eq_natCast];omega
 | negSucc a=>
  cases b with
  | ofNat b=>simp only [iLt];symm;rw [decide_eq_true_iff];simp only [Int.ofNat_eq_natCast];omega
  | negSucc b=>simp only [iLt];rw [Bool.eq_iff_iff,Nat.blt_eq,decide_eq_true_iff];omega
theorem dle (a b:Int):decide (a<=b)=!decide (b<a):=by
 rw [Bool.eq_iff_iff];simp
theorem kEq_iff {a b:IntKind} (h:kEq a b=true):a=b:=by
 cases a<;>cases b<;>first | rfl | cases h
theorem Yh {k:IntKind} {n:Int} (h:inK k n=true):k.wrap n=n:=by
 cases n with
 | ofNat n=>
  simp only [inK,Nat.blt_eq] at h;cases k<;>simp only [kHi] at h<;>simp only [IntKind.wrap,IntKind.bits,IntKind.signed]<;>simp<;>omega
 | negSucc n=>
  simp only [inK,Nat.blt_eq] at h;cases k<;>simp only [kLo] at h<;>simp only [IntKind.wrap,IntKind.bits,IntKind.signed]<;>simp<;>omega
theorem Yeb (k:IntKind) (n:Int):wrp k n=k.wrap n:=by
 unfold wrp;cases h:inK k n with
 | false=>rfl
 | true=>exact (Yh h).symm
theorem sEq_iff:∀ {x y:List Nat},sEq x y=true↔x=y
 | [],[]=>by simp [sEq]
 | [],_::_=>by simp [sEq]
 | _::_,[]=>by simp [sEq]
 | a::x,b::y=>by
  simp only [sEq];cases h:Nat.beq a b with
  | true=>simp only [Nat.eq_of_beq_eq_true h,List.cons.injEq,true_and];exact sEq_iff
  | false=>
   simp only [List.cons.injEq];constructor
   ·intro h;cases h
   rintro ⟨rfl,_⟩;rw [Nat.beq_refl] at h;cases h
theorem YbT (x:List Nat):(bs x).toList=x.map UInt8.ofNat:=by
 simp [bs,ByteArray.toList_eq]
theorem Ybw (x:List Nat):(bs x).size=x.length:=by simp [bs,ByteArray.size]
theorem Ydv {a b:Nat} (ha:a<256) (hb:b<256) (h:UInt8.ofNat a=UInt8.ofNat b):a=b:=by
 have:=congrArg UInt8.toNat h;simp at this;omega
theorem bs_inj:∀ {x y:List Nat},x.all (fun n=>Nat.blt n 256)=true->y.all (fun n=>Nat.blt n 256)=true->x.map UInt8.ofNat=y.map UInt8.ofNat->x=y
 | [],[],_,_,_=>rfl
 | [],_::_,_,_,h=>by simp at h
 | _::_,[],_,_,h=>by simp at h
 | a::x,b::y,hx,hy,h=>by
  simp only [List.all_cons,Bool.and_eq_true,Nat.blt_eq] at hx hy;simp only [List.map_cons,List.cons.injEq] at h;rw [Ydv hx.1 hy.1 h.1,bs_inj hx.2 hy.2 h.2]
theorem bs_eq {x y:List Nat} (hx:x.all (fun n=>Nat.blt n 256)=true) (hy:y.all (fun n=>Nat.blt n 256)=true):decide (bs x=bs y)=sEq x y:=by
 rw [Bool.eq_iff_iff,decide_eq_true_iff,sEq_iff];constructor
 ·intro h;have:=congrArg ByteArray.toList h;rw [YbT,YbT] at this;exact bs_inj hx hy this
 rintro rfl;rfl
theorem YkG (x y:List Nat):bs x++bs y=bs (x++y):=by
 apply ByteArray.ext;simp [bs]
theorem sLt_eq:∀ {x y:List Nat},x.all (fun n=>Nat.blt n 256)=true->y.all (fun n=>Nat.blt n 256)=true->Op.bytesLess (x.map UInt8.ofNat) (y.map UInt8.ofNat)=sLt x y
 | [],[],_,_=>rfl
 | [],_::_,_,_=>rfl
 | _::_,[],_,_=>rfl
 | a::x,b::y,hx,hy=>by
  simp only [List.all_cons,Bool.and_eq_true,Nat.blt_eq] at hx hy;simp only [List.map_cons,Op.bytesLess,sLt];have e1:decide (UInt8.ofNat a<UInt8.ofNat b)=Nat.blt a b:=by
   rw [Bool.eq_iff_iff,decide_eq_true_iff,Nat.blt_eq,UInt8.lt_iff_toNat_lt];simp;rw [Nat.mod_eq_of_lt hx.1,Nat.mod_eq_of_lt hy.1]
  have e2:(UInt8.ofNat a==UInt8.ofNat b)=Nat.beq a b:=by
   rw [Bool.eq_iff_iff,beq_iff_eq];constructor
   ·intro h;rw [Ydv hx.1 hy.1 h];exact Nat.beq_refl _
   intro h;rw [Nat.eq_of_beq_eq_true h]
  rw [e1,e2,sLt_eq hx.2 hy.2];cases Nat.blt a b<;>cases Nat.beq a b<;>simp
section
variable {P:Program} {cx:Cx} {tT:TT} {T:Tab P} {fz:FZ}
def QS (P:Program) (cx:Cx) (tT:TT) (fz:FZ) (f:QF) (op:Op):Prop:=∀ (ν:Nu) (ar:RD) (r:Operand->Option Value) (h:Tr AO) (H Fm:HP) (c:QC) (dst:Option Nat) (ty:TypeId) (pos:String) (af:Array Edge) (gd:Option (Nat × Bool)),
 RR ν ar r->HR tT ν h H Fm->f tT ar h c=true->∃ av v,c av=true/\gv ν av=some v/\Quiet P cx ⟨dst,op,ty,pos,af,gd⟩ r fz H v
variable {H:HP} {o:Oper} {v:Value}
theorem YO {ν:Nu} {c:QC} {av:AV} {r:Operand->Option Value} (hc:c av=true) (hg:gv ν av=some v) (hd:DoesQ P cx o r fz H fun u=>u=v):
 ∃ av v,c av=true/\gv ν av=some v/\Quiet P cx o r fz H v:=by
 unfold DoesQ at hd;obtain ⟨v',rfl,hq⟩:=hd;exact ⟨av,_,hc,hg,hq⟩
theorem s_move (x:Operand):QS P cx tT fz (qMove x) (.move x):=fun ν ar r h H Fm c dst ty pos af gd hr _ hf=>by
 obtain ⟨a,ha,hc⟩:=Yf hf;obtain ⟨v,h1,h2⟩:=hr x a ha;exact YO hc h1 (Yz rfl (hx:=h2))
theorem s_assign (x:Operand):QS P cx tT fz (qMove x) (.assign x):=fun ν ar r h H Fm c dst ty pos af gd hr _ hf=>by
 obtain ⟨a,ha,hc⟩:=Yf hf;obtain ⟨v,h1,h2⟩:=hr x a ha;exact YO hc h1 (XM rfl (hx:=h2))
theorem s_pick (d x y:Operand):QS P cx tT fz (qPick d x y) (.pick d x y):=fun ν ar r h H Fm c dst ty pos af gd hr _ hf=>by
 obtain ⟨a,ha,hf⟩:=Yf hf;obtain ⟨b,hb,hf⟩:=Yf hf;obtain ⟨v,h1,h2⟩:=hr d a ha;have hv:=YaO hb h1;subst hv;cases b with
 | true=>
  obtain ⟨z,hz,hc⟩:=Yf hf;obtain ⟨u,h3,h4⟩:=hr x z hz;exact YO hc h3 (Ybr rfl (hc:=h2) (hx:=h4))
 | false=>
  obtain ⟨z,hz,hc⟩:=Yf hf;obtain ⟨u,h3,h4⟩:=hr y z hz;exact YO hc h3 (Ycv h2 h4 rfl)
theorem Yad {k:IntKind} {c:QC} {n:Int} (h:rI k c n=true):c (.i k n)=true:=by unfold rI at h;rwa [fI_eq] at h
variable {b:Bool}
theorem W5 {c:QC} (h:rB c b=true):c (.b b)=true:=by unfold rB at h;cases b<;>exact h
variable {n:Nat}
theorem Yhl {c:QC} (h:rN c n=true):c (.i .i64 (.ofNat n))=true:=by unfold rN at h;rwa [YaL] at h
theorem gv_i (ν:Nu) (k:IntKind) (n:Int):gv ν (.i k n)=some (.int k n):=by simp [gv]
theorem gv_b (ν:Nu) (b:Bool):gv ν (.b b)=some (.bool b):=by simp [gv]
section
variable {r:Operand->Option Value} {H:HP} {V:Value->Prop} {dst:Option Nat} {ty:TypeId} {pos:String} {af:Array Edge} {gd:Option (Nat × Bool)} {t t':TypeId} {x y:Operand} {k:IntKind} {a b:Int}
theorem q_quo (hx:r x=some (.int k a)) (hy:r y=some (.int k b)) (hb:b≠0) (h:V (.int k (k.wrap (a.tdiv b)))):DoesQ P cx ⟨dst,.binOp .quo t x y t',ty,pos,af,gd⟩ r fz H V:=
 Yo (fun ρ w hr=>by simp [execOp,hr _ _ hx,hr _ _ hy,eqGuard,binOp,Op.intDiv,hb]) h
theorem q_remK (hx:r x=some (.int k a)) (hy:r y=some (.int k b)) (hb:b≠0) (h:V (.int k (a.tmod b))):DoesQ P cx ⟨dst,.binOp .rem t x y t',ty,pos,af,gd⟩ r fz H V:=
 Yo (fun ρ w hr=>by simp [execOp,hr _ _ hx,hr _ _ hy,eqGuard,binOp,Op.intDiv,hb]) h
theorem q_and (hx:r x=some (.int k a)) (hy:r y=some (.int k b)) (h:V (.int k (k.wrap (BitVec.ofInt k.bits a &&& BitVec.ofInt k.bits b).toNat))):DoesQ P cx ⟨dst,.binOp .and t x y t',ty,pos,af,gd⟩ r fz H V:=
 Yo (fun ρ w hr=>by simp [execOp,hr _ _ hx,hr _ _ hy,eqGuard,binOp,Op.intBits]) h
theorem q_or (hx:r x=some (.int k a)) (hy:r y=some (.int k b)) (h:V (.int k (k.wrap (BitVec.ofInt k.bits a ||| BitVec.ofInt k.bits b).toNat))):DoesQ P cx ⟨dst,.binOp .or t x y t',ty,pos,af,gd⟩ r fz H V:=
 Yo (fun ρ w hr=>by simp [execOp,hr _ _ hx,hr _ _ hy,eqGuard,binOp,Op.intBits]) h
theorem q_xor (hx:r x=some (.int k a)) (hy:r y=some (.int k b)) (h:V (.int k (k.wrap (BitVec.ofInt k.bits a ^^^ BitVec.ofInt k.bits b).toNat))):DoesQ P cx ⟨dst,.binOp .xor t x y t',ty,pos,af,gd⟩ r fz H V:=
 Yo (fun ρ w hr=>by simp [execOp,hr _ _ hx,hr _ _ hy,eqGuard,binOp,Op.intBits]) h
theorem q_andNot (hx:r x=some (.int k a)) (hy:r y=some (.int k b)) (h:V (.int k (k.wrap (BitVec.ofInt k.bits a &&& ~~~BitVec.ofInt k.bits b).toNat))):DoesQ P cx ⟨dst,.binOp .andNot t x y t',ty,pos,af,gd⟩ r fz H V:=
 Yo (fun ρ w hr=>by simp [execOp,hr _ _ hx,hr _ _ hy,eqGuard,binOp,Op.intBits]) h
theorem q_shl {k':IntKind} (hx:r x=some (.int k a)) (hy:r y=some (.int k' b)) (hb:¬b<0) (h:V (.int k (k.wrap (a*2 ^ (min b.toNat k.bits))))):DoesQ P cx ⟨dst,.binOp .shl t x y t',ty,pos,af,gd⟩ r fz H V:=
 Yo (fun ρ w hr=>by simp [execOp,hr _ _ hx,hr _ _ hy,eqGuard,binOp,Op.shift,hb]) h
theorem q_shr {k':IntKind} (hx:r x=some (.int k a)) (hy:r y=some (.int k' b)) (hb:¬b<0) (h:V (.int k (a.fdiv (2 ^ (min b.toNat k.bits))))):DoesQ P cx ⟨dst,.binOp .shr t x y t',ty,pos,af,gd⟩ r fz H V:=
 Yo (fun ρ w hr=>by simp [execOp,hr _ _ hx,hr _ _ hy,eqGuard,binOp,Op.shift,hb]) h
end
section
variable {ν:Nu} {r:Operand->Option Value} {H:HP} {c:QC} {dst:Option Nat} {ty:TypeId} {pos:String} {af:Array Edge} {gd:Option (Nat × Bool)} {t t':TypeId} {x y:Operand}
theorem ibin_s {op:BinOp} {k k':IntKind} {a b:Int} (hx:r x=some (.int k a)) (hy:r y=some (.int k' b)) (hk:(isSh op || kEq k k')=true) (h:ibin op k a b c=true):
 ∃ av v,c av=true/\gv ν av=some v/\Quiet P cx ⟨dst,.binOp op t x y t',ty,pos,af,gd⟩ r fz H v:=by
 have hk':isSh op=false->k=k':=fun hs=>by rw [hs] at hk;exact kEq_iff hk
 cases op with
 | add=>have e:=hk' rfl;subst e;exact YO (Yad h) (gv_i _ _ _) (YM hx hy (Yeb _ _).symm rfl)
 | sub=>have e:=hk' rfl;subst e;exact YO (Yad h) (gv_i _ _ _) (Ybp hx hy (Yeb _ _).symm rfl)
 | mul=>have e:=hk' rfl;subst e;exact YO (Yad h) (gv_i _ _ _) (WG hx hy (Yeb _ _).symm rfl)
 | quo=>
  have e:=hk' rfl;subst e;have h':br (rI k c (wrp k (a.tdiv b))) false (iEq b 0)=true:=h;cases hb:iEq b 0 with
  | true=>rw [hb] at h';cases h'
  | false=>
   rw [hb] at h';rw [iEq_eq,decide_eq_false_iff_not] at hb;refine YO (Yad h') (gv_i _ _ _) (q_quo hx hy hb ?_);rw [Yeb]
 | rem=>
  have e:=hk' rfl;subst e;have h':br (rI k c (a.tmod b)) false (iEq b 0)=true:=h;cases hb:iEq b 0 with
  | true=>rw [hb] at h';cases h'
  | false=>
   rw [hb] at h';rw [iEq_eq,decide_eq_false_iff_not] at hb;exact YO (Yad h') (gv_i _ _ _) (q_remK hx hy hb rfl)
 | and=>have e:=hk' rfl;subst e;exact YO (Yad h) (gv_i _ _ _) (q_and hx hy rfl)
 | or=>have e:=hk' rfl;subst e;exact YO (Yad h) (gv_i _ _ _) (q_or hx hy rfl)
 | xor=>have e:=hk' rfl;subst e;exact YO (Yad h) (gv_i _ _ _) (q_xor hx hy rfl)
 | andNot=>have e:=hk' rfl;subst e;exact YO (Yad h) (gv_i _ _ _) (q_andNot hx hy rfl)
 | shl=>
  have h':br (rI k c (k.wrap (a*2 ^ (min b.toNat k.bits)))) false (iLt b 0)=true:=h;cases hb:iLt b 0 with
  | true=>rw [hb] at h';cases h'
  | false=>
   rw [hb] at h';rw [YcA,decide_eq_false_iff_not] at hb;exact YO (Yad h') (gv_i _ _ _) (q_shl hx hy hb rfl)
 | shr=>
  have h':br (rI k c (a.fdiv (2 ^ (min b.toNat k.bits)))) false (iLt b 0)=true:=h;cases hb:iLt b 0 with
  | true=>rw [hb] at h';cases h'
  | false=>
   rw [hb] at h';rw [YcA,decide_eq_false_iff_not] at hb;exact YO (Yad h') (gv_i _ _ _) (q_shr hx hy hb rfl)
 | eql=>have e:=hk' rfl;subst e;exact YO (W5 h) (gv_b _ _) (q_eql (by rw [iEq_eq]) (hx:=hx) (hy:=hy))
 | neq=>have e:=hk' rfl;subst e;exact YO (W5 h) (gv_b _ _) (q_neq hx hy (by rw [iEq_eq];simp))
 | lss=>have e:=hk' rfl;subst e;exact YO (W5 h) (gv_b _ _) (q_lss hx hy (by rw [YcA]))
 | leq=>have e:=hk' rfl;subst e;exact YO (W5 h) (gv_b _ _) (q_leq hx hy (by rw [YcA,dle]))
 | gtr=>have e:=hk' rfl;subst e;exact YO (W5 h) (gv_b _ _) (q_gtr hx hy (by rw [YcA]))
 | geq=>have e:=hk' rfl;subst e;exact YO (W5 h) (gv_b _ _) (q_geq hx hy (by rw [YcA,dle]))
theorem Ybq {op:BinOp} {u w:Bs} {V:Value->Prop} (ho:op≠ .shl/\op≠ .shr) (hx:r x=some (.string u)) (hy:r y=some (.string w)) (hs:∀ w0,(Op.stringOp op u w).run P w0=.ok v w0) (h:V v):
 DoesQ P cx ⟨dst,.binOp op t x y t',ty,pos,af,gd⟩ r fz H V:=
 Yo (fun ρ w0 hr=>by
  have hg:∀ w0,(eqGuard op t x y (.string u) (.string w)).run P w0=.ok () w0:=fun w0=>by
   unfold eqGuard;cases op<;>simp
  have hb:binOp op t (.string u) (.string w)=Op.stringOp op u w:=by cases op<;>rfl
  simp only [execOp,hr _ _ hx,hr _ _ hy,Sem.run_bind,hg,Result.andThen_ok,hb,hs,Sem.run_pure]) h
theorem sbin_s {op:BinOp} {a b:List Nat} (ha:a.all (fun n=>Nat.blt n 256)=true) (hb:b.all (fun n=>Nat.blt n 256)=true) (hx:r x=some (.string (bs a))) (hy:r y=some (.string (bs b))) (h:sbin op a b c=true):
 ∃ av v,c av=true/\gv ν av=some v/\Quiet P cx ⟨dst,.binOp op t x y t',ty,pos,af,gd⟩ r fz H v:=by
 have hl:Op.bytesLess (bs a).toList (bs b).toList=sLt a b:=by rw [YbT,YbT];exact sLt_eq ha hb
 have he:((bs a).toList==(bs b).toList)=sEq a b:=by rw [YeJ];exact bs_eq ha hb
 cases op with
 | add=>
  have h':sCat a b c=true:=h;unfold sCat at h';rw [fS_eq] at h';obtain ⟨h1,h2⟩:=YE h';rw [Nat.blt_eq] at h1;refine YO h2 (v:=.string (bs (a++b))) (by simp only [gv];rw [if_pos (by simp [ha,hb])]) (Ybq (by simp) hx hy (fun w0=>?_) rfl);have:¬(((bs a).size+(bs b).size:Nat):Int)>IntKind.i64.max:=by
   rw [Ybw,Ybw];simp only [List.length_append] at h1;simp [IntKind.max,IntKind.signed,IntKind.bits];omega
  simp only [Op.stringOp,if_neg this,YkG,Sem.run_pure]
 | eql=>exact YO (W5 h) (gv_b _ _) (Ybq (by simp) hx hy (fun w0=>by simp only [Op.stringOp,he,Sem.run_pure]) rfl)
 | neq=>exact YO (W5 h) (gv_b _ _) (Ybq (by simp) hx hy (fun w0=>by simp only [Op.stringOp,he,Sem.run_pure]) rfl)
 | lss=>exact YO (W5 h) (gv_b _ _) (Ybq (by simp) hx hy (fun w0=>by simp only [Op.stringOp,hl,Sem.run_pure]) rfl)
 | leq=>exact YO (W5 h) (gv_b _ _) (Ybq (by simp) hx hy (fun w0=>by simp only [Op.stringOp,hl,he,Sem.run_pure];rfl) rfl)
 | gtr=>exact YO (W5 h) (gv_b _ _) (Ybq (by simp) hx hy (fun w0=>by simp only [Op.stringOp,hl,he,Sem.run_pure];rfl) rfl)
 | geq=>exact YO (W5 h) (gv_b _ _) (Ybq (by simp) hx hy (fun w0=>by simp only [Op.stringOp,hl,Sem.run_pure]) rfl)
 | sub=>cases h
 | mul=>cases h
 | quo=>cases h
 | rem=>cases h
 | and=>cases h
 | or=>cases h
 | xor=>cases h
 | shl=>cases h
 | shr=>cases h
 | andNot=>cases h
variable {u:Value}
theorem q_eqv {neg z:Bool} {w:Value} {V:Value->Prop} (hx:r x=some u) (hy:r y=some w) (hg:∀ op w0,(eqGuard op t x y u w).run P w0=.ok () w0) (he:∀ w0,(Op.equal t u w).run P w0=.ok z w0)
 (hb:binOp (br .eql .neq neg) t u w=br (do pure (.bool (<- Op.equal t u w))) (do pure (.bool (!(<- Op.equal t u w)))) neg) (h:V (.bool (z !=neg))):
 DoesQ P cx ⟨dst,.binOp (br .eql .neq neg) t x y t',ty,pos,af,gd⟩ r fz H V:=
 Yo (fun ρ w0 hr=>by
  simp only [execOp,hr _ _ hx,hr _ _ hy,Sem.run_bind,hg,Result.andThen_ok,hb];cases neg<;>simp only [Y4,YF,Sem.run_bind,he,Result.andThen_ok,Sem.run_pure]<;>cases z<;>rfl) h
theorem Yka {op:BinOp} {w:Value} (h1:¬(u=.nilIface/\w=.nilIface)) (h2:∀ c,u≠ .agg c) (w0:World):(eqGuard op t x y u w).run P w0=.ok () w0:=by
 unfold eqGuard;cases op<;>simp only [Bool.not_true,Bool.not_false,if_true,Bool.false_eq_true,if_false,Sem.run_pure]<;>
  split<;>first | rfl | (exact absurd ⟨rfl,rfl⟩ h1) | (exact absurd rfl (h2 _)) | simp_all
theorem Wv {d:TypeDesc} {w:Value} {z:Bool} (w0:World) (hu:P.underlying t=some d) (h:∀ n,(match d,u,w with
 | .bool,.bool a,.bool b=>pure (a==b)
 | .pointer _,.pointer none,.pointer b=>pure b.isNone
 | .pointer _,.pointer _,.pointer none=>pure false
 | .interface _,.nilIface,.nilIface=>pure true
 | .interface _,.nilIface,.iface _ _ | .interface _,.iface _ _,.nilIface=>pure false
 | .slice _,.slice none _ _,.slice b _ _=>pure b.isNone
 | .slice _,.slice _ _ _,.slice none _ _=>pure false
 | .map _ _,.map none,.map b=>pure b.isNone
 | .map _ _,.map _,.map none=>pure false
 | .func _ _ _,.nilFunc,.nilFunc=>pure true
 | .func _ _ _,.nilFunc,.func _ _ _ | .func _ _ _,.func _ _ _,.nilFunc=>pure false
 | _,_,_=>Op.equalIn n t u w:Sem Bool).run P w0=.ok z w0):(Op.equal t u w).run P w0=.ok z w0:=by
 have:∀ n,(Op.equalIn (n+1) t u w).run P w0=.ok z w0:=fun n=>by
  have hn:=h (n+1);split at hn
  all_goals first
   | (unfold Op.equalIn;simp only [Sem.run_bind,run_underlying hu,Result.andThen_ok];exact hn)
   | exact hn
 exact this 9999
theorem eqv_s (hT:TA tT T) {neg:Bool} {a b:AV} {w:Value} (ha:gv ν a=some u) (hb:gv ν b=some w) (hx:r x=some u) (hy:r y=some w) (h:eqv tT neg t (isC x || isC y) a b c=true):
 ∃ av v,c av=true/\gv ν av=some v/\Quiet P cx ⟨dst,.binOp (br .eql .neq neg) t x y t',ty,pos,af,gd⟩ r fz H v:=by
 obtain ⟨A,hA,h⟩:=Yf h;obtain ⟨z,hz,h⟩:=Yf h;obtain ⟨X,hX,hR⟩:=hT t A hA;have fin:∀ (d:TypeDesc),P.underlying t=some d->(¬(u=.nilIface/\w=.nilIface))->(∀ c,u≠ .agg c)->(∀ w0,(Op.equal t u w).run P w0=.ok z w0)->
  (binOp (br .eql .neq neg) t u w=br (do pure (.bool (<- Op.equal t u w))) (do pure (.bool (!(<- Op.equal t u w)))) neg)->
  ∃ av v,c av=true/\gv ν av=some v/\Quiet P cx ⟨dst,.binOp (br .eql .neq neg) t x y t',ty,pos,af,gd⟩ r fz H v:=fun d hu h1 h2 h3 h4=>
  YO (W5 h) (gv_b _ _) (q_eqv hx hy (fun op w0=>Yka h1 h2 w0) h3 h4 rfl)
 cases a with
 | b p=>
  obtain ⟨hk,hz⟩:=YZ hz;obtain ⟨q,hq,hz⟩:=YB hz;injection hz with hz;subst hz
  have e1:u=.bool p:=by simp only [gv] at ha;injection ha with ha;exact ha.symm
  have e2:=YaO hq hb;subst e1 e2;have hu:=und_plain T hX (hR.d0 (Nat.eq_of_beq_eq_true hk)) rfl;exact fin _ hu (by simp) (by simp) (fun w0=>Wv w0 hu (fun n=>by simp)) (by cases neg<;>rfl)
 | p p=>
  obtain ⟨hk,hz⟩:=YZ hz;have hu:=und_plain T hX (hR.d3 (Nat.eq_of_beq_eq_true hk)) rfl;cases b with
  | p q=>
   simp only at hz;simp only [gv] at ha hb;cases hp:gA ν p with
   | none=>simp [hp] at ha
   | some P1=>
    cases hq:gA ν q with
    | none=>simp [hq] at hb
    | some Q1=>
     simp [hp] at ha;simp [hq] at hb;subst ha hb;cases p with
     | none=>
      cases q with
      | none=>
       simp [gA] at hp hq;subst hp hq;injection hz with hz;subst hz
       exact fin _ hu (by simp) (by simp) (fun w0=>Wv w0 hu (fun n=>by simp)) (by cases neg<;>rfl)
      | some q=>
       simp [gA] at hp;subst hp;injection hz with hz;subst hz
       cases Q1 with
       | none=>simp [gA] at hq
       | some Q=>exact fin _ hu (by simp) (by simp) (fun w0=>Wv w0 hu (fun n=>by simp)) (by cases neg<;>rfl)
     | some p=>
      cases q with
      | none=>
       simp [gA] at hq;subst hq;injection hz with hz;subst hz
       cases P1 with
       | none=>simp [gA] at hp
       | some Q=>exact fin _ hu (by simp) (by simp) (fun w0=>Wv w0 hu (fun n=>by simp)) (by cases neg<;>rfl)
      | some q=>cases hz
  | _=>simp at hz
 | ni=>
  obtain ⟨hk,hz⟩:=YZ hz;obtain ⟨ms,hd⟩:=hR.d7 (Nat.eq_of_beq_eq_true hk);have hu:=WM T hX hd;simp only [gv] at ha;injection ha with ha;subst ha
  cases b with
  | ifc tt vv=>
   simp only [gv] at hb;cases hv:gv ν vv with
   | none=>simp [hv] at hb
   | some V=>
    simp [hv] at hb;subst hb;simp only at hz;injection hz with hz;subst hz
    exact fin _ hu (by simp) (by simp) (fun w0=>Wv w0 hu (fun n=>by simp)) (by cases neg<;>rfl)
  | ni=>
   obtain ⟨hcon,hz⟩:=YZ hz;injection hz with hz;subst hz
   simp only [gv] at hb;injection hb with hb;subst hb
   refine YO (W5 h) (gv_b _ _) (q_eqv hx hy (fun op w0=>?_) (fun w0=>Wv w0 hu (fun n=>by simp)) (by cases neg<;>rfl) rfl);unfold eqGuard;cases x<;>cases y<;>simp [isC] at hcon<;>cases op<;>simp
  | _=>simp at hz
 | ifc tt vv=>
  obtain ⟨hk,hz⟩:=YZ hz;obtain ⟨ms,hd⟩:=hR.d7 (Nat.eq_of_beq_eq_true hk);have hu:=WM T hX hd;simp only [gv] at ha;cases hv:gv ν vv with
  | none=>simp [hv] at ha
  | some V=>
   simp [hv] at ha;subst ha;cases b with
   | ni=>
    simp only at hz;injection hz with hz;subst hz
    simp only [gv] at hb;injection hb with hb;subst hb
    exact fin _ hu (by simp) (by simp) (fun w0=>Wv w0 hu (fun n=>by simp)) (by cases neg<;>rfl)
   | _=>simp at hz
 | sl p n lo sy=>
  obtain ⟨hk,hz⟩:=YZ hz;obtain ⟨q,hq,hz⟩:=YB hz;obtain ⟨hqn,hz⟩:=YZ hz;injection hz with hz;subst hz
  have hu:=und_plain T hX (hR.d4 (Nat.eq_of_beq_eq_true hk)) rfl;obtain ⟨A1,c1,h1,_,_,rfl⟩:=Yaa (a:=.sl p n lo sy) rfl ha;obtain ⟨A2,c2,h2,_,_,rfl⟩:=Yaa hq hb;have hqa:q.a=none:=by simpa using hqn
  rw [hqa] at h2;simp [gA] at h2;subst h2;simp only at h1;cases p with
  | none=>
   simp [gA] at h1;subst h1;exact fin _ hu (by simp) (by simp) (fun w0=>Wv w0 hu (fun n=>by simp)) (by cases neg<;>rfl)
  | some p=>
   cases A1 with
   | none=>simp [gA] at h1
   | some A1=>exact fin _ hu (by simp) (by simp) (fun w0=>Wv w0 hu (fun n=>by simp)) (by cases neg<;>rfl)
 | m p=>
  obtain ⟨hk,hz⟩:=YZ hz;obtain ⟨q,hq,hz⟩:=YB hz;obtain ⟨hqn,hz⟩:=YZ hz;injection hz with hz;subst hz
  have hu:=und_plain T hX (hR.d6 (Nat.eq_of_beq_eq_true hk)) rfl;obtain ⟨A1,h1,rfl⟩:=Ybx (a:=.m p) rfl ha;obtain ⟨A2,h2,rfl⟩:=Ybx hq hb;have hqa:q=none:=by simpa using hqn
  subst hqa;simp [gM] at h2;subst h2;cases p with
  | none=>
   simp [gM] at h1;subst h1;exact fin _ hu (by simp) (by simp) (fun w0=>Wv w0 hu (fun n=>by simp)) (by cases neg<;>rfl)
  | some p=>
   cases A1 with
   | none=>simp [gM] at h1
   | some A1=>exact fin _ hu (by simp) (by simp) (fun w0=>Wv w0 hu (fun n=>by simp)) (by cases neg<;>rfl)
 | nf=>
  obtain ⟨hk,hz⟩:=YZ hz;obtain ⟨f1,f2,f3,hd⟩:=hR.d8 (Nat.eq_of_beq_eq_true hk);obtain ⟨d',hu,hdd⟩:=(T.ok_ hX).und;rw [hd] at hdd;simp only [gv] at ha;injection ha with ha;subst ha
  cases b with
  | nf=>
   simp only at hz;injection hz with hz;subst hz
   simp only [gv] at hb;injection hb with hb;subst hb
   cases d' with
   | func a1 a2 a3=>exact fin _ hu (by simp) (by simp) (fun w0=>Wv w0 hu (fun n=>by simp)) (by cases neg<;>rfl)
   | _=>exact absurd hdd (by intro hc;cases hc)
  | _=>simp at hz
 | f g xs ys=>
  obtain ⟨hk,hz⟩:=YZ hz;obtain ⟨f1,f2,f3,hd⟩:=hR.d8 (Nat.eq_of_beq_eq_true hk);obtain ⟨d',hu,hdd⟩:=(T.ok_ hX).und;rw [hd] at hdd;obtain ⟨us,vs,_,_,rfl⟩:=Yfe (a:=.f g xs ys) rfl ha;cases b with
  | nf=>
   simp only at hz;injection hz with hz;subst hz
   simp only [gv] at hb;injection hb with hb;subst hb
   cases d' with
   | func a1 a2 a3=>exact fin _ hu (by simp) (by simp) (fun w0=>Wv w0 hu (fun n=>by simp)) (by cases neg<;>rfl)
   | _=>exact absurd hdd (by intro hc;cases hc)
  | _=>simp at hz
 | i _ _=>cases hz
 | s _=>cases hz
 | agg _=>cases hz
 | tup _=>cases hz
end
end
section
variable {P:Program} {cx:Cx} {tT:TT} {T:Tab P} {fz:FZ}
theorem s_bin (hT:TA tT T) (op:BinOp) (t t':TypeId) (x y:Operand):QS P cx tT fz (qBin op t x y) (.binOp op t x y t'):=fun ν ar r h H Fm c dst ty pos af gd hr _ hf=>by
 obtain ⟨a,ha,hf⟩:=Yf hf;obtain ⟨b,hb,hf⟩:=Yf hf;obtain ⟨u,h1,h2⟩:=hr x a ha;obtain ⟨w,h3,h4⟩:=hr y b hb;have other:eqo op tT t (isC x || isC y) a b c=true->∃ av v,c av=true/\gv ν av=some v/\Quiet P cx ⟨dst,.binOp op t x y t',ty,pos,af,gd⟩ r fz H v:=by
  intro he;cases op with
  | eql=>exact eqv_s hT (neg:=false) h1 h3 h2 h4 he
  | neq=>exact eqv_s hT (neg:=true) h1 h3 h2 h4 he
  | _=>cases he
 cases a with
 | i k m=>
  obtain ⟨z,hz,hf⟩:=Yf hf;obtain ⟨hk,hf⟩:=YE hf;have e1:u=.int k m:=by simp only [gv] at h1;injection h1 with h1;exact h1.symm
  have e2:=WJ hz h3;subst e1 e2;exact ibin_s h2 h4 hk hf
 | s l=>
  obtain ⟨q,hq,hf⟩:=Yf hf;obtain ⟨rfl,hl⟩:=Wa (a:=.s l) rfl h1;obtain ⟨rfl,hq'⟩:=Wa hq h3;exact sbin_s hl hq' h2 h4 hf
 | b _=>exact other hf
 | p _=>exact other hf
 | sl _ _ _ _=>exact other hf
 | m _=>exact other hf
 | f _ _ _=>exact other hf
 | nf=>exact other hf
 | ifc _ _=>exact other hf
 | ni=>exact other hf
 | agg _=>exact other hf
 | tup _=>exact other hf
theorem s_un (op:UnOp) (t:TypeId) (x:Operand):QS P cx tT fz (qUn op x) (.unOp op t x):=fun ν ar r h H Fm c dst ty pos af gd hr _ hf=>by
 cases op with
 | not=>
  obtain ⟨a,ha,hf⟩:=Yf hf;obtain ⟨b,hb,hf⟩:=Yf hf;obtain ⟨u,h1,h2⟩:=hr x a ha;have:=YaO hb h1;subst this;exact YO (W5 hf) (gv_b _ _) (q_not h2 rfl)
 | neg=>
  obtain ⟨a,ha,hf⟩:=Yf hf;obtain ⟨z,hz,hf⟩:=Yf hf;obtain ⟨u,h1,h2⟩:=hr x a ha;have:=WJ hz h1;subst this;refine YO (Yad hf) (gv_i _ _ _) (Yo (fun ρ w hr=>?_) rfl);simp [execOp,hr _ _ h2,Op.unary,Op.intArith,Yeb]
 | _=>cases hf
theorem s_nil (x:Operand):QS P cx tT fz (qNil x) (.nilCheck x):=fun ν ar r h H Fm c dst ty pos af gd hr _ hf=>by
 obtain ⟨a,ha,hf⟩:=Yf hf;obtain ⟨u,h1,h2⟩:=hr x a ha;cases a with
 | p q=>
  obtain ⟨q,rfl,hf⟩:=Yf hf;obtain ⟨b,hb,rfl⟩:=Yam (a:=.p (some q)) rfl h1;exact YO hf h1 (Yo (fun ρ w hr=>by simp [execOp,hr _ _ h2]) rfl)
 | f g xs ys=>
  obtain ⟨us,vs,_,_,rfl⟩:=Yfe (a:=.f g xs ys) rfl h1;exact YO hf h1 (Yo (fun ρ w hr=>by simp [execOp,hr _ _ h2]) rfl)
 | _=>cases hf
theorem s_mkI (hT:TA tT T) (t:TypeId) (x:Operand):QS P cx tT fz (qMkI t x) (.makeInterface t x):=fun ν ar r h H Fm c dst ty pos af gd hr _ hf=>by
 obtain ⟨A,hA,hf⟩:=Yf hf;obtain ⟨X,hX,hR⟩:=hT t A hA;cases hk:Nat.beq A.k 7 with
 | true=>rw [hk] at hf;cases hf
 | false=>
  rw [hk] at hf;obtain ⟨a,ha,hf⟩:=Yf hf;obtain ⟨u,h1,h2⟩:=hr x a ha;exact YO hf (v:=.iface t u) (by simp [gv,h1]) (YaX T hX (hR.nif (fun he=>by rw [he] at hk;cases hk)) h2 rfl)
theorem s_mkF (fn:Fn) (xs ys:Array Operand):QS P cx tT fz (qMkF fn xs.toList ys.toList) (.makeFunc fn xs ys):=fun ν ar r h H Fm c dst ty pos af gd hr _ hf=>by
 cases fn with
 | func f=>
  obtain ⟨l,hl,hf⟩:=Yf hf;rw [Wq] at hf;obtain ⟨q,hq,hf⟩:=Yf hf;rw [Wq] at hf;obtain ⟨us,h1,h2⟩:=hr.all hl;obtain ⟨vs,h3,h4⟩:=hr.all hq;exact YO hf (v:=.func (.func f) us.toArray vs.toArray) (by simp [gv,h1,h3]) (Yil (xs:=xs.toList) (ys:=ys.toList) h2 h4 rfl)
 | _=>cases hf
theorem s_ext (x:Operand) (i:Nat):QS P cx tT fz (qExt x i) (.extract x i):=fun ν ar r h H Fm c dst ty pos af gd hr _ hf=>by
 obtain ⟨a,ha,hf⟩:=Yf hf;obtain ⟨vs,hvs,hf⟩:=Yf hf;obtain ⟨z,hz,hc⟩:=Yf hf;obtain ⟨u,h1,h2⟩:=hr x a ha;obtain ⟨l,hl,rfl⟩:=asT_iff hvs h1;obtain ⟨v,h3,h4⟩:=Yca hl (Ybn hz);exact YO hc h4 (YfF rfl (hx:=h2) (hv:=by simpa using h3))
theorem addr_add (b off j:Nat):(⟨b,off,none⟩:Addr).add j=⟨b,off+j,none⟩:=by
 unfold Addr.add;split
 ·rename_i h;subst h;rfl
 rfl
variable {H:HP} {e:TypeId} {w:World}
theorem YaM (hi:Inv cx fz H w) {b:Nat} {arr:Array Value} {f:Nat × Nat} (hm:(b,Obj.cells arr e f)∈H) (j:Nat):w.cell? ⟨b,j,none⟩=arr[j]?:=by
 have:=(hi.hp.own _ hm).1;simp only at this;simp [World.cell?,this]
theorem HR.cells {ν:Nu} {h:Tr AO} {Fm:HP} (hh:HR tT ν h H Fm) {id:Nat} {o:AO} {cs:List AV} (hg:h.get id=some o) (hc:YfO o=some cs):
 ∃ b vs l e f,ν.blk id=some b/\gvs ν cs=some vs/\(b,Obj.cells (vs++l).toArray e f)∈H:=by
 obtain ⟨b,x,h1,h2,h3⟩:=hh.own id o hg;cases o with
 | cells cs' e sl fr=>
  simp [YfO] at hc;subst hc;simp only [go] at h2;cases hv:gvs ν cs' with
  | none=>simp [hv] at h2
  | some vs=>
   cases hs:gS ν sl with
   | none=>simp [hv,hs] at h2
   | some l=>
    simp [hv,hs] at h2;subst h2;exact ⟨b,vs,l,_,_,h1,rfl,by simpa using h3⟩
 | map _ _=>simp [YfO] at hc
 | mit _ _ _ _=>simp [YfO] at hc
theorem s_load (hT:TA tT T) (t:TypeId) (x:Operand):QS P cx tT fz (qLoad t x) (.load t x):=fun ν ar r h H Fm c dst ty pos af gd hr hh hf=>by
 obtain ⟨a,ha,hf⟩:=Yf hf;obtain ⟨p,hp,hf⟩:=Yf hf;obtain ⟨o,ho,hf⟩:=Yf hf;obtain ⟨cs,hcs,hf⟩:=Yf hf;obtain ⟨Y,hY,hf⟩:=Yf hf;obtain ⟨u,h1,h2⟩:=hr x a ha;obtain ⟨b,hb,rfl⟩:=Yam hp h1;obtain ⟨X,hX,hR⟩:=hT t Y hY;obtain ⟨b',vs,l,e,f,hb',hvs,hm⟩:=hh.cells ho hcs;rw [hb] at hb';injection hb' with hb';subst hb'
 cases hag:Y.agg with
 | false=>
  rw [hag] at hf;obtain ⟨z,hz,hc⟩:=Yf hf;obtain ⟨v,h3,h4⟩:=Yca hvs (Ybn hz);refine ⟨z,v,hc,h4,fun ρ w hr hi=>?_⟩;have hcell:w.cell? ⟨b,p.2,none⟩=some v:=by
   rw [YaM hi hm];have hlt:p.2<vs.length:=(Zg h3).1;simp only [List.getElem?_toArray];rw [List.getElem?_append_left hlt];exact h3
  have:=YbG T hX (by rw [hR.agg,hag]) hcell;simp only [execOp,hr _ _ h2,Instr.loadAt,Instr.sureAddr,Sem.run_bind,Sem.run_pure,Result.andThen_ok,this];exact ⟨rfl,Fr.refl _ _⟩
 | true=>
  rw [hag] at hf;obtain ⟨q,hq,hf⟩:=Yf hf;rw [Wq] at hf;obtain ⟨h3,h4⟩:=YbN hvs hq;refine ⟨.agg q,.agg ((vs.drop p.2).take Y.size).toArray,hf,by simp [gv,h4],fun ρ w hr hi=>?_⟩;have hc:∀ j v,((vs.drop p.2).take Y.size)[j]?=some v->w.cell? ((⟨b,p.2,none⟩:Addr).add j)=some v:=fun j v hj=>by
   rw [addr_add,YaM hi hm];rw [List.getElem?_take] at hj;split at hj
   ·rename_i hlt;rw [List.getElem?_drop] at hj;have hlt':p.2+j<vs.length:=(Zg hj).1;simp only [List.getElem?_toArray];rw [List.getElem?_append_left hlt'];exact hj
   cases hj
  have:=W3 T hX (by rw [hR.agg,hag]) (cs:=(vs.drop p.2).take Y.size) (by rw [hR.size];simp;omega) hc;simp only [execOp,hr _ _ h2,Instr.loadAt,Instr.sureAddr,Sem.run_bind,Sem.run_pure,Result.andThen_ok,this];exact ⟨rfl,Fr.refl _ _⟩
end
section
variable {P:Program} {cx:Cx} {tT:TT} {T:Tab P} {fz:FZ}
variable {n:Nat}
theorem YdR {a:Nat × Nat} {c:Nat × Nat->Bool} (h:add_ a n c=true):c (a.1,a.2+n)=true:=by unfold add_ at h;rwa [YaL] at h
theorem Yj9 {ν:Nu} {id off b:Nat} (h:ν.blk id=some b):gv ν (.p (some (id,off)))=some (.pointer (some ⟨b,off,none⟩)):=by simp [gv,gA,h]
variable {i:Nat}
theorem YhJ {fs:Array Field} {l:List (Nat × Nat)} {q:Nat × Nat} (h:fs.toList.map (fun f=>(f.type,f.offset))=l) (hi:at_ l i=some q):∃ f,fs[i]?=some f/\f.type=q.1/\f.offset=q.2:=by
 have:=Ybn hi;rw [<- h,List.getElem?_map] at this;cases hf:fs.toList[i]? with
 | none=>simp [hf] at this
 | some f=>
  simp [hf] at this;subst this;exact ⟨f,by simpa using hf,rfl,rfl⟩
theorem s_fa (hT:TA tT T) (t:TypeId) (x:Operand) (i:Nat):QS P cx tT fz (qFA t x i) (.fieldAddr t x i):=fun ν ar r h H Fm c dst ty pos af gd hr hh hf=>by
 obtain ⟨A,X,hA,hX,hR,hk,hf⟩:=WE hT hf;obtain ⟨a,ha,hf⟩:=Yf hf;obtain ⟨p,hp,hf⟩:=Yf hf;obtain ⟨q,hq,hf⟩:=Yf hf;obtain ⟨Y,hY,hf⟩:=Yf hf;obtain ⟨u,h1,h2⟩:=hr x a ha;obtain ⟨b,hb,rfl⟩:=Yam hp h1;obtain ⟨fs,hd,hfs⟩:=hR.d9 hk;obtain ⟨f,hf1,hf2,hf3⟩:=YhJ hfs hq;obtain ⟨Z,hZ,hRZ⟩:=hT q.1 Y hY;cases hz:Nat.beq Y.size 0 with
 | true=>rw [hz] at hf;cases hf
 | false=>
  rw [hz,YF] at hf;exact YO (YdR hf) (Yj9 hb) (Ye (by rw [addr_add,hf3]) (hT:=hX) (hd:=hd) (hf:=hf1) (hY:=by rw [hf2];exact hZ) (hz:=by rw [hRZ.size];exact hz) (hx:=h2))
variable {t:TypeId}
theorem prt_s (hT:TA tT T) {ν:Nu} {cs:List AV} {vs:List Value} {off:Nat} {c:QC} (hv:gvs ν cs=some vs) (h:prt tT t cs off c=true):
 ∃ av v,c av=true/\gv ν av=some v/\∀ w,(part t vs.toArray off).run P w=.ok v w:=by
 obtain ⟨Y,hY,h⟩:=Yf h;obtain ⟨X,hX,hR⟩:=hT t Y hY;cases hag:Y.agg with
 | false=>
  rw [hag] at h;obtain ⟨z,hz,hc⟩:=Yf h;obtain ⟨v,h3,h4⟩:=Yca hv (Ybn hz);refine ⟨z,v,hc,h4,fun w=>?_⟩;have:=run_isAgg T hX w;rw [hR.agg,hag] at this;simp [part,this,h3]
 | true=>
  rw [hag] at h;obtain ⟨q,hq,h⟩:=Yf h;rw [Wq] at h;obtain ⟨h3,h4⟩:=YbN hv hq;refine ⟨.agg q,.agg ((vs.drop off).take Y.size).toArray,h,by simp [gv,h4],fun w=>?_⟩;have h5:=run_isAgg T hX w;rw [hR.agg,hag] at h5;have h6:=Go.Lx.run_sizeOf T hX w;rw [hR.size] at h6;simp only [part,Sem.run_bind,h5,Result.andThen_ok,if_true,h6,Sem.run_pure]
  congr 2
  simp
theorem s_fld (hT:TA tT T) (t:TypeId) (x:Operand) (i:Nat):QS P cx tT fz (qFld t x i) (.field t x i):=fun ν ar r h H Fm c dst ty pos af gd hr hh hf=>by
 obtain ⟨A,X,hA,hX,hR,hk,hf⟩:=WE hT hf;obtain ⟨a,ha,hf⟩:=Yf hf;obtain ⟨cs,hcs,hf⟩:=Yf hf;obtain ⟨q,hq,hf⟩:=Yf hf;obtain ⟨u,h1,h2⟩:=hr x a ha;obtain ⟨vs,hvs,rfl⟩:=YkK hcs h1;obtain ⟨fs,hd,hfs⟩:=hR.d9 hk;obtain ⟨fs',hu',hs'⟩:=YbZ T hX hd;obtain ⟨f,hf1,hf2,hf3⟩:=YhJ hfs hq;obtain ⟨av,v,hc,hg,hrun⟩:=prt_s (P:=P) hT hvs hf;refine YO hc hg (Yo (fun ρ w hr=>?_) rfl);subst hs';rw [Array.getElem?_map] at hf1;cases hf':fs'[i]? with
 | none=>simp [hf'] at hf1
 | some f'=>
  simp [hf',strip] at hf1;subst hf1;simp only [fld] at hf2 hf3;simp only [execOp,hr _ _ h2,Instr.field,Sem.run_bind,run_underlying hu' w,Result.andThen_ok,hf',asAgg,Sem.run_pure,hf2,hf3,hrun w]
theorem s_ixa (hT:TA tT T) (t:TypeId) (x i:Operand):QS P cx tT fz (qIxA t x i) (.indexAddr t x i):=fun ν ar r h H Fm c dst ty pos af gd hr hh hf=>by
 obtain ⟨a,ha,hf⟩:=Yf hf;obtain ⟨j,hj,hf⟩:=Yf hf;obtain ⟨n,hn,hf⟩:=Yf hf;obtain ⟨A,hA,hf⟩:=Yf hf;obtain ⟨Y,hY,hf⟩:=Yf hf;obtain ⟨u,h1,h2⟩:=hr x a ha;obtain ⟨ju,h3,h4⟩:=hr i j hj;obtain ⟨k,rfl⟩:=Ych hn h3;obtain ⟨X,hX,hR⟩:=hT t A hA;obtain ⟨Z,hZ,hRZ⟩:=hT A.e Y hY;cases hk:Nat.beq A.k 4 with
 | true=>
  rw [hk] at hf;obtain ⟨s,hs,hf⟩:=Yf hf;obtain ⟨q,hq,hf⟩:=Yf hf;obtain ⟨hlt,hf⟩:=YE hf;obtain ⟨A1,c1,hA1,_,_,rfl⟩:=Yaa hs h1;rw [hq] at hA1;simp only [gA] at hA1;cases hb:ν.blk q.1 with
  | none=>simp [hb] at hA1
  | some b=>
   simp [hb] at hA1;subst hA1;rw [Nat.blt_eq] at hlt;refine YO (YdR hf) (Yj9 hb) (W6 T hX (hR.d4 (Nat.eq_of_beq_eq_true hk)) hZ h2 h4 Zi Zi ?_);rw [addr_add,hRZ.size];simp
 | false=>
  rw [hk] at hf;obtain ⟨hk5,hf⟩:=YE hf;obtain ⟨q,hq,hf⟩:=Yf hf;obtain ⟨hlt,hf⟩:=YE hf;obtain ⟨b,hb,rfl⟩:=Yam hq h1;rw [Nat.blt_eq] at hlt;have hu:=und_plain T hX (hR.d5 (Nat.eq_of_beq_eq_true hk5)) rfl;refine YO (YdR hf) (Yj9 hb) (Yo (fun ρ w hr=>?_) rfl);have hs:=Go.Lx.run_sizeOf T hZ w;rw [hRZ.size] at hs;simp [execOp,hr _ _ h2,hr _ _ h4,Instr.indexAt,asIntOf,run_underlying hu,hs,Instr.sureAddr,hlt,addr_add]
theorem bs_get {l:List Nat} {z:Nat} (h:l[n]?=some z):(bs l)[n]?=some (UInt8.ofNat z):=by
 have:(bs l).data[n]?=some (UInt8.ofNat z):=by
  show ((l.map UInt8.ofNat).toArray)[n]?=_;rw [List.getElem?_toArray,List.getElem?_map,h];rfl
 have hlt:n<(bs l).size:=by rw [Ybw];exact (Zg h).1
 rw [getElem?_pos (bs l) n hlt];have hlt2:n<(bs l).data.size:=hlt;rw [Array.getElem?_eq_getElem hlt2] at this;exact this
theorem s_idx (hT:TA tT T) (t:TypeId) (x i:Operand):QS P cx tT fz (qIdx t x i) (.index t x i):=fun ν ar r h H Fm c dst ty pos af gd hr hh hf=>by
 obtain ⟨A,hA,hf⟩:=Yf hf;obtain ⟨j,hj,hf⟩:=Yf hf;obtain ⟨n,hn,hf⟩:=Yf hf;obtain ⟨a,ha,hf⟩:=Yf hf;obtain ⟨u,h1,h2⟩:=hr x a ha;obtain ⟨ju,h3,h4⟩:=hr i j hj;obtain ⟨k,rfl⟩:=Ych hn h3;obtain ⟨X,hX,hR⟩:=hT t A hA;cases hk:Nat.beq A.k 2 with
 | true=>
  rw [hk] at hf;obtain ⟨s,hs,hf⟩:=Yf hf;obtain ⟨z,hz,hf⟩:=Yf hf;obtain ⟨rfl,hall⟩:=Wa hs h1;have hz':=Ybn hz;have hzlt:z<256:=by
   have:=List.all_eq_true.1 hall z (Zm hz');simpa [Nat.blt_eq] using this
  refine YO hf (gv_i _ _ _) (Ybj (b:=UInt8.ofNat z) ?_ (hT:=hX) (hd:=hR.d2 (Nat.eq_of_beq_eq_true hk)) (hx:=h2) (hi:=h4) (hb:=by simpa using bs_get hz'));simp;omega
 | false=>
  rw [hk] at hf;obtain ⟨hk5,hf⟩:=YE hf;obtain ⟨cs,hcs,hf⟩:=Yf hf;obtain ⟨Y,hY,hf⟩:=Yf hf;obtain ⟨hlt,hf⟩:=YE hf;obtain ⟨vs,hvs,rfl⟩:=YkK hcs h1;obtain ⟨Z,hZ,hRZ⟩:=hT A.e Y hY;rw [Nat.blt_eq] at hlt;have hu:=und_plain T hX (hR.d5 (Nat.eq_of_beq_eq_true hk5)) rfl;obtain ⟨av,v,hc,hg,hrun⟩:=prt_s (P:=P) hT hvs hf;refine YO hc hg (Yo (fun ρ w hr=>?_) rfl);have hs:=Go.Lx.run_sizeOf T hZ w;rw [hRZ.size] at hs;simp only [execOp,hr _ _ h2,hr _ _ h4,Instr.index,asIntOf,Sem.run_bind,Sem.run_pure,Result.andThen_ok,run_underlying hu w];have hc2:(0:Int)<=(n:Int)/\(n:Int)<(A.n:Int):=⟨by omega,by omega⟩;rw [if_pos hc2];simp only [Sem.run_bind,hs,Result.andThen_ok,Int.toNat_natCast];have:=hrun w;rw [show Nat.mul n Y.size=n*Y.size from rfl] at this;rw [this];simp
end
section
variable {P:Program} {cx:Cx} {tT:TT} {T:Tab P} {fz:FZ}
variable {n:Nat}
theorem YbH {ν:Nu} {ar:RD} {r:Operand->Option Value} (hr:RR ν ar r) {d:Nat} {o:Operand} (h:optN ar d (some o)=some n):∃ k,r o=some (.int k n):=by
 obtain ⟨a,ha,h⟩:=YB h;obtain ⟨v,h1,h2⟩:=hr o a ha;obtain ⟨k,rfl⟩:=Ych h h1;exact ⟨k,h2⟩
theorem YbU {k:IntKind} {y:Nat} {code:BoundsCode} (h:n<=y) (w:World):(Instr.sliceBound (.int k n) y code).run P w=.ok n w:=by
 have:(0:Int)<=(n:Int)/\(n:Int)<=(y:Int):=⟨by omega,by omega⟩;simp only [Instr.sliceBound,asIntOf,Sem.run_bind,Sem.run_pure,Result.andThen_ok,if_pos this,Int.toNat_natCast]
theorem Ycf {ν:Nu} {ar:RD} {r:Operand->Option Value} {ρ:Operand->Value} (hr:RR ν ar r) (hρ:Reads r ρ) {isS:Bool} {len L C l h m:Nat} {lo hi mx:Option Operand}
 (hm:optN ar L mx=some m) (hh:optN ar len hi=some h) (hl:optN ar 0 lo=some l) (h1:m<=L) (hLC:L<=C) (h2:h<=m) (h3:l<=h) (hmx:(mx.isNone || hi.isSome)=true) (w:World):
 (Instr.sliceBounds isS len C (lo.map ρ) (hi.map ρ) (mx.map ρ)).run P w=.ok (l,h,mx.elim C fun _=>m) w:=by
 have hlo:∀ code,(match lo.map ρ with | some v=>Instr.sliceBound v h code | none=>pure 0:Sem Nat).run P w=.ok l w:=by
  intro code;cases lo with
  | none=>injection hl with hl;subst hl;rfl
  | some o=>
   obtain ⟨k,hk⟩:=YbH hr hl;simp only [Option.map_some,hρ _ _ hk];exact YbU h3 w
 cases mx with
 | none=>
  injection hm with hm;subst hm
  cases hi with
  | none=>
   injection hh with hh;subst hh
   have:=hlo .sliceB;simp only [Instr.sliceBounds,Option.map_none,Sem.run_bind,Sem.run_pure,Result.andThen_ok,Option.elim];cases lo with
   | none=>injection hl with hl;subst hl;rfl
   | some o=>simp only [Option.map_some] at this ⊢;simp only [Option.isSome_none,Bool.false_eq_true,if_false,Sem.run_bind,this,Result.andThen_ok,Sem.run_pure]
  | some o=>
   obtain ⟨k,hk⟩:=YbH hr hh;have hb:=fun code=>YbU (P:=P) (k:=k) (code:=code) (n:=h) (y:=C) Zi w
   have:=hlo .sliceB;simp only [Instr.sliceBounds,Option.map_none,Option.map_some,hρ _ _ hk,Sem.run_bind,Sem.run_pure,Result.andThen_ok,Option.elim,hb];cases lo with
   | none=>injection hl with hl;subst hl;rfl
   | some o=>simp only [Option.map_some] at this ⊢;simp only [Option.isSome_none,Bool.false_eq_true,if_false,Sem.run_bind,this,Result.andThen_ok,Sem.run_pure]
 | some o'=>
  obtain ⟨k',hk'⟩:=YbH hr hm;have hb':=fun code=>YbU (P:=P) (k:=k') (code:=code) (n:=m) (y:=C) Zi w
  cases hi with
  | none=>simp at hmx
  | some o=>
   obtain ⟨k,hk⟩:=YbH hr hh;have hb:=fun code=>YbU (P:=P) (k:=k) (code:=code) (n:=h) (y:=m) h2 w
   have:=hlo .slice3C;simp only [Instr.sliceBounds,Option.map_some,hρ _ _ hk,hρ _ _ hk',Sem.run_bind,Result.andThen_ok,Option.elim,hb,hb'];cases lo with
   | none=>injection hl with hl;subst hl;rfl
   | some o=>simp only [Option.map_some] at this ⊢;simp only [Option.isSome_some,if_true,Sem.run_bind,this,Result.andThen_ok,Sem.run_pure]
variable {A:Option Addr}
theorem mkSl_s {ν:Nu} {size:Nat} {a:Option (Nat × Nat)} {l h m C:Nat} {sym:Option (Nat × Nat)} {c:QC} (hA:gA ν a=some A) (hC:gC ν m sym=some C) (h1:h<=m) (h2:l<=h) (hf:mkSl size a l h m sym c=true):
 ∃ av,c av=true/\gv ν av=some (.slice (if C=l then A else A.map (·.add (l*size))) (h - l) (C - l)):=by
 unfold mkSl at hf;cases hml:Nat.beq m l with
 | true=>
  have e:=Nat.eq_of_beq_eq_true hml;rw [hml,Y4] at hf;cases sym with
  | some q=>
   rw [XQ] at hf;have hf2:(fN (Nat.sub h l) fun k=>c (.sl a k 0 none))=true/\(fO a fun a=>add_ a (Nat.mul l size) fun a=>fN (Nat.sub h l) fun k=>fN (Nat.add q.2 l) fun d=>c (.sl (some a) k 0 (some (q.1,d))))=true:=by
    cases hx:(fN (Nat.sub h l) fun k=>c (.sl a k 0 none)) with
    | true=>rw [hx,Y4] at hf;exact ⟨rfl,hf⟩
    | false=>rw [hx,YF] at hf;cases hf
   obtain ⟨g1,g2⟩:=hf2;have e2:h=l:=by omega
   subst e2;have e3:m=h:=e;subst e3;by_cases hCm:C=m
   ·rw [YaL] at g1;refine ⟨_,g1,?_⟩;subst hCm;simp only [gv,hA,gC];rw [if_pos (by show C - C<=0;omega),if_pos trivial];simp
   obtain ⟨p,rfl,g3⟩:=Yf g2;have g4:=YdR g3;rw [YaL,YaL] at g4;refine ⟨_,g4,?_⟩;simp only [gA] at hA;cases hb:ν.blk p.1 with
   | none=>simp [hb] at hA
   | some b=>
    simp [hb] at hA;subst hA;rw [if_neg hCm,Option.map_some,addr_add];simp only [gC] at hC;cases hc:ν.cap q.1 with
    | none=>simp [hc] at hC
    | some cc=>
     simp only [hc] at hC;by_cases hcc:q.2+m<=cc
     ·rw [if_pos hcc] at hC;injection hC with hC
      subst hC;simp only [gv,gA,hb,gC,hc,Option.map_some];rw [if_pos (show q.2.add m+0<=cc from hcc)];show (if m.sub m<=0 then some (Value.slice _ (m.sub m) _) else none)=_;rw [if_pos (by show m - m<=0;omega),Nat.sub_sub];rfl
     rw [if_neg hcc] at hC;cases hC
  | none=>
   rw [Wl,YaL] at hf;simp [gC] at hC;subst hC;refine ⟨_,hf,?_⟩;have e2:h=l:=by omega
   subst e;simp only [gv,hA,gC];rw [if_pos (by show h - m<=0;omega),if_pos trivial];simp
 | false=>
  rw [hml,YF] at hf;have hne:m≠l:=fun he=>by rw [he,Nat.beq_refl] at hml;cases hml
  obtain ⟨p,rfl,hf1⟩:=Yf hf;have hf:=YdR hf1;rw [YaL,YaL] at hf;have hCm:=gC_le hC;simp only [gA] at hA;cases hb:ν.blk p.1 with
  | none=>simp [hb] at hA
  | some b=>
   simp [hb] at hA;subst hA;have hCl:C≠l:=by omega
   have hval:(if C=l then some (⟨b,p.2,none⟩:Addr) else (some (⟨b,p.2,none⟩:Addr)).map (·.add (l*size)))=some ⟨b,p.2+l*size,none⟩:=by
    rw [if_neg hCl,Option.map_some,addr_add]
   rw [hval];have hle:Nat.sub h l<=Nat.sub m l:=by show h - l<=m - l;omega
   cases sym with
   | none=>
    rw [Wl] at hf;simp [gC] at hC;subst hC;refine ⟨_,hf,?_⟩;simp only [gv,gA,hb,gC,Option.map_some];rw [if_pos hle];rfl
   | some q=>
    rw [XQ,YaL] at hf;refine ⟨_,hf,?_⟩;simp only [gC] at hC;cases hc:ν.cap q.1 with
    | none=>simp [hc] at hC
    | some cc=>
     simp only [hc] at hC;split at hC
     ·injection hC with hC
      subst hC;simp only [gv,gA,hb,gC,hc,Option.map_some];rw [if_pos (show Nat.add q.2 l+Nat.sub m l<=cc by show q.2+l+(m - l)<=cc;omega)];simp only;rw [if_pos hle];have:cc - Nat.add q.2 l=cc - q.2 - l:=by show cc - (q.2+l)=cc - q.2 - l;omega
      rw [this];rfl
     cases hC
theorem gC_any {ν:Nu} {lo m C:Nat} {sym:Option (Nat × Nat)} {mx:Option Operand} (hC:gC ν lo sym=some C) (hm:mx=none->m=lo):gC ν m (oE sym (fun _=>none) mx)=some (mx.elim C fun _=>m):=by
 cases mx with
 | none=>rw [Wl,hm rfl];exact hC
 | some o=>rfl
theorem YiD (s:List Nat) (l h:Nat):(bs s).extract l h=bs ((s.drop l).take (h - l)):=by
 apply ByteArray.ext;rw [ByteArray.data_extract];simp [bs]
theorem Yfg {s:List Nat} (h:s.all (fun n=>Nat.blt n 256)=true) (l n:Nat):((s.drop l).take n).all (fun n=>Nat.blt n 256)=true:=by
 rw [List.all_eq_true] at h ⊢;exact fun x hx=>h x (List.mem_of_mem_drop (List.mem_of_mem_take hx))
theorem s_slc (hT:TA tT T) (t:TypeId) (x:Operand) (lo hi mx:Option Operand):QS P cx tT fz (qSlc t x lo hi mx) (.slice t x lo hi mx):=fun ν ar r h H Fm c dst ty pos af gd hr hh hf=>by
 obtain ⟨a,ha,hf⟩:=Yf hf;obtain ⟨A,hA,hf⟩:=Yf hf;obtain ⟨u,h1,h2⟩:=hr x a ha;obtain ⟨X,hX,hR⟩:=hT t A hA;cases hk4:Nat.beq A.k 4 with
 | true=>
  rw [hk4,Y4] at hf;obtain ⟨s,hs,hf⟩:=Yf hf;obtain ⟨Y,hY,hf⟩:=Yf hf;obtain ⟨m,hm,hf⟩:=Yf hf;obtain ⟨q,hq,hf⟩:=Yf hf;obtain ⟨l,hl,hf⟩:=Yf hf;obtain ⟨hb,hf⟩:=YE hf;simp only [Bool.and_eq_true,Nat.ble_eq] at hb;obtain ⟨hmx,hb1,hb2,hb3⟩:=hb;obtain ⟨A1,C,hA1,hC,hle,rfl⟩:=Yaa hs h1;obtain ⟨Z,hZ,hRZ⟩:=hT A.e Y hY;have hu:=und_plain T hX (hR.d4 (Nat.eq_of_beq_eq_true hk4)) rfl;have hLC:=gC_le hC;obtain ⟨av,hc,hg⟩:=mkSl_s hA1 (gC_any (mx:=mx) hC (fun he=>by subst he;injection hm with hm;exact hm.symm)) hb2 hb3 hf;refine YO hc hg (Yo (fun ρ w hρ=>?_) rfl);have hrun:=Ycf (P:=P) hr hρ (isS:=true) (C:=C) hm hq hl hb1 hLC hb2 hb3 hmx w;have hsz:=Go.Lx.run_sizeOf T hZ w;rw [hRZ.size] at hsz;simp only [execOp,hρ _ _ h2,Instr.sliceAt,Instr.slice,Sem.run_bind,run_underlying hu w,Result.andThen_ok,hrun,hsz,Sem.run_pure]
 | false=>
  rw [hk4,YF] at hf;cases hk2:Nat.beq A.k 2 with
  | true=>
   rw [hk2,Y4] at hf;obtain ⟨s,hs,hf⟩:=Yf hf;obtain ⟨hmx,hf⟩:=YE hf;obtain ⟨q,hq,hf⟩:=Yf hf;obtain ⟨l,hl,hf⟩:=Yf hf;obtain ⟨hb,hf⟩:=YE hf;simp only [Bool.and_eq_true,Nat.ble_eq] at hb;obtain ⟨z,hz,hf⟩:=Yf hf;rw [Wq] at hf;obtain ⟨hz1,hz2⟩:=Yho hz;obtain ⟨rfl,hall⟩:=Wa hs h1;have hu:=und_plain T hX (hR.d2 (Nat.eq_of_beq_eq_true hk2)) rfl;have hmx':mx=none:=by simpa using hmx
   subst hmx';have e:z=(s.drop l).take (q - l):=hz2;subst e;refine YO hf (v:=.string (bs ((s.drop l).take (q - l)))) (by simp only [gv];rw [if_pos (Yfg hall l _)]) (Yo (fun ρ w hρ=>?_) rfl);have hrun:=Ycf (P:=P) hr hρ (isS:=false) (len:=s.length) (L:=s.length) (C:=s.length) (m:=s.length) (mx:=none) rfl hq hl (Zs _) (Zs _) hb.1 hb.2 rfl w;simp only [Option.map_none] at hrun;simp only [execOp,hρ _ _ h2,Instr.sliceAt,Instr.slice,Sem.run_bind,run_underlying hu w,Result.andThen_ok,Option.map_none,Option.isSome_none,Bool.false_eq_true,if_false,Ybw,hrun,Sem.run_pure,YiD]
  | false=>
   rw [hk2,YF] at hf;obtain ⟨hk5,hf⟩:=YE hf;obtain ⟨p,hp,hf⟩:=Yf hf;obtain ⟨Y,hY,hf⟩:=Yf hf;obtain ⟨m,hm,hf⟩:=Yf hf;obtain ⟨q,hq,hf⟩:=Yf hf;obtain ⟨l,hl,hf⟩:=Yf hf;obtain ⟨hb,hf⟩:=YE hf;simp only [Bool.and_eq_true,Nat.ble_eq] at hb;obtain ⟨hmx,hb1,hb2,hb3⟩:=hb;obtain ⟨b,hbb,rfl⟩:=Yam hp h1;obtain ⟨Z,hZ,hRZ⟩:=hT A.e Y hY;have hu:=und_plain T hX (hR.d5 (Nat.eq_of_beq_eq_true hk5)) rfl;obtain ⟨av,hc,hg⟩:=mkSl_s (ν:=ν) (a:=some p) (A:=some ⟨b,p.2,none⟩) (C:=m) (by simp [gA,hbb]) rfl hb2 hb3 hf;refine YO hc hg (Yo (fun ρ w hρ=>?_) rfl);have hrun:=Ycf (P:=P) hr hρ (isS:=false) (C:=A.n) hm hq hl hb1 (Zs _) hb2 hb3 hmx w;have hsz:=Go.Lx.run_sizeOf T hZ w;rw [hRZ.size] at hsz;have hme:(mx.elim A.n fun _=>m)=m:=by
    cases mx with
    | none=>injection hm
    | some _=>rfl
   rw [hme] at hrun;simp only [execOp,hρ _ _ h2,Instr.sliceAt,Sem.run_bind,run_underlying hu w,Result.andThen_ok,Instr.sureAddr,hrun,hsz,Sem.run_pure];by_cases hml:m=l
   ·simp [hml]
   simp [hml]
end
section
variable {P:Program} {cx:Cx} {tT:TT} {T:Tab P} {fz:FZ}
variable {X:Ty}
theorem Ygd {A:TyA} (hR:TR X A) {ν:Nu} {c:QC} (h:zeroV A c=true):∃ av,c av=true/\gv ν av=some X.zero:=by
 unfold zeroV at h;cases hag:A.agg with
 | true=>
  rw [hag,Y4] at h;obtain ⟨zs,hz,hzc⟩:=hR.zero;obtain ⟨cs,hcs⟩:=hR.zagg hag;refine ⟨_,h,?_⟩;simp only [gv,hz ν,Option.map_some];rw [hcs] at hzc ⊢;simp only [Value.cells] at hzc;rw [hzc]
 | false=>
  rw [hag,YF] at h;obtain ⟨z,hz,hg⟩:=hR.zone hag;rw [hz] at h;exact ⟨z,h,hg ν⟩
theorem Yg9:∀ (vs:List Value) (off:Nat) (q:List Value),off+q.length<=vs.length->wrL vs off q=some (vs.take off++q++vs.drop (off+q.length))
 | [],off,q,h=>by
  simp at h;obtain ⟨h1,h2⟩:=h;subst h1 h2;simp [wrL]
 | v::vs,0,[],_=>by simp [wrL]
 | v::vs,0,a::q,h=>by
  simp at h;simp only [wrL,Yg9 vs 0 q Zi];simp
 | v::vs,off+1,q,h=>by
  simp at h;simp only [wrL,Yg9 vs off q Zi];rw [show off+1+q.length=(off+q.length)+1 from by omega];simp
theorem YhH {ν:Nu} {place:Nat->Option (Nat × Nat)}:∀ {ps:List (Nat × AV)} {us:List (Nat × Value)} {cells cs:List AV} {vs:List Value},ps.map Prod.fst=us.map Prod.fst->gvs ν (ps.map Prod.snd)=some (us.map Prod.snd)->gvs ν cells=some vs->YfY place cells ps=some cs->
 ∃ ws,gvs ν cs=some ws/\Yd6 place vs us=some ws
 | [],[],cells,cs,vs,_,_,hv,h=>by
  injection h with h;subst h;exact ⟨vs,hv,rfl⟩
 | [],_::_,_,_,_,h,_,_,_=>by simp at h
 | _::_,[],_,_,_,h,_,_,_=>by simp at h
 | q::ps,(i,u)::us,cells,cs,vs,h1,h2,hv,h=>by
  simp only [List.map_cons,List.cons.injEq] at h1;simp only [List.map_cons] at h2;obtain ⟨x,l,hx,hl,he⟩:=XA h2;simp only [List.cons.injEq] at he;obtain ⟨rfl,rfl⟩:=he;simp only [YfY] at h;obtain ⟨z,hz,h⟩:=YB h;obtain ⟨hb,h⟩:=YZ h;obtain ⟨c1,hc1,h⟩:=YB h;have hcells:=YbO hx;obtain ⟨g1,g2⟩:=Yj7 hv hcells hc1;obtain ⟨ws,g3,g4⟩:=YhH h1.2 hl g2 h;refine ⟨ws,g3,?_⟩;obtain ⟨off,size⟩:=z;simp only [Yd6];rw [<- h1.1,hz];simp only;have hlen:=Y9 hcells;rw [hlen,hb];simp only;have hwr:=Yg9 vs off u.cells.toList g1;rw [hwr];exact g4
theorem zip_fst:∀ (ps:List (Nat × Operand)) (l:List AV),l.length=ps.length->(zip_ ps l).map Prod.fst=ps.map Prod.fst/\(zip_ ps l).map Prod.snd=l
 | [],[],_=>⟨rfl,rfl⟩
 | [],_::_,h=>by simp at h
 | _::_,[],h=>by simp at h
 | q::ps,v::l,h=>by
  obtain ⟨h1,h2⟩:=zip_fst ps l (by simpa using h);simp [zip_,h1,h2]
theorem YcU {ar:RD}:∀ {xs:List Operand} {l:List AV},rdos ar xs=some l->l.length=xs.length
 | [],l,h=>by injection h with h;subst h;rfl
 | x::xs,l,h=>by
  obtain ⟨a,_,h⟩:=YB h;obtain ⟨q,hq,h⟩:=YB h;injection h with h;subst h
  simp [YcU hq]
theorem YeA:∀ (ps:List Nat) (l:List Value),l.length=ps.length->(ps.zip l).map Prod.fst=ps/\(ps.zip l).map Prod.snd=l
 | [],[],_=>⟨rfl,rfl⟩
 | [],_::_,h=>by simp at h
 | _::_,[],h=>by simp at h
 | q::ps,v::l,h=>by
  obtain ⟨h1,h2⟩:=YeA ps l (by simpa using h);simp [h1,h2]
theorem plc_s (hT:TA tT T):∀ {fs:List Field} {l:List (Nat × Nat)},plc tT (fs.map fun f=>(f.type,f.offset))=some l->places T fs=some l
 | [],l,h=>by injection h with h;subst h;rfl
 | f::r,l,h=>by
  simp only [List.map_cons,plc] at h;obtain ⟨Y,hY,h⟩:=YB h;obtain ⟨q,hq,h⟩:=YB h;injection h with h;subst h
  obtain ⟨X,hX,hR⟩:=hT f.type Y hY;simp only [places,hX,plc_s hT hq,hR.size]
theorem at_fun {l:List (Nat × Nat)}:(fun i=>l[i]?)=at_ l:=by
 funext i
 induction l generalizing i with
 | nil=>simp [at_]
 | cons x r ih=>
  cases i with
  | zero=>simp [at_]
  | succ i=>simpa [at_] using ih i
theorem s_bld (hT:TA tT T) (t:TypeId) (ps:Array (Nat × Operand)):QS P cx tT fz (qBld t ps.toList) (.build t ps):=fun ν ar r h H Fm c dst ty pos af gd hr hh hf=>by
 obtain ⟨A,hA,hf⟩:=Yf hf;obtain ⟨vs,hvs,hf⟩:=Yf hf;obtain ⟨X,hX,hR⟩:=hT t A hA;obtain ⟨us,h1,h2⟩:=hr.all hvs;have hlen:vs.length=ps.toList.length:=by rw [YcU hvs];simp
 have hlen':us.length=(ps.toList.map (·.1)).length:=by rw [Y9 h1,hlen];simp
 obtain ⟨e1,e2⟩:=zip_fst ps.toList vs hlen;obtain ⟨e3,e4⟩:=YeA (ps.toList.map (·.1)) us hlen';obtain ⟨zs,hz,hzc⟩:=hR.zero;have hzl:X.zero.cells.toList=zs:=by rw [hzc]
 cases hk:Nat.beq A.k 9 with
 | true=>
  rw [hk,Y4] at hf;obtain ⟨pl,hpl,hf⟩:=Yf hf;obtain ⟨cs,hcs,hf⟩:=Yf hf;rw [Wq] at hf;obtain ⟨fs,hd,hfs⟩:=hR.d9 (Nat.eq_of_beq_eq_true hk);rw [<- hfs] at hpl;obtain ⟨ws,g1,g2⟩:=YhH (us:=(ps.toList.map (·.1)).zip us) (by rw [e1,e3]) (by rw [e2,e4];exact h1) (hz ν) hcs;refine YO hf (v:=.agg ws.toArray) (by simp [gv,g1]) ?_;have:=Yak (ps:=ps.toList) (dst:=dst) (ty:=ty) (pos:=pos) (af:=af) (gd:=gd) (cx:=cx) (fz:=fz) (H:=H) (V:=fun u=>u=.agg ws.toArray) rfl (hT:=hX) (hd:=hd) (hp:=plc_s hT hpl) (hv:=h2) (hc:=by rw [at_fun,hzl];exact g2);simpa using this
 | false=>
  rw [hk,YF] at hf;obtain ⟨hk5,hf⟩:=YE hf;obtain ⟨Y,hY,hf⟩:=Yf hf;obtain ⟨cs,hcs,hf⟩:=Yf hf;rw [Wq] at hf;obtain ⟨Z,hZ,hRZ⟩:=hT A.e Y hY;obtain ⟨ws,g1,g2⟩:=YhH (us:=(ps.toList.map (·.1)).zip us) (by rw [e1,e3]) (by rw [e2,e4];exact h1) (hz ν) hcs;have hu:=und_plain T hX (hR.d5 (Nat.eq_of_beq_eq_true hk5)) rfl;refine YO hf (v:=.agg ws.toArray) (by simp [gv,g1]) (Yo (fun ρ w hρ=>?_) rfl);have hz':=XJ T hX w;have hs:=Go.Lx.run_sizeOf T hZ w;rw [hRZ.size] at hs;have hps':(ps.map fun x=>match x with | (i,x)=>(i,ρ x)).toList=(ps.toList.map (·.1)).zip us:=by
   rw [<- Wu hρ ps.toList us h2];simp
  have hc':Instr.fill (fun i=>some (i*Y.size,Y.size)) X.zero.cells ((ps.toList.map (·.1)).zip us)=some ws.toArray:=by
   have:=Ycb _ _ _ g2;rw [hzc];exact this
  simp only [execOp,Instr.build,Sem.run_bind,hz',Result.andThen_ok,run_underlying hu w,hs,hps',hc',Sem.run_pure]
theorem s_ta (hT:TA tT T) (x:Operand) (t' t:TypeId) (ok:Bool):QS P cx tT fz (qTA x t ok) (.typeAssert x t' t ok):=fun ν ar r h H Fm c dst ty pos af gd hr hh hf=>by
 obtain ⟨A,hA,hf⟩:=Yf hf;obtain ⟨X,hX,hR⟩:=hT t A hA;cases hk:Nat.beq A.k 7 with
 | true=>rw [hk] at hf;cases hf
 | false=>
  rw [hk,YF] at hf;obtain ⟨a,ha,hf⟩:=Yf hf;obtain ⟨u,h1,h2⟩:=hr x a ha;have hnif:=hR.nif (fun he=>by rw [he] at hk;cases hk);obtain ⟨d,hu,hi⟩:=Yc5 T hX;rw [hnif] at hi;cases a with
  | ni=>
   simp only [gv] at h1;injection h1 with h1;subst h1
   obtain ⟨hok,hf⟩:=YE hf;subst hok;obtain ⟨av,hc,hg⟩:=Ygd hR (ν:=ν) hf;refine YO hc (v:=.tuple #[X.zero,.bool false]) (by simp [gv,gvs,hg]) (Yo (fun ρ w hρ=>?_) rfl);have hz:=XJ T hX w;simp only [execOp,hρ _ _ h2,Instr.typeAssert,Sem.run_bind,run_underlying hu,Result.andThen_ok];cases d<;>simp_all [isIfaceD]
  | ifc v2 vv=>
   simp only [gv] at h1;cases hv:gv ν vv with
   | none=>simp [hv] at h1
   | some V=>
    simp [hv] at h1;subst h1;cases hb:Nat.beq v2 t with
    | true=>
     have e:=Nat.eq_of_beq_eq_true hb;subst e;have hf':okv ok true vv c=true:=by
      have:br (fT ok (zeroV A fun z=>c (.tup [z,.b false]))) (okv ok true vv c) (Nat.beq v2 v2)=true:=hf;rw [hb,Y4] at this;exact this
     cases ok with
     | true=>
      refine YO hf' (v:=.tuple #[V,.bool true]) (by simp [gv,gvs,hv]) (Yo (fun ρ w hρ=>?_) rfl);simp only [execOp,hρ _ _ h2,Instr.typeAssert,Sem.run_bind,run_underlying hu,Result.andThen_ok];cases d<;>simp_all [isIfaceD]
     | false=>
      refine YO hf' hv (Yo (fun ρ w hρ=>?_) rfl);simp only [execOp,hρ _ _ h2,Instr.typeAssert,Sem.run_bind,run_underlying hu,Result.andThen_ok];cases d<;>simp_all [isIfaceD]
    | false=>
     have hf':fT ok (zeroV A fun z=>c (.tup [z,.b false]))=true:=by
      have:br (fT ok (zeroV A fun z=>c (.tup [z,.b false]))) (okv ok true vv c) (Nat.beq v2 t)=true:=hf;rw [hb,YF] at this;exact this
     obtain ⟨hok,hf'⟩:=YE hf';subst hok;have hne:v2≠t:=fun he=>by rw [he,Nat.beq_refl] at hb;cases hb
     obtain ⟨av,hc,hg⟩:=Ygd hR (ν:=ν) hf';refine YO hc (v:=.tuple #[X.zero,.bool false]) (by simp [gv,gvs,hg]) (Yo (fun ρ w hρ=>?_) rfl);have hz:=XJ T hX w;simp only [execOp,hρ _ _ h2,Instr.typeAssert,Sem.run_bind,run_underlying hu,Result.andThen_ok];cases d<;>simp_all [isIfaceD]
  | _=>cases hf
end
section
variable {P:Program} {cx:Cx} {tT:TT} {T:Tab P} {fz:FZ}
variable {H:HP}
theorem HR.map {ν:Nu} {h:Tr AO} {Fm:HP} (hh:HR tT ν h H Fm) {id:Nat} {o:AO} {es:List (AV × AV × Nat) × Nat} (hg:h.get id=some o) (hc:oMap o=some es):
 ∃ b l,ν.blk id=some b/\ges ν es.1=some l/\(b,Obj.map l.toArray es.2)∈H:=by
 obtain ⟨b,x,h1,h2,h3⟩:=hh.own id o hg;cases o with
 | map es' clock=>
  simp [oMap] at hc;subst hc;simp only [go] at h2;cases hv:ges ν es' with
  | none=>simp [hv] at h2
  | some l=>simp [hv] at h2;subst h2;exact ⟨b,l,h1,rfl,h3⟩
 | cells _ _ _ _=>simp [oMap] at hc
 | mit _ _ _ _=>simp [oMap] at hc
variable {w:World}
theorem XN (hi:Inv cx fz H w) {b:Nat} {o:Obj} (hm:(b,o)∈H) (hn:∀ c e f,o≠ .cells c e f):(getObj b).run P w=.ok o w:=by
 have:=(hi.hp.own _ hm).1;simp only at this;cases o with
 | cells c e f=>exact absurd rfl (hn c e f)
 | _=>simp [getObj,Sem.run,this]
theorem Wn {ν:Nu} {e:AV × AV × Nat} {r:List (AV × AV × Nat)} {l:List MapEntry} (h:ges ν (e::r)=some l):∃ k v q,gv ν e.1=some k/\gv ν e.2.1=some v/\ges ν r=some q/\l=⟨k,v,e.2.2⟩::q:=by
 simp only [ges] at h;cases ha:gv ν e.1 with
 | none=>simp [ha] at h
 | some k=>
  cases hb:gv ν e.2.1 with
  | none=>simp [ha,hb] at h
  | some v=>
   cases hr:ges ν r with
   | none=>simp [ha,hb,hr] at h
   | some q=>simp [ha,hb,hr] at h;exact ⟨k,v,q,rfl,rfl,rfl,h.symm⟩
theorem Ykc {ν:Nu}:∀ {l:List (AV × AV × Nat)} {es:List MapEntry},ges ν l=some es->es.length=l.length
 | [],es,h=>by simp [ges] at h;subst h;rfl
 | e::r,es,h=>by
  obtain ⟨k,v,q,_,_,hr,rfl⟩:=Wn h;simp [Ykc hr]
variable {X:Ty}
theorem Yhz {A:TyA} (hR:TR X A) (hk:Ydx A.k=true):(A.k=0/\X.desc=.bool)\/(A.k=1/\X.desc=.int A.ik)\/(A.k=2/\X.desc=.string):=by
 unfold Ydx at hk;rw [Nat.ble_eq] at hk;rcases (by omega:A.k=0\/A.k=1\/A.k=2) with h | h | h
 ·exact .inl ⟨h,hR.d0 h⟩
 ·exact .inr (.inl ⟨h,hR.d1 h⟩)
 exact .inr (.inr ⟨h,hR.d2 h⟩)
theorem ba_beq (a b:Bs):(a==b)=decide (a=b):=by
 have:(a==b)=(a.data==b.data):=rfl;rw [this,Bool.eq_iff_iff,beq_iff_eq,decide_eq_true_iff];exact ⟨fun h=>ByteArray.ext h,fun h=>by rw [h]⟩
variable {u:Value}
theorem keq_s {A:TyA} (hR:TR X A) (hk:Ydx A.k=true) {ν:Nu} {a b:AV} {w:Value} {t:Bool} (h:keq A.k a b=some t) (ha:gv ν a=some u) (hb:gv ν b=some w):Instr.sameNow X.desc u w=some t:=by
 unfold keq at h;rcases Yhz hR hk with ⟨hk0,hd⟩ | ⟨hk0,hd⟩ | ⟨hk0,hd⟩
 ·rw [hk0] at h;have h':oT true (oB (asB a) fun x=>oB (asB b) fun y=>some (x==y))=some t:=h;obtain ⟨_,h'⟩:=YZ h';obtain ⟨x,hx,h'⟩:=YB h';obtain ⟨y,hy,h'⟩:=YB h';injection h' with h'
  rw [YaO hx ha,YaO hy hb,hd,<- h'];rfl
 ·rw [hk0] at h;have h':(oB (asI a) fun x=>oB (asI b) fun y=>oT (kEq x.1 y.1) (some (iEq x.2 y.2)))=some t:=h;obtain ⟨x,hx,h'⟩:=YB h';obtain ⟨y,hy,h'⟩:=YB h';obtain ⟨hke,h'⟩:=YZ h';injection h' with h'
  rw [WJ hx ha,WJ hy hb,hd,<- h'];simp only [Instr.sameNow];rw [if_pos (kEq_iff hke),iEq_eq]
  congr 1
 rw [hk0] at h;have h':(oB (asS a) fun x=>oB (asS b) fun y=>some (sEq x y))=some t:=h;obtain ⟨x,hx,h'⟩:=YB h';obtain ⟨y,hy,h'⟩:=YB h';injection h' with h'
 obtain ⟨rfl,hxx⟩:=Wa hx ha;obtain ⟨rfl,hyy⟩:=Wa hy hb;rw [hd,<- h'];simp only [Instr.sameNow];rw [ba_beq,bs_eq hxx hyy]
theorem fnd_s {X:Ty} {A:TyA} (hR:TR X A) (hk:Ydx A.k=true) {ν:Nu} {kv:AV} {u:Value} (hu:gv ν kv=some u):∀ {es:List (AV × AV × Nat)} {l:List MapEntry} {i:Nat} {z:Option (Nat × AV)},ges ν es=some l->fnd A.k kv es i=some z->
 (z=none/\Instr.findNow X.desc u l i=some none)\/(∃ j v w,z=some (i+j,v)/\gv ν v=some w/\Instr.findNow X.desc u l i=some (some (i+j,w))/\(∃ e,es[j]?=some e/\e.2.1=v/\keq A.k kv e.1=some true))
 | [],l,i,z,hl,h=>by
  simp [ges] at hl;subst hl;injection h with h;subst h
  exact .inl ⟨rfl,rfl⟩
 | e::es,l,i,z,hl,h=>by
  obtain ⟨k,v,q,h1,h2,h3,rfl⟩:=Wn hl;simp only [fnd] at h;obtain ⟨t,ht,h⟩:=YB h;have hs:=keq_s hR hk ht hu h1;cases t with
  | true=>
   injection h with h;subst h
   refine .inr ⟨0,e.2.1,v,rfl,h2,?_,e,rfl,rfl,ht⟩;simp only [Instr.findNow,hs];rfl
  | false=>
   have h':fnd A.k kv es (Nat.succ i)=some z:=h;rcases fnd_s hR hk hu h3 h' with ⟨hz,hf⟩ | ⟨j,v',w,hz,hg,hf,e',he1,he2,he3⟩
   ·exact .inl ⟨hz,by simp only [Instr.findNow,hs];exact hf⟩
   refine .inr ⟨j+1,v',w,by rw [hz];congr 2;show i+1+j=i+(j+1);omega,hg,?_,e',by simpa using he1,he2,he3⟩;simp only [Instr.findNow,hs];rw [show i+(j+1)=i.succ+j from by show i+(j+1)=i+1+j;omega];exact hf
variable {b:Bool} {t:TypeId} {v:Value}
theorem run_checkKey {d:TypeDesc} (hu:P.underlying t=some d) (hd:d=.bool\/(∃ k,d=.int k)\/d=.string) (w:World):(Instr.checkKey b 10000 t v).run P w=.ok () w:=by
 have:∀ n,(Instr.checkKey b (n+1) t v).run P w=.ok () w:=fun n=>by
  unfold Instr.checkKey;simp only [Sem.run_bind,run_underlying hu w,Result.andThen_ok];rcases hd with rfl | ⟨k,rfl⟩ | rfl<;>rfl
 exact this 9999
theorem YfR {A:TyA} {t:Nat} (hX:T.inf t=some X) (hR:TR X A) (hk:Ydx A.k=true):P.underlying t=some X.desc/\(X.desc=.bool\/(∃ k,X.desc=.int k)\/X.desc=.string):=by
 rcases Yhz hR hk with ⟨_,hd⟩ | ⟨_,hd⟩ | ⟨_,hd⟩
 ·rw [hd];exact ⟨und_plain T hX hd rfl,.inl rfl⟩
 ·rw [hd];exact ⟨und_plain T hX hd rfl,.inr (.inl ⟨_,rfl⟩)⟩
 rw [hd];exact ⟨und_plain T hX hd rfl,.inr (.inr rfl)⟩
theorem run_findKey {t:Nat} {l:List MapEntry} {z:Option (Nat × Value)} (hu:P.underlying t=some X.desc) (h:Instr.findNow X.desc u l 0=some z) (w:World):(Instr.findKey t u l).run P w=.ok z w:=by
 simp only [Instr.findKey,Sem.run_bind,run_underlying hu w,Result.andThen_ok,h,Sem.run_pure]
theorem s_look (hT:TA tT T) (t:TypeId) (x k:Operand) (ok:Bool):QS P cx tT fz (qLook t x k ok) (.lookup t x k ok):=fun ν ar r h H Fm c dst ty pos af gd hr hh hf=>by
 obtain ⟨A,X,hA,hX,hR,hk6,hf⟩:=WE hT hf;obtain ⟨a,ha,hf⟩:=Yf hf;obtain ⟨q,hq,hf⟩:=Yf hf;obtain ⟨kv,hkv,hf⟩:=Yf hf;obtain ⟨K,hK,hf⟩:=Yf hf;obtain ⟨hkp,hf⟩:=YE hf;obtain ⟨u,h1,h2⟩:=hr x a ha;obtain ⟨uk,h3,h4⟩:=hr k kv hkv;obtain ⟨m,hm,rfl⟩:=Ybx hq h1;obtain ⟨XK,hXK,hRK⟩:=hT A.n K hK;have hu:=und_plain T hX (hR.d6 hk6) rfl;obtain ⟨huk,hdk⟩:=YfR hXK hRK hkp
 -- the entries
 have hent:∃ es l,ges ν es=some l/\(fO (fnd K.k kv es 0) fun z=>oE (fO (tT A.e) fun E=>zeroV E fun v=>okv ok false v c) (fun iv=>okv ok true iv.2 c) z)=true/\
  ((m=none/\l=[])\/∃ b n,m=some b/\(b,Obj.map l.toArray n)∈H):=by
  cases q with
  | none=>
   simp [gM] at hm;subst hm;exact ⟨[],[],rfl,hf,.inl ⟨rfl,rfl⟩⟩
  | some id=>
   have hf':(fO (h.get id) fun o=>fO (oMap o) fun z=>fO (fnd K.k kv z.1 0) fun z=>oE (fO (tT A.e) fun E=>zeroV E fun v=>okv ok false v c) (fun iv=>okv ok true iv.2 c) z)=true:=hf;obtain ⟨o,ho,hf'⟩:=Yf hf';obtain ⟨es,hes,hf'⟩:=Yf hf';obtain ⟨b,l,hb,hl,hmem⟩:=hh.map ho hes;simp [gM,hb] at hm;subst hm;exact ⟨es.1,l,hl,hf',.inr ⟨b,es.2,rfl,hmem⟩⟩
 obtain ⟨es,l,hl,hf,hrun⟩:=hent;obtain ⟨z,hz,hf⟩:=Yf hf;have hend:∀ (zz:Option (Nat × Value)) (v v0:Value) (b0:Bool),Instr.findNow XK.desc uk l 0=some zz->(∀ w,(match zz with | some (_,v)=>pure (v,true) | none=>do pure (<- zeroValue A.e,false):Sem (Value × Bool)).run P w=.ok (v0,b0) w)->
  (if ok then (.tuple #[v0,.bool b0]) else v0)=v->∀ ρ w,Reads r ρ->Inv cx fz H w->Xk P (fun v' w'=>v'=v/\Fr [] w w') ((execOp ρ ⟨dst,.lookup t x k ok,ty,pos,af,gd⟩).run P w):=by
  intro zz v v0 b0 hfn hzz hv ρ w hρ hi;have hl:(Instr.lookup t (.map m) uk ok).run P w=.ok v w:=by
   rcases hrun with ⟨rfl,rfl⟩ | ⟨b,n,rfl,hmem⟩
   ·simp only [Instr.lookup,Sem.run_bind,run_underlying hu w,Result.andThen_ok,Sem.run_pure,run_checkKey huk hdk,run_findKey huk hfn];have:=hzz w;cases zz with
    | none=>simp only [Sem.run_bind] at this ⊢;rw [<- hv];revert this;cases (zeroValue A.e).run P w<;>simp_all
    | some q=>simp only [Sem.run_pure] at this ⊢;rw [<- hv];simp_all
   simp only [Instr.lookup,Sem.run_bind,run_underlying hu w,Result.andThen_ok,Sem.run_pure,XN hi hmem (by simp),run_checkKey huk hdk,run_findKey huk hfn];have:=hzz w;cases zz with
   | none=>simp only [Sem.run_bind] at this ⊢;rw [<- hv];revert this;cases (zeroValue A.e).run P w<;>simp_all
   | some q=>simp only [Sem.run_pure] at this ⊢;rw [<- hv];simp_all
  simp only [execOp,hρ _ _ h2,hρ _ _ h4,Sem.run_bind,hl,Result.andThen_ok,Sem.run_pure];exact ⟨rfl,Fr.refl _ _⟩
 rcases fnd_s hRK hkp h3 hl hz with ⟨rfl,hfn⟩ | ⟨j,v,w',rfl,hg,hfn,_⟩
 ·obtain ⟨E,hE,hf⟩:=Yf hf;obtain ⟨XE,hXE,hRE⟩:=hT A.e E hE;obtain ⟨av,hc,hgz⟩:=Ygd hRE (ν:=ν) hf;have h7:=fun v hv=>hend none v XE.zero false hfn (fun w=>by simp only [Sem.run_bind,XJ T hXE w,Result.andThen_ok,Sem.run_pure]) hv
  cases ok with
  | true=>exact ⟨_,.tuple #[XE.zero,.bool false],hc,by simp [gv,gvs,hgz],h7 _ rfl⟩
  | false=>exact ⟨_,XE.zero,hc,hgz,h7 _ rfl⟩
 have h7:=fun v hv=>hend (some (0+j,w')) v w' true hfn (fun w=>rfl) hv
 cases ok with
 | true=>exact ⟨_,.tuple #[w',.bool true],hf,by simp [gv,gvs,hg],h7 _ rfl⟩
 | false=>exact ⟨_,w',hf,hg,h7 _ rfl⟩
end
section
variable {P:Program} {cx:Cx} {tT:TT} {T:Tab P} {fz:FZ}
variable {H:HP}
theorem HR.it {ν:Nu} {h:Tr AO} {Fm:HP} (hh:HR tT ν h H Fm) {id:Nat} {o:AO} {it:It} (hg:h.get id=some o) (hc:oIt o=some it):
 ∃ b m,ν.blk id=some b/\gM ν it.m=some m/\(b,Obj.mapIter m it.since it.seen.toArray it.stepped)∈H:=by
 obtain ⟨b,x,h1,h2,h3⟩:=hh.own id o hg;cases o with
 | mit m a l s=>
  simp [oIt] at hc;subst hc;simp only [go] at h2;cases hv:gM ν m with
  | none=>simp [hv] at h2
  | some q=>simp [hv] at h2;subst h2;exact ⟨b,q,h1,by first | exact hv | rfl,h3⟩
 | cells _ _ _ _=>simp [oIt] at hc
 | map _ _=>simp [oIt] at hc
theorem YfQ:∀ {l:List Nat} {z:Nat},YjQ l=some z->l.getLast?=some z
 | [],_,h=>by cases h
 | [x],z,h=>by simpa [YjQ] using h
 | x::y::r,z,h=>by
  have:YjQ (y::r)=some z:=h;have:=YfQ this;simpa using this
theorem fndB_s {ν:Nu} {z:Nat}:∀ {es:List (AV × AV × Nat)} {l:List MapEntry} {e:AV × AV × Nat},ges ν es=some l->fndB z es=some e->∃ k v n,gv ν e.1=some k/\gv ν e.2.1=some v/\l.find? (·.born==z)=some ⟨k,v,n⟩
 | [],_,_,_,h=>by cases h
 | a::es,l,e,hl,h=>by
  obtain ⟨k,v,q,h1,h2,h3,rfl⟩:=Wn hl;simp only [fndB] at h;cases hb:Nat.beq a.2.2 z with
  | true=>
   rw [hb] at h;injection h with h;subst h
   exact ⟨k,v,a.2.2,h1,h2,by simp [Nat.eq_of_beq_eq_true hb]⟩
  | false=>
   rw [hb] at h;obtain ⟨k',v',n,g1,g2,g3⟩:=fndB_s h3 h;refine ⟨k',v',n,g1,g2,?_⟩;have hne:(a.2.2==z)=false:=by
    rw [beq_eq_false_iff_ne];intro he;rw [he,Nat.beq_refl] at hb;cases hb
   simp only [List.find?_cons,hne];exact g3
theorem s_ent (x:Operand):QS P cx tT fz (qEnt x) (.entry x):=fun ν ar r h H Fm c dst ty pos af gd hr hh hf=>by
 obtain ⟨a,ha,hf⟩:=Yf hf;obtain ⟨p,hp,hf⟩:=Yf hf;obtain ⟨hp0,hf⟩:=YE hf;obtain ⟨o,ho,hf⟩:=Yf hf;obtain ⟨it,hit,hf⟩:=Yf hf;obtain ⟨g,hg,hf⟩:=Yf hf;obtain ⟨q,hq,hf⟩:=Yf hf;obtain ⟨es,hes,hf⟩:=Yf hf;obtain ⟨z,hz,hf⟩:=Yf hf;obtain ⟨hcl,hf⟩:=YE hf;obtain ⟨e,he,hf⟩:=Yf hf;obtain ⟨u,h1,h2⟩:=hr x a ha;obtain ⟨b,hb,rfl⟩:=Yam hp h1;obtain ⟨b',m,hb',hm,hmem⟩:=hh.it ho hit;rw [hb] at hb';injection hb' with hb';subst hb'
 obtain ⟨bm,l,hbm,hl,hmem2⟩:=hh.map hq hes;rw [hg] at hm;simp [gM,hbm] at hm;subst hm;obtain ⟨k,v,n,g1,g2,g3⟩:=fndB_s hl he;have hp0':=Nat.eq_of_beq_eq_true hp0;refine ⟨_,.tuple #[k,v],hf,by simp [gv,gvs,g1,g2],fun ρ w hρ hi=>?_⟩;have hlast:it.seen.toArray.back?=some z:=by
  have:=YfQ hz;simpa using this
 have hcl':(es.2 !=it.stepped)=false:=by simp [Nat.eq_of_beq_eq_true hcl]
 rw [hp0'] at h2;have hfind:l.toArray.find? (fun x=>x.born==z)=some ⟨k,v,n⟩:=by simpa using g3
 simp only [execOp,hρ _ _ h2,Instr.entry,Sem.run_bind,XN hi hmem (by simp),Result.andThen_ok,hlast,XN hi hmem2 (by simp),hcl',Bool.false_eq_true,if_false,Sem.run_pure,hfind];exact ⟨rfl,Fr.refl _ _⟩
variable {α:Type} {l:List α}
theorem Ydu {c:α->Bool} (h:one_ l c=true):∃ x,l=[x]/\c x=true:=by
 cases l with
 | nil=>cases h
 | cons x r=>
  cases r with
  | nil=>exact ⟨x,rfl,h⟩
  | cons y q=>cases h
theorem Yc6 {c:α->α->Bool} (h:two_ l c=true):∃ x y,l=[x,y]/\c x y=true:=by
 cases l with
 | nil=>cases h
 | cons x r=>
  obtain ⟨y,rfl,h⟩:=Ydu h;exact ⟨x,y,rfl,h⟩
variable {u:Value}
theorem args1 {r:Operand->Option Value} {xs:List Operand} {vs:List Value} (h:rds r xs=some vs) (hv:vs=[u]):∃ x,xs=[x]/\r x=some u:=by
 subst hv;cases xs with
 | nil=>cases h
 | cons x q=>
  simp only [rds] at h;cases hx:r x with
  | none=>simp [hx] at h
  | some v=>
   cases hq:rds r q with
   | none=>simp [hx,hq] at h
   | some l=>
    simp only [hx,hq] at h;injection h with h
    injection h with h1 h2
    subst h1 h2;cases q with
    | nil=>exact ⟨x,rfl,hx⟩
    | cons y q=>
     simp only [rds] at hq;cases hy:r y with
     | none=>simp [hy] at hq
     | some w=>
      cases hz:rds r q with
      | none=>simp [hy,hz] at hq
      | some _=>simp [hy,hz] at hq
theorem args2 {r:Operand->Option Value} {xs:List Operand} {vs:List Value} {w:Value} (h:rds r xs=some vs) (hv:vs=[u,w]):∃ x y,xs=[x,y]/\r x=some u/\r y=some w:=by
 subst hv;cases xs with
 | nil=>cases h
 | cons x q=>
  simp only [rds] at h;cases hx:r x with
  | none=>simp [hx] at h
  | some v=>
   cases hq:rds r q with
   | none=>simp [hx,hq] at h
   | some l=>
    simp only [hx,hq] at h;injection h with h
    injection h with h1 h2
    subst h1 h2;obtain ⟨y,rfl,hy⟩:=args1 hq rfl;exact ⟨x,y,rfl,hx,hy⟩
theorem YgK {ν:Nu} {a:AV} {vs:List Value} (h:gvs ν [a]=some vs):∃ v,gv ν a=some v/\vs=[v]:=by
 obtain ⟨x,l,hx,hl,rfl⟩:=XA h;simp [gvs] at hl;subst hl;exact ⟨x,hx,rfl⟩
theorem Yj8 {ν:Nu} {a b:AV} {vs:List Value} (h:gvs ν [a,b]=some vs):∃ v w,gv ν a=some v/\gv ν b=some w/\vs=[v,w]:=by
 obtain ⟨x,l,hx,hl,rfl⟩:=XA h;obtain ⟨w,hw,rfl⟩:=YgK hl;exact ⟨x,w,hx,hw,rfl⟩
theorem s_bi (hT:TA tT T) (b:Builtin) (xs:Array Operand) (ats:Array TypeId):QS P cx tT fz (qBi b xs.toList ats.toList) (.call {callee:=.builtin b,args:=xs,argTypes:=ats}):=fun ν ar r h H Fm c dst ty pos af gd hr hh hf=>by
 obtain ⟨vs,hvs,hf⟩:=Yf hf;obtain ⟨us,h1,h2⟩:=hr.all hvs;have hmm:∀ (f:Int->Int->Int),bMax f vs c=true->∃ x y k m n,xs=#[x,y]/\r x=some (.int k m)/\r y=some (.int k n)/\c (.i k (f m n))=true:=by
  intro f hf;obtain ⟨p,q,rfl,hf⟩:=Yc6 hf;obtain ⟨z1,hz1,hf⟩:=Yf hf;obtain ⟨z2,hz2,hf⟩:=Yf hf;obtain ⟨hk,hf⟩:=YE hf;obtain ⟨v,w,hv,hw,rfl⟩:=Yj8 h1;obtain ⟨x,y,hxy,hx,hy⟩:=args2 h2 rfl;have e1:=WJ hz1 hv;have e2:=WJ hz2 hw;subst e1 e2;rw [<- kEq_iff hk] at hy;exact ⟨x,y,_,_,_,by rw [<- Array.toArray_toList (xs:=xs),hxy],hx,hy,Yad hf⟩
 cases b with
 | len=>
  obtain ⟨t,ht,hf2⟩:=Ydu hf;obtain ⟨v,rfl,hf3⟩:=Ydu hf2;clear hf hf2;obtain ⟨u,hu,rfl⟩:=YgK h1;obtain ⟨x,hx,hxr⟩:=args1 h2 rfl;have ex:xs=#[x]:=by rw [<- Array.toArray_toList (xs:=xs),hx]
  have et:ats=#[t]:=by rw [<- Array.toArray_toList (xs:=ats),ht]
  subst ex et;obtain ⟨A,hA,hf⟩:=Yf hf3;obtain ⟨X,hX,hR⟩:=hT t A hA;cases hk4:Nat.beq A.k 4 with
  | true=>
   rw [hk4,Y4] at hf;obtain ⟨s,hs,hf⟩:=Yf hf;obtain ⟨A1,c1,_,_,_,rfl⟩:=Yaa hs hu;exact YO hf (gv_i _ _ _) (Yg rfl (hT:=hX) (hd:=hR.d4 (Nat.eq_of_beq_eq_true hk4)) (hx:=hxr))
  | false=>
   rw [hk4,YF] at hf;cases hk2:Nat.beq A.k 2 with
   | true=>
    rw [hk2,Y4] at hf;obtain ⟨s,hs,hf⟩:=Yf hf;obtain ⟨rfl,_⟩:=Wa hs hu;exact YO (Yhl hf) (gv_i _ _ _) (Ycw T hX (hR.d2 (Nat.eq_of_beq_eq_true hk2)) hxr (by rw [Ybw];rfl))
   | false=>
    rw [hk2,YF] at hf;cases hk5:Nat.beq A.k 5 with
    | true=>
     rw [hk5,Y4] at hf;have hu5:=und_plain T hX (hR.d5 (Nat.eq_of_beq_eq_true hk5)) rfl;refine YO hf (gv_i _ _ _) (Yo (fun ρ w hρ=>?_) rfl);have:∀ z,(Builtin.len_ #[t] ty #[z]).run P w=.ok (Zk A.n) w:=fun z=>by
      simp [Builtin.len_,run_underlying hu5,goInt]
     simp only [execOp,resolve,invoke,builtin,Sem.run_bind,Sem.run_pure,Result.andThen_ok,List.map_toArray,List.map_cons,List.map_nil,this];rfl
    | false=>
     rw [hk5,YF] at hf;obtain ⟨hk6,hf⟩:=YE hf;obtain ⟨q,hq,hf⟩:=Yf hf;obtain ⟨m,hm,rfl⟩:=Ybx hq hu;have hu6:=und_plain T hX (hR.d6 (Nat.eq_of_beq_eq_true hk6)) rfl;cases q with
     | none=>
      simp [gM] at hm;subst hm;rw [Wl] at hf;refine YO (Yhl hf) (gv_i _ _ _) (Yo (fun ρ w hρ=>?_) rfl);simp [execOp,resolve,invoke,builtin,hρ _ _ hxr,Builtin.len_,run_underlying hu6,goInt]
     | some id=>
      rw [XQ] at hf;obtain ⟨o,ho,hf⟩:=Yf hf;obtain ⟨es,hes,hf⟩:=Yf hf;obtain ⟨bb,l,hbb,hl,hmem⟩:=hh.map ho hes;simp [gM,hbb] at hm;subst hm;refine ⟨_,Zk l.length,Yhl hf,by rw [gv_i,Ykc hl];rfl,fun ρ w hρ hi=>?_⟩;have:(Builtin.len_ #[t] ty #[.map (some bb)]).run P w=.ok (Zk l.length) w:=by
       simp [Builtin.len_,run_underlying hu6,XN hi hmem (by simp),goInt]
      simp only [execOp,resolve,invoke,builtin,Sem.run_bind,Sem.run_pure,Result.andThen_ok,List.map_toArray,List.map_cons,List.map_nil,hρ _ _ hxr,this];exact ⟨rfl,Fr.refl _ _⟩
 | cap=>
  obtain ⟨t,ht,hf2⟩:=Ydu hf;obtain ⟨v,rfl,hf3⟩:=Ydu hf2;clear hf hf2;obtain ⟨u,hu,rfl⟩:=YgK h1;obtain ⟨x,hx,hxr⟩:=args1 h2 rfl;have ex:xs=#[x]:=by rw [<- Array.toArray_toList (xs:=xs),hx]
  have et:ats=#[t]:=by rw [<- Array.toArray_toList (xs:=ats),ht]
  subst ex et;obtain ⟨A,X,hA,hX,hR,hk,hf⟩:=WE hT hf3;obtain ⟨s,hs,hf⟩:=Yf hf;obtain ⟨hsy,hf⟩:=YE hf;obtain ⟨A1,c1,_,hC,_,rfl⟩:=Yaa hs hu;have hsy':s.sym=none:=by simpa using hsy
  rw [hsy'] at hC;simp [gC] at hC;subst hC;have hu4:=und_plain T hX (hR.d4 hk) rfl;refine YO hf (gv_i _ _ _) (Yo (fun ρ w hρ=>?_) rfl);simp [execOp,resolve,invoke,builtin,hρ _ _ hxr,Builtin.cap_,run_underlying hu4,goInt]
 | max=>
  obtain ⟨x,y,k,m,n,rfl,hx,hy,hc⟩:=hmm imax hf;refine YO hc (gv_i _ _ _) (Yo (fun ρ w hρ=>?_) rfl);simp [execOp,resolve,invoke,builtin,hρ _ _ hx,hρ _ _ hy,Builtin.max_,Builtin.max2,imax,YgX,YcA]
 | min=>
  obtain ⟨x,y,k,m,n,rfl,hx,hy,hc⟩:=hmm imin hf;refine YO hc (gv_i _ _ _) (Yo (fun ρ w hρ=>?_) rfl);simp [execOp,resolve,invoke,builtin,hρ _ _ hx,hρ _ _ hy,Builtin.min_,Builtin.min2,imin,YgX,YcA]
 | _=>cases hf
end
section
variable {P:Program} {cx:Cx} {tT:TT} {T:Tab P} {fz:FZ}
variable {n:Nat} {v:Value}
theorem YhQ {ν:Nu} {a:AV} (h:byteOf a=some n) (hv:gv ν a=some v):v=.int .u8 n/\n<256:=by
 obtain ⟨z,hz,h⟩:=YB h;obtain ⟨hk,h⟩:=YZ h;obtain ⟨m,hm,h⟩:=YB h;obtain ⟨hlt,h⟩:=YZ h;injection h with h;subst h
 rw [Nat.blt_eq] at hlt;rw [WJ hz hv,kEq_iff hk];cases hz2:z.2 with
 | ofNat q=>rw [hz2] at hm;simp [YjA] at hm;subst hm;exact ⟨rfl,hlt⟩
 | negSucc q=>rw [hz2] at hm;simp [YjA] at hm
theorem Yf8 {ν:Nu}:∀ {l:List AV} {ns:List Nat} {vs:List Value},bytesOf l=some ns->gvs ν l=some vs->vs=ns.map (fun (n:Nat)=>Value.int .u8 n)/\ns.all (fun n=>Nat.blt n 256)=true
 | [],ns,vs,h,hv=>by injection h with h;subst h;simp [gvs] at hv;subst hv;exact ⟨rfl,rfl⟩
 | a::r,ns,vs,h,hv=>by
  obtain ⟨n,hn,h⟩:=YB h;obtain ⟨q,hq,h⟩:=YB h;injection h with h;subst h
  obtain ⟨x,l,hx,hl,rfl⟩:=XA hv;obtain ⟨e1,e2⟩:=YhQ hn hx;obtain ⟨e3,e4⟩:=Yf8 hq hl;subst e1 e3;exact ⟨rfl,by simp [e2,e4,Nat.blt_eq]⟩
theorem run_loadCells {a:Addr}:∀ (vs:List Value) (i:Nat) (acc:Array Value) (w:World),(∀ j v,vs[j]?=some v->w.cell? (a.add (i+j))=some v)->(loadCellsFrom a i vs.length acc).run P w=.ok (acc++vs.toArray) w
 | [],i,acc,w,_=>by simp [loadCellsFrom]
 | v::vs,i,acc,w,h=>by
  have h0:=h 0 v rfl;simp only [Nat.add_zero] at h0;have ih:=run_loadCells vs (i+1) (acc.push v) w (fun j u hj=>by
   have:=h (j+1) u (by simpa using hj);rw [show i+1+j=i+(j+1) from by omega];exact this)
  simp only [List.length_cons,loadCellsFrom,Sem.run_bind,load,Sem.run,h0,Result.andThen_ok];rw [ih];simp
theorem Yi8 (f:Value->Bs->Sem (ForInStep Bs)) (hf:∀ (n:Nat) (s:Bs),f (.int .u8 n) s=pure (.yield (s.push (UInt8.ofNat n)))) (ns:List Nat) (s:Bs) (w:World):
 (forIn (ns.map (fun (n:Nat)=>Value.int .u8 n)).toArray s f).run P w=.ok (s++bs ns) w:=by
 rw [<- Array.forIn_toList];simp only
 induction ns generalizing s with
 | nil=>
  simp only [List.map_nil,List.forIn_nil,Sem.run_pure]
  congr 1
  apply ByteArray.ext;simp [bs]
 | cons n ns ih=>
  simp only [List.map_cons,List.forIn_cons,Sem.run_bind,hf,Sem.run_pure,Result.andThen_ok];rw [ih (s.push (UInt8.ofNat n))]
  congr 1
  apply ByteArray.ext;simp [bs]
variable {w:World}
theorem run_bytesToString {a:Addr} {ns:List Nat} {C:Nat} (_h:ns.all (fun n=>Nat.blt n 256)=true) (hc:∀ j v,(ns.map (fun (n:Nat)=>Value.int .u8 n))[j]?=some v->w.cell? (a.add j)=some v):
 (Conv.bytesToString (.slice (some a) ns.length C)).run P w=.ok (.string (bs ns)) w:=by
 have h1:=run_loadCells (P:=P) (a:=a) (ns.map (fun (n:Nat)=>Value.int .u8 n)) 0 #[] w (fun j v hj=>by rw [Nat.zero_add];exact hc j v hj);simp only [List.length_map] at h1;have e:ByteArray.empty++bs ns=bs ns:=by apply ByteArray.ext;simp [bs]
 simp only [Conv.bytesToString,Sem.run_bind,loadCells,h1,Result.andThen_ok,Array.empty_append];rw [Yi8 _ (fun n s=>rfl),e];rfl
theorem s_conv (hT:TA tT T) (s t:TypeId) (x:Operand):QS P cx tT fz (qConv s t x) (.convert s t x):=fun ν ar r h H Fm c dst ty pos af gd hr hh hf=>by
 obtain ⟨a,ha,hf⟩:=Yf hf;obtain ⟨S,hS,hf⟩:=Yf hf;obtain ⟨A,hA,hf⟩:=Yf hf;obtain ⟨u,h1,h2⟩:=hr x a ha;obtain ⟨XS,hXS,hRS⟩:=hT s S hS;obtain ⟨X,hX,hR⟩:=hT t A hA;cases hk1:Nat.beq A.k 1 with
 | true=>
  rw [hk1,Y4] at hf;obtain ⟨z,hz,hf⟩:=Yf hf;have e:=WJ hz h1;subst e;exact YO (Yad hf) (gv_i _ _ _) (Yj rfl (hT:=hXS) (hT':=hX) (hd:=hR.d1 (Nat.eq_of_beq_eq_true hk1)) (hx:=h2) (hw:=(Yeb _ _).symm))
 | false=>
  rw [hk1,YF] at hf;obtain ⟨hk2,hf⟩:=YE hf;have hu:=und_plain T hX (hR.d2 (Nat.eq_of_beq_eq_true hk2)) rfl;obtain ⟨d,hus,_⟩:=Yc5 T hXS;cases a with
  | s l=>
   obtain ⟨rfl,hall⟩:=Wa (a:=.s l) rfl h1;refine YO hf h1 (Yo (fun ρ w hρ=>?_) rfl);simp [execOp,hρ _ _ h2,convert,run_underlying hus,run_underlying hu]
  | sl p n lo sy=>
   obtain ⟨hk4,hf⟩:=YE hf;obtain ⟨E,XE,hE,hXE,hRE,hkE,hf⟩:=WE hT hf;obtain ⟨hu8,hf⟩:=YE hf;obtain ⟨A1,C,hA1,hC,hle,rfl⟩:=Yaa (a:=.sl p n lo sy) rfl h1;have hus':=und_plain T hXS (hRS.d4 (Nat.eq_of_beq_eq_true hk4)) rfl;have hue:=und_plain T hXE (hRE.d1 hkE) rfl;rw [kEq_iff hu8] at hue;cases p with
   | none=>
    simp [gA] at hA1;subst hA1;refine YO hf (v:=.string (bs [])) (by simp [gv]) (Yo (fun ρ w hρ=>?_) rfl);simp only [execOp,hρ _ _ h2,convert,run_underlying hus' w,run_underlying hu w,run_underlying hue w,Sem.run_bind,Result.andThen_ok,Conv.bytesToString,Sem.run_pure];rfl
   | some p=>
    rw [XQ] at hf;obtain ⟨o,ho,hf⟩:=Yf hf;obtain ⟨cs,hcs,hf⟩:=Yf hf;obtain ⟨l,hl,hf⟩:=Yf hf;obtain ⟨ns,hns,hf⟩:=Yf hf;rw [fS_eq] at hf;simp only [gA] at hA1;cases hb:ν.blk p.1 with
    | none=>simp [hb] at hA1
    | some b=>
     simp [hb] at hA1;subst hA1;obtain ⟨b',vs,sl,e,f,hb',hvs,hm⟩:=hh.cells ho hcs;rw [hb] at hb';injection hb' with hb';subst hb'
     obtain ⟨h3,h4⟩:=YbN hvs hl;obtain ⟨e1,e2⟩:=Yf8 hns h4;have hlen:n=ns.length:=by
      have:=congrArg List.length e1;simp at this;omega
     refine ⟨_,.string (bs ns),hf,by simp only [gv];rw [if_pos e2],fun ρ w hρ hi=>?_⟩;have hc:∀ j v,(ns.map (fun (n:Nat)=>Value.int .u8 n))[j]?=some v->w.cell? ((⟨b,p.2,none⟩:Addr).add j)=some v:=fun j v hj=>by
      rw [<- e1] at hj;rw [addr_add,YaM hi hm];rw [List.getElem?_take] at hj;split at hj
      ·rw [List.getElem?_drop] at hj;have hlt':p.2+j<vs.length:=(Zg hj).1;simp only [List.getElem?_toArray];rw [List.getElem?_append_left hlt'];exact hj
      cases hj
     have hrun:=run_bytesToString (P:=P) (C:=C) e2 hc;rw [<- hlen] at hrun;simp only [execOp,hρ _ _ h2,convert,run_underlying hus' w,run_underlying hu w,run_underlying hue w,Sem.run_bind,Result.andThen_ok,hrun,Sem.run_pure];exact ⟨rfl,Fr.refl _ _⟩
  | _=>cases hf
end
end Go.Ev
