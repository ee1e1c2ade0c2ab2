/- The texts QG, QH, QI, QJ, QK, QS, laid together. Conditions: none. -/
import Derived.Test.YtacfpcbladaohaaGreatDoorSAJ
set_option linter.all false
set_option maxHeartbeats 16000000
noncomputable section
set_option maxRecDepth 20000
open Go.Lx Go.RowKit
attribute [local instance 10] Classical.propDecidable
open Go.Proofs.Tryz (prog)
namespace Go.Proofs.YtacfpcbladaohaaGreatDoor
variable {α:Type} {fz fz':FZ} {g j n c:Nat} {v vb va vk:Value} {A:Option Addr} {f:Formula} {L:Lay α} {l:List α}
theorem Yen:OneC exprL:=by
 intro fz d cs h u hu;obtain ⟨va,vk,rfl,hR⟩:=Yw h;obtain ⟨⟨A,n,c,rfl,_⟩,⟨B,m,d,rfl,_⟩⟩:=hR.sls;simp at hu;rcases hu with rfl | rfl | rfl | rfl | rfl<;>rfl
theorem YfP:OneC formulaL:=by
 intro fz d cs h u hu;obtain ⟨va,vp,ve,vk,rfl,hR⟩:=Yn h;obtain ⟨⟨A,n,c,rfl,_⟩,⟨B,m,d,rfl,_⟩,⟨C,q,e,rfl,_⟩,⟨D,o,f,rfl,_⟩⟩:=hR.sls;simp at hu;rcases hu with rfl | rfl | rfl | rfl | rfl | rfl<;>rfl
theorem YmH {α:Type} {z:Nat}:∀ {xs:List (α × List Value)} {j:Nat} {p:α × List Value},(∀ p∈xs,p.2.length=z)->xs[j]?=some p->((xs.flatMap Prod.snd).drop (j*z)).take z=p.2
 | [],j,p,_,h=>by simp at h
 | x::r,0,p,h,hj=>by
  simp at hj;subst hj;have hx:=h x (by simp);rw [List.flatMap_cons,Nat.zero_mul,List.drop_zero,<- hx,List.take_left]
 | x::r,j+1,p,h,hj=>by
  have hx:=h x (by simp);have ih:=YmH (xs:=r) (j:=j) (fun p hp=>h p (by simp [hp])) (by simpa using hj);have e:(j+1)*z=x.2.length+j*z:=by rw [Nat.succ_mul];omega
  rw [List.flatMap_cons,e,List.drop_append,List.drop_eq_nil_of_le Zi,List.nil_append,Nat.add_sub_cancel_left];exact ih
theorem YbM {e:Nat} {cap:Nat} {cur:List Value} (h:GrowB L e fz g n cap cur l) {d:α} (hj:l[j]?=some d):∃ cs,L.rep fz d cs/\(cur.drop (j*L.size)).take L.size=cs:=by
 obtain ⟨xs,h1,h2,h3⟩:=h.pairs;have hl:=h.len;have hjl:j<n:=by have:=(Zg hj).1;omega
 rw [<- h1,List.getElem?_map] at hj;cases hx:xs[j]? with
 | none=>rw [hx] at hj;cases hj
 | some p=>
  rw [hx] at hj;simp at hj;subst hj;refine ⟨p.2,h2 p (Zm hx),?_⟩;rw [<- YmH (fun p hp=>L.len (h2 p hp)) hx,<- h3,List.drop_take,List.take_take];have:j*L.size+L.size<=n*L.size:=by rw [<- Nat.succ_mul];exact Nat.mul_le_mul_right _ hjl
  rw [Nat.min_eq_left Zi]
section
variable {P:Program} {cx:Cx} {r:Operand->Option Value} {fz:FZ} {H:HP} {dst:Option Nat} {ty:TypeId} {pos:String} {af:Array Edge} {gd:Option (Nat × Bool)} {V:Value->Prop}
variable {o:Oper}
theorem Does.perm {H':HP} {K:Value->FZ->HP->Prop} (hp:H'.Perm H) (h:Does P cx o r fz H' K):Does P cx o r fz H K:=Does.of fun ρ w hr hw=>h.run ρ w hr (hw.perm hp)
end
def ToE (fz:FZ) (v:Value):Prop:=v=.map none\/∃ g,v=.map (some g)/\fz g=some (mapS [])
theorem ToE.mono (h:ToE fz v) (hle:Le fz fz'):ToE fz' v:=h.imp id fun ⟨g,h1,h2⟩=>⟨g,h1,hle _ _ h2⟩
theorem YmR {l:List Lx.Expr} (h:Sl exprL fz A n c l) (hn:n<=1000000000):
 GFn prog 228 [Zc A n c] fz [] (fun v fz' H'=>Grow exprL 61 fz' v n H' l):=by
 have l1:=h.len;refine zF Tryz.func228 Tryz.ntmps228 (fun w0=>?_);refine vG ?_;refine WS (fun eA=>?_) (fun eA=>?_)
 ·subst eA;have hl:l=[]:=by
   rcases h.elem with h0 | ⟨_,h0,_⟩
   ·exact List.eq_nil_of_length_eq_zero Zi
   cases h0
  subst hl;simp at l1;subst l1;refine zV ?_;refine Yd2 (H':=[]) (H2:=[]) rfl rfl (Zr _) (fun fz3 hle3 _=>Grow.nil _ _ _)
 refine zV ?_;refine Ya (Yaq (fun gb=>?_));refine zV ?_;refine Ya (XF T (Hr:=[]) (n:=0) (l:=[]) Zz Zz Zz Zz Zz Zz Zz Zz (Zr _) (Grow.block (ys:=[]) rfl rfl (by intro p hp;cases hp) rfl) Yen h (by show _*88<=_;omega) Zi (fun v' Hs' hO'=>?_));obtain ⟨Av',cv',rfl,_,_⟩:=hO'.form;refine zV ?_;refine Yd2 (H':=Hs') (H2:=[]) rfl rfl (by simp) (fun fz3 hle3 _=>(hO'.mono hle3).of (by simp) Zi)
theorem cloneF_q {l:List Formula} (h:Sl formulaL fz A n c l) (hn:n<=1000000000):
 GFn prog 229 [Zc A n c] fz [] (fun v fz' H'=>Grow formulaL 35 fz' v n H' l):=by
 have l1:=h.len;refine zF Tryz.func229 Tryz.ntmps229 (fun w0=>?_);refine vG ?_;refine WS (fun eA=>?_) (fun eA=>?_)
 ·subst eA;have hl:l=[]:=by
   rcases h.elem with h0 | ⟨_,h0,_⟩
   ·exact List.eq_nil_of_length_eq_zero Zi
   cases h0
  subst hl;simp at l1;subst l1;refine zV ?_;refine Yd2 (H':=[]) (H2:=[]) rfl rfl (Zr _) (fun fz3 hle3 _=>Grow.nil _ _ _)
 refine zV ?_;refine Ya (Yaq (fun gb=>?_));refine zV ?_;refine Ya (XF T (Hr:=[]) (n:=0) (l:=[]) Zz Zz Zz Zz Zz Zz Zz Zz (Zr _) (Grow.block (ys:=[]) rfl rfl (by intro p hp;cases hp) rfl) YfP h (by show _*128<=_;omega) Zi (fun v' Hs' hO'=>?_));obtain ⟨Av',cv',rfl,_,_⟩:=hO'.form;refine zV ?_;refine Yd2 (H':=Hs') (H2:=[]) rfl rfl (by simp) (fun fz3 hle3 _=>(hO'.mono hle3).of (by simp) Zi)
theorem YhJ {vt:Value} {l:List Bs} (h:Sl strL fz A n c l) (hn:n<=1000000000) (ht:ToE fz vt):
 GFn prog 227 [Zc A n c,vt,vb] fz [] (fun v fz' H'=>H'=[]/\IsSl strL fz' v l):=by
 have ln:=h.len;refine zF Tryz.func227 Tryz.ntmps227 (fun w0=>?_);refine zW ?_;refine Ya (Yh [] [] Zz (YbN h hn) (fun v6 fz6 H6 hle6 hR6=>?_));obtain ⟨A6,c6,rfl,_,_⟩:=hR6.form;refine Seq.freezeAll (H1:=[]) (H2:=H6) (by simp) (fun fz7 hle7 hf7=>?_);obtain ⟨A7,c7,e7,h7⟩:=hR6.sl hle7 hf7 Zi;injection e7 with e71 e72 e73
 subst e71;subst e73;have ht7:=ht.mono (hle6.trans hle7);refine zW ?_;refine Yi (fun q σ fz' H'=>∃ k:Nat,k<=n/\q=n - k/\σ=[(16,Zk k),(15,Zk n),(14,Zc A6 n c6),(7,Zc A6 n c6),(1,vt),(2,vb)]/\fz7=fz'/\H'=[]) ⟨0,Z0 _,rfl,rfl,rfl,rfl⟩ Zw Zb ?_;rintro q σ fz' H' ⟨k,hk,rfl,rfl,rfl,rfl⟩;refine wC ?_ ?_<;>intro c1
 ·obtain ⟨x,hx⟩:=Yc (l:=l) (k:=k) Zi;refine wI h7 hx (fun p1 hp1=>?_);refine zH hp1 (fun hs1=>?_);refine zW ?_;rcases ht7 with rfl | ⟨g,rfl,hg⟩
  ·refine zG ?_;refine Ygh (v:=Ze) T Zz Zz Zz Zz Zz Zz Zz rfl ?_;exact wP (h:=by exact ⟨k+1,by omega,rfl,rfl,rfl,rfl⟩)
  refine zG ?_;refine Xe (v:=Ze) (b:=false) hg ?_ (hv:=rfl) (hb:=rfl);exact wP (h:=by exact ⟨k+1,by omega,rfl,rfl,rfl,rfl⟩)
 refine zW ?_;exact Yb3 rfl rfl (fun fz3 hle3 _=>⟨rfl,(h7.mono hle3).is⟩)
theorem Wi {α:Type}:∀ {l:List α} {k:Nat} {x:α},l[k]?=some x->l.set k x=l
 | [],k,x,h=>by simp at h
 | a::r,0,x,h=>by simp at h;subst h;rfl
 | a::r,k+1,x,h=>by rw [List.set_cons_succ,Wi (by simpa using h)]
def ExprV (fz:FZ) (e:Lx.Expr) (v:Value):Prop:=∃ wa wk,v=.agg #[Zy e.op,Zy e.name,Zk e.n,wa,wk]/\ExprR fz e wa wk
theorem Yjk:∀ (s:Nat) {fz:FZ} {e:Lx.Expr} {va vk vt vb:Value},SizeOf.sizeOf e<=s->ExprR fz e va vk->ToE fz vt->eW e<=1000000000->
 GFn prog 226 [.agg #[Zy e.op,Zy e.name,Zk e.n,va,vk],vt,vb] fz [] (fun v fz' H'=>H'=[]/\ExprV fz' e v)
 | 0,_,e,_,_,_,_,hse,_,_,_=>by cases e;simp at hse
 | s+1,fz,e,va,vk,vt,vb,hse,hR,ht,hW=>by
  have hweq:=YnI e;have hkl:=XH YmL e.kids;obtain ⟨⟨B1,m1,d1,rfl,ia⟩,⟨B2,m2,d2,rfl,ik⟩⟩:=hR.sls;have l1:=ia.len;have l2:=ik.len;refine zF Tryz.func226 Tryz.ntmps226 (fun w0=>?_);refine zW ?_;intros;rename_i g3 g6;refine Ya (Yh [] [_,_] Zz (YhJ ia Zi ht) (fun v1 fz1 H1 hle1 hR1=>?_));obtain ⟨rfl,B3,m3,d3,rfl,ia1⟩:=hR1;refine zW ?_;refine Ya (Yh [] [_,_] Zz (YmR (ik.mono hle1) Zi) (fun v2 fz2 H2 hle2 hR2=>?_));obtain ⟨B4,d4,rfl,_,_⟩:=hR2.form;refine Seq.perm Zq ?_;refine zW ?_;refine Yi (fun q σ fz' H'=>∃ (k:Nat) (Hk:HP),k<=m2/\q=m2 - k/\σ=[(22,Zk k),(21,Zk m2),(20,Zc B4 m2 d4),(6,Zp g6),(3,Zp g3),(1,vt),(2,vb)]/\Le fz2 fz'/\
   H'=(g6,Zu #[Ze,Ze,Zk 0,Zn,Zn] 61)::(g3,Zu #[Zy e.op,Zy e.name,Zk e.n,Zc B3 m3 d3,Zc B4 m2 d4] 61)::Hk/\
   Grow exprL 61 fz' (Zc B4 m2 d4) m2 Hk e.kids) ⟨0,H2,Z0 _,rfl,rfl,Zd,rfl,hR2⟩ Zw Zb ?_
  rintro q σ fz' H' ⟨k,Hk,hk,rfl,rfl,hle,rfl,hG⟩;refine wC ?_ ?_<;>intro c1
  ·obtain ⟨x,hx⟩:=Yc (l:=e.kids) (k:=k) Zi;have hxm:=Zm hx;have hlt:=Expr.kids_lt hxm;have hxw:=Y2 (w:=eW) hxm;obtain ⟨gk,cap,cur,e8,rfl,hB⟩:=hG.b Zi;injection e8 with e81 e82 e83
   subst e81;subst e83;obtain ⟨cs,hrx,hcx⟩:=YbM hB hx;obtain ⟨wa,wk,rfl,hRx⟩:=Yw hrx;obtain ⟨⟨E1,r1,q1,rfl,_⟩,⟨E2,r2,q2,rfl,_⟩⟩:=hRx.sls;refine wG ?_;refine Yv rfl ?_;refine zG ?_;refine Ye (vs:=[Zy x.op,Zy x.name,Zk x.n,Zc E1 r1 q1,Zc E2 r2 q2]) 2 ?_ (hv:=hcx);refine zWN ?_;intros;refine YS [_,_,_,_] ?_;refine zW ?_;refine pU ?_;refine Yf (Yh [] [_,_,_,_] Zz (Yjk s Zi hRx (ht.mono (hle1.trans (hle2.trans hle))) Zi) (fun v5 fz5 H5 hle5 hR5=>⟨⟨hle5,Zx⟩,?_⟩));obtain ⟨rfl,wa5,wk5,rfl,hR5⟩:=hR5;refine Ch.qk ⟨hle5,Zx⟩ (Yv rfl ?_);refine Ch.hard0 (Xr (pre:=[_,_,_]) (L:=exprL) (j:=k) rfl rfl Yen (Ww hR5) (hB.mono hle5) (fun cur1 hB1=>?_));refine Ch.done ?_;exact wP (h:=by exact ⟨k+1,_,by omega,rfl,rfl,hle.trans hle5,rfl,hB1.grow.of (Wi hx) rfl⟩)
  refine zW ?_;refine YL (i:=0) rfl (fun fz3 hle3 hf3=>?_);obtain ⟨A9,c9,e9,h9⟩:=hG.sl hle3 (fun p hp=>hf3 p (by simp [hp])) Zi;injection e9 with e91 e92 e93
  subst e91;subst e93;exact ⟨rfl,_,_,rfl,{hR with args:=(ia1.mono (hle2.trans (hle.trans hle3))).is,kids:=h9.is}⟩
def FormulaV (fz:FZ) (f:Formula) (v:Value):Prop:=∃ va vp ve vk,v=.agg #[Zy f.op,Zy f.name,va,vp,ve,vk]/\FormulaR fz f va vp ve vk
theorem FormulaV.mono (h:FormulaV fz f v) (hle:Le fz fz'):FormulaV fz' f v:=by
 obtain ⟨va,vp,ve,vk,h1,h2⟩:=h;exact ⟨va,vp,ve,vk,h1,h2.mono hle⟩
theorem inner_f {op name:Bs} {B1 B2 B3 B4:Option Addr} {m1 d1 m2 d2 m3 d3 m4 d4:Nat} {ps:List Param} {bs:List Bs} (ip:Sl paramL fz B2 m2 d2 ps) (hb:Sl strL fz A n c bs) (hn:n+ps.length<=1000000000):
 GFn prog 230 [.agg #[Zy op,Zy name,Zc B1 m1 d1,Zc B2 m2 d2,Zc B3 m3 d3,Zc B4 m4 d4],Zc A n c] fz [] (fun v fz' H'=>H'=[]/\∃ B m d,v=Zc B m d/\Sl strL fz' B m d (bs++ps.map (·.name))):=by
 have l2:=ip.len;have lb:=hb.len;refine zF Tryz.func230 Tryz.ntmps230 (fun w0=>?_);refine pX (fun g2=>?_);refine zW ?_;refine Ya (Yh [] [_] Zz (YbN hb Zi) (fun v6 fz6 H6 hle6 hR6=>?_));obtain ⟨A6,c6,rfl,_,_⟩:=hR6.form;refine Seq.perm Zq ?_;refine zW ?_;refine Yi (fun q σ fz' H'=>∃ (k:Nat) (u:Value) (Hs:HP),k<=m2/\q=m2 - k/\σ=[(13,Zk k),(12,Zk m2),(11,Zc B2 m2 d2),(5,u)]/\fz6=fz'/\H'=Hs/\Grow strL 9 fz6 u (n+k) Hs (bs++(ps.take k).map (·.name))) ⟨0,_,H6,Z0 _,rfl,rfl,rfl,rfl,hR6.of (by simp) Zi⟩ Zw (List.sublist_append_right [_] _) ?_;rintro q σ fz' H' ⟨k,u,Hs,hk,rfl,rfl,rfl,rfl,hG⟩;obtain ⟨Au,cu,rfl,_,_⟩:=hG.form;refine wC ?_ ?_<;>intro c1
 ·obtain ⟨x,hx⟩:=Yc (l:=ps) (k:=k) Zi;refine wI (ip.mono hle6) hx (fun p1 hp1=>?_);refine zL hp1 ?_;intro cs hcs;obtain ⟨rfl,hRx⟩:=Yz hcs;refine zW ?_;intros;refine Ya (Yb (cs:=[Zy x.name]) (fun gb=>?_));refine Ya (YD (Hr:=[_,_]) (d:=x.name) (Zr _) hG WP (.head _) ⟨rfl,hRx.name⟩ (fun v' Hs' hO'=>?_));obtain ⟨Av',cv',rfl,_,_⟩:=hO'.form;exact wP (h:=by exact ⟨k+1,_,Hs',by omega,rfl,rfl,rfl,rfl,hO'.of (by rw [List.take_add_one,hx];simp) Zi⟩)
 have hk2:k=m2:=by omega
 subst hk2;rw [Zl Zi] at hG;refine zW ?_;refine Yb3 rfl rfl (fun fz3 hle3 hf3=>?_);obtain ⟨A9,c9,e9,h9⟩:=hG.sl hle3 hf3 Zi;exact ⟨rfl,A9,_,c9,e9,h9⟩
theorem perm3 {H6 H7 H8:HP} {a b:Nat × Obj}:(a::b::((H7++H8)++H6)).Perm (H8++(H7++(H6++ [a,b]))):=by
 rw [show H8++(H7++(H6++ [a,b]))=((H8++H7)++H6)++ [a,b] from by simp [List.append_assoc]];exact (Zq (l₁:=[a,b])).trans ((List.perm_append_comm.append_right H6).append_right [a,b])
theorem bind_f:∀ (s:Nat) {fz:FZ} {f:Formula} {va vp ve vk vt:Value} {A:Option Addr} {n c:Nat} {bs:List Bs},SizeOf.sizeOf f<=s->FormulaR fz f va vp ve vk->ToE fz vt->Sl strL fz A n c bs->n+fW f<=1000000000->
 GFn prog 148 [.agg #[Zy f.op,Zy f.name,va,vp,ve,vk],vt,Zc A n c] fz [] (fun v fz' H'=>H'=[]/\FormulaV fz' f v)
 | 0,_,f,_,_,_,_,_,_,_,_,_,hse,_,_,_,_=>by cases f;simp at hse
 | s+1,fz,f,va,vp,ve,vk,vt,A,n,c,bs,hse,hR,ht,hb,hW=>by
  have hweq:=Ya6 f;have hkl:=XH YpX f.kids;have hel:=XH YmL f.exprs;obtain ⟨⟨B1,m1,d1,rfl,ia⟩,⟨B2,m2,d2,rfl,ip⟩,⟨B3,m3,d3,rfl,ie⟩,⟨B4,m4,d4,rfl,ik⟩⟩:=hR.sls;have l1:=ia.len;have l2:=ip.len;have l3:=ie.len;have l4:=ik.len;have lb:=hb.len;refine zF Tryz.func148 Tryz.ntmps148 (fun w0=>?_);refine zW ?_;intros;rename_i g3 g6;refine Ya (Yh [] [_,_] Zz (YhJ ia Zi ht) (fun v1 fz1 H1 hle1 hR1=>?_));obtain ⟨rfl,B5,m5,d5,rfl,ia1⟩:=hR1;refine zWN ?_;refine YS [_,_] ?_;refine zW ?_;refine Yj ?_;refine zW ?_;refine Yj ?_;refine zW ?_;refine Yj ?_;refine zW ?_;refine pU ?_;refine Yf (Yh [] [_,_] Zz (Yab (ip.mono hle1) Zi) (fun v6 fz6 H6 hle6 hR6=>⟨⟨hle6,Zx⟩,?_⟩));obtain ⟨A6,c6,rfl,_,_⟩:=hR6.form;refine Yf (Yh [] (H6++ [_,_]) Zz (YmR (ie.mono (hle1.trans hle6)) Zi) (fun v7 fz7 H7 hle7 hR7=>⟨⟨hle6.trans hle7,Zx⟩,?_⟩));obtain ⟨A7,c7,rfl,_,_⟩:=hR7.form;refine Yf (Yh [] (H7++(H6++ [_,_])) Zz (cloneF_q (ik.mono (hle1.trans (hle6.trans hle7))) Zi) (fun v8 fz8 H8 hle8 hR8=>⟨⟨hle6.trans (hle7.trans hle8),Zx⟩,?_⟩));obtain ⟨A8,c8,rfl,_,_⟩:=hR8.form;refine Ch.hard0 (Does.perm perm3 (Y1 ?_));refine Ch.hard Zj (DoesQ.does (Xi ?_));refine Ch.hard0 (Y1 ?_);refine Ch.hard Zj (DoesQ.does (Xi ?_));refine Ch.hard0 (Y1 ?_);refine Ch.done ?_;refine Ydn ?_;refine Wp.freezeAll (H1:=_::_::(H7++H8)) (H2:=H6) (Zr _) (fun fz9 hle9 hf9=>?_);obtain ⟨A9,c9,e9,ip9⟩:=hR6.sl (hle7.trans (hle8.trans hle9)) hf9 Zi;injection e9 with e91 e92 e93
  subst e91;subst e93;have hx0:=hle1.trans (hle6.trans (hle7.trans (hle8.trans hle9)));refine zW ?_;refine Yi (fun q σ fz' H'=>∃ (k:Nat) (Hk:HP),k<=m3/\q=m3 - k/\σ=[(32,Zk k),(31,Zk m3),(30,Zc A7 m3 c7),(6,Zp g6),(3,Zp g3),(1,vt),(2,Zc A n c)]/\Le fz9 fz'/\
   H'=(g6,Zu #[Ze,Ze,Zn,Zn,Zn,Zn] 35)::(g3,Zu #[Zy f.op,Zy f.name,Zc B5 m5 d5,Zc A6 m2 c6,Zc A7 m3 c7,Zc A8 m4 c8] 35)::(Hk++H8)/\
   Grow exprL 61 fz' (Zc A7 m3 c7) m3 Hk f.exprs) ⟨0,H7,Z0 _,rfl,rfl,Zd,rfl,hR7.mono (hle8.trans hle9)⟩ Zw Zb ?_
  rintro q σ fz' H' ⟨k,Hk,hk,rfl,rfl,hle,rfl,hG⟩;refine wC ?_ ?_<;>intro c1
  ·obtain ⟨x,hx⟩:=Yc (l:=f.exprs) (k:=k) Zi;have hxm:=Zm hx;have hxw:=Y2 (w:=eW) hxm;obtain ⟨gk,cap,cur,e8,rfl,hB⟩:=hG.b Zi;injection e8 with e81 e82 e83
   subst e81;subst e83;obtain ⟨cs,hrx,hcx⟩:=YbM hB hx;obtain ⟨wa,wk,rfl,hRx⟩:=Yw hrx;obtain ⟨⟨E1,r1,q1,rfl,_⟩,⟨E2,r2,q2,rfl,_⟩⟩:=hRx.sls;refine wG ?_;refine Yv rfl ?_;refine zG ?_;refine Ye (vs:=[Zy x.op,Zy x.name,Zk x.n,Zc E1 r1 q1,Zc E2 r2 q2]) 2 ?_ (hv:=hcx);refine zWN ?_;intros;refine YS [_,_,_,_] ?_;refine zW ?_;refine pU ?_;refine Yf (Yh [] (_::_::_::_::H8) Zz (Yjk _ (Zs _) hRx (ht.mono (hx0.trans hle)) Zi) (fun v5 fz5 H5 hle5 hR5=>⟨⟨hle5,Zx⟩,?_⟩));obtain ⟨rfl,wa5,wk5,rfl,hR5⟩:=hR5;refine Ch.qk ⟨hle5,Zx⟩ (Yv rfl ?_);refine Ch.hard0 (Xr (pre:=[_,_,_]) (L:=exprL) (j:=k) rfl rfl Yen (Ww hR5) (hB.mono hle5) (fun cur1 hB1=>?_));refine Ch.done ?_;exact wP (h:=by exact ⟨k+1,[_],by omega,rfl,rfl,hle.trans hle5,rfl,hB1.grow.of (Wi hx) rfl⟩)
  first
  | refine Wp.freezeAll (H1:=_::_::H8) (H2:=Hk) (List.Perm.cons _ (List.Perm.cons _ Zq)) (fun fz10 hle10 hf10=>?_)
  | refine Seq.freezeAll (H1:=_::_::H8) (H2:=Hk) (List.Perm.cons _ (List.Perm.cons _ Zq)) (fun fz10 hle10 hf10=>?_)
  obtain ⟨A10,c10,e10,ie10⟩:=hG.sl hle10 hf10 Zi;injection e10 with e101 e102 e103
  subst e101;subst e103;have hx1:=hx0.trans (hle.trans hle10);have hRn:FormulaR fz10 f (Zc B5 m5 d5) (Zc A6 m2 c6) (Zc A7 m3 c7) (Zc B4 m4 d4):={hR with args:=(ia1.mono (hle6.trans (hle7.trans (hle8.trans (hle9.trans (hle.trans hle10)))))).is,params:=(ip9.mono (hle.trans hle10)).is,exprs:=ie10.is,kids:=(ik.mono hx1).is};refine zW ?_;refine Ya (Yh [] (_::_::H8) Zz (inner_f (ip9.mono (hle.trans hle10)) (hb.mono hx1) Zi) (fun v11 fz11 H11 hle11 hR11=>?_));obtain ⟨rfl,A11,n11,c11,rfl,hb11⟩:=hR11;have l11:=hb11.len;rw [List.length_append,List.length_map,lb] at l11;refine zW ?_;refine Yi (fun q σ fz' H'=>∃ (k:Nat) (Hk:HP),k<=m4/\q=m4 - k/\σ=[(52,Zk k),(51,Zk m4),(50,Zc A8 m4 c8),(6,Zp g6),(3,Zp g3),(1,vt),(2,Zc A11 n11 c11)]/\Le fz11 fz'/\
   H'=(g6,Zu #[Ze,Ze,Zn,Zn,Zn,Zn] 35)::(g3,Zu #[Zy f.op,Zy f.name,Zc B5 m5 d5,Zc A6 m2 c6,Zc A7 m3 c7,Zc A8 m4 c8] 35)::Hk/\
   Grow formulaL 35 fz' (Zc A8 m4 c8) m4 Hk f.kids) ⟨0,H8,Z0 _,rfl,rfl,Zd,rfl,hR8.mono (hle9.trans (hle.trans (hle10.trans hle11)))⟩ Zw Zb ?_
  rintro q σ fz' H' ⟨k,Hk,hk,rfl,rfl,hle12,rfl,hG12⟩;refine wC ?_ ?_<;>intro c2
  ·obtain ⟨x,hx⟩:=Yc (l:=f.kids) (k:=k) Zi;have hxm:=Zm hx;have hlt:=Formula.kids_lt hxm;have hxw:=Y2 (w:=fW) hxm;obtain ⟨gk,cap,cur,e8,rfl,hB⟩:=hG12.b Zi;injection e8 with e81 e82 e83
   subst e81;subst e83;obtain ⟨cs,hrx,hcx⟩:=YbM hB hx;obtain ⟨wa,wp,we,wk,rfl,hRx⟩:=Yn hrx;obtain ⟨⟨E1,r1,q1,rfl,_⟩,⟨E2,r2,q2,rfl,_⟩,⟨E3,r3,q3,rfl,_⟩,⟨E4,r4,q4,rfl,_⟩⟩:=hRx.sls;refine wG ?_;refine Yv rfl ?_;refine zG ?_;refine Ye (vs:=[Zy x.op,Zy x.name,Zc E1 r1 q1,Zc E2 r2 q2,Zc E3 r3 q3,Zc E4 r4 q4]) 2 ?_ (hv:=hcx);refine zWN ?_;intros;refine YS [_,_,_,_] ?_;refine zW ?_;refine pU ?_;refine Yf (Yh [] [_,_,_,_] Zz (bind_f s Zi hRx (ht.mono (hx1.trans (hle11.trans hle12))) (hb11.mono hle12) Zi) (fun v5 fz5 H5 hle5 hR5=>⟨⟨hle5,Zx⟩,?_⟩));obtain ⟨rfl,wa5,wp5,we5,wk5,rfl,hR5⟩:=hR5;refine Ch.qk ⟨hle5,Zx⟩ (Yv rfl ?_);refine Ch.hard0 (Xr (pre:=[_,_,_]) (L:=formulaL) (j:=k) rfl rfl YfP (YK hR5) (hB.mono hle5) (fun cur1 hB1=>?_));refine Ch.done ?_;exact wP (h:=by exact ⟨k+1,_,by omega,rfl,rfl,hle12.trans hle5,rfl,hB1.grow.of (Wi hx) rfl⟩)
  refine zW ?_;refine YL (i:=0) rfl (fun fz3 hle3 hf3=>?_);obtain ⟨A13,c13,e13,h13⟩:=hG12.sl hle3 (fun p hp=>hf3 p (by simp [hp])) Zi;injection e13 with e131 e132 e133
  subst e131;subst e133;exact ⟨rfl,_,_,_,_,rfl,{hRn.mono (hle11.trans (hle12.trans hle3)) with kids:=h13.is}⟩
def cmpF (op:Bs) (a b:Lx.Expr):Formula:=.mk op ⟨#[]⟩ [] [] [a,b] []
theorem Ygy {op:Bs} {a b:Lx.Expr} {wa wk:Value} (ho:Short op) (hRa:ExprR fz a va vk) (hRb:ExprR fz b wa wk) (ha:eW a<=1000000000) (hb:eW b<=1000000000):
 GFn prog 147 [Zy op,.agg #[Zy a.op,Zy a.name,Zk a.n,va,vk],.agg #[Zy b.op,Zy b.name,Zk b.n,wa,wk]] fz [] (fun v fz' H'=>H'=[]/\FormulaV fz' (cmpF op a b) v):=by
 obtain ⟨⟨A1,n1,c1,rfl,ia⟩,⟨A2,n2,c2,rfl,ik⟩⟩:=hRa.sls;obtain ⟨⟨A3,n3,c3,rfl,ja⟩,⟨A4,n4,c4,rfl,jk⟩⟩:=hRb.sls;refine zF Tryz.func147 Tryz.ntmps147 (fun w0=>?_);refine zW ?_;intros;rename_i g4 g5 g6;refine Ya (Xf (fun gm=>?_));refine Seq.freezeAll (H1:=[_,_,_]) (H2:=[_]) (Zq (l₁:=[_])) (fun fz1 hle1 hf1=>?_);have ht:ToE fz1 (.map (some gm)):=.inr ⟨gm,rfl,hf1 _ (List.mem_singleton.2 rfl)⟩;refine zWN ?_;refine YS [_,_,_] ?_;refine zW ?_;refine Yj ?_;refine zW ?_;refine pU ?_;refine Yf (Yh [] [_,_,_] Zz (Yjk _ (Zs _) (hRa.mono hle1) ht ha) (fun v2 fz2 H2 hle2 hR2=>⟨⟨hle2,Zx⟩,?_⟩));obtain ⟨rfl,wa2,wk2,rfl,hR2⟩:=hR2;refine Yf (Yh [] [_,_,_] Zz (Yjk _ (Zs _) (hRb.mono (hle1.trans hle2)) (ht.mono hle2) hb) (fun v3 fz3 H3 hle3 hR3=>⟨⟨hle2.trans hle3,Zx⟩,?_⟩));obtain ⟨rfl,wa3,wk3,rfl,hR3⟩:=hR3;refine Yf (Yb (cs:=[Zy a.op,Zy a.name,Zk a.n,wa2,wk2,Zy b.op,Zy b.name,Zk b.n,wa3,wk3]) (fun gb=>⟨⟨hle2.trans hle3,Zx⟩,?_⟩));refine Ch.qk ⟨hle2.trans hle3,Zx⟩ (Xy ?_);refine Ch.hard0 (Y1 ?_);refine Ch.done ?_;refine zW ?_;refine YL (i:=1) rfl (fun fz4 hle4 hf4=>?_);have hgb:Grow exprL 61 fz3 (Zv gb 2 2) 2 [(gb,Zu #[Zy a.op,Zy a.name,Zk a.n,wa2,wk2,Zy b.op,Zy b.name,Zk b.n,wa3,wk3] 61)] [a,b]:=
  Grow.block (ys:=[(a,_),(b,_)]) rfl rfl (by intro p hp;simp at hp;rcases hp with rfl | rfl;exact Ww (hR2.mono hle3);exact Ww hR3) rfl
 obtain ⟨B1,d1,e1,hS1⟩:=hgb.sl hle4 (fun p hp=>hf4 p (by simp at hp;subst hp;simp)) Zh;exact ⟨rfl,_,_,_,_,rfl,⟨ho,Z0 _,IsSl.nil,IsSl.nil,⟨B1,_,d1,e1,hS1⟩,IsSl.nil⟩⟩
theorem Yh7 {a b:Bs} {s:Bool}:QFn prog 146 [Zy a,Zy b,Zo s] fz (Zy (if s=true then a else b)):=by
 refine qF Tryz.func146 Tryz.ntmps146 (fun w0=>?_);cases s with
 | true=>
  exact wR (h:=rfl)
 | false=>
  exact wR (h:=rfl)
end Go.Proofs.YtacfpcbladaohaaGreatDoor
namespace Go.Proofs.YtacfpcbladaohaaGreatDoor
variable {f:Formula}
mutual
def mW:Formula->Nat
 | .mk op _ _ _ _ kids=>(if op=kImply then 7 else 3)+mWL kids
def mWL:List Formula->Nat
 | []=>0
 | k::r=>mW k+mWL r
end
theorem mWL_sum (l:List Formula):mWL l=(l.map mW).sum:=by
 induction l with
 | nil=>rw [mWL];rfl
 | cons a r ih=>rw [mWL,ih];rfl
theorem Ynu (f:Formula):mW f=(if f.op=kImply then 7 else 3)+(f.kids.map mW).sum:=by cases f;rw [mW,mWL_sum];rfl
theorem Yms (f:Formula):1<=mW f:=by rw [Ynu];split<;>omega
def joinL (op:Bs) (ns:List Formula):List Formula:=ns.flatMap fun n=>if n.op=op then n.kids else [n]
def joinF (op:Bs) (ns:List Formula):Formula:=.mk op ⟨#[]⟩ [] [] [] (joinL op ns)
def YdD:Formula:=.mk ⟨#[]⟩ ⟨#[]⟩ [] [] [] []
def YnV:Lx.Expr:=.mk ⟨#[]⟩ ⟨#[]⟩ 0 [] []
def headN (l:List Formula):Formula:=l.headD YdD
def secN (l:List Formula):Formula:=(l[1]?).getD YdD
def exprAt (l:List Lx.Expr) (i:Nat):Lx.Expr:=(l[i]?).getD YnV
def QuF (op:Bs):Prop:=op=kForall\/op=kExists
mutual
def normM:Bool->Formula->Formula
 | sg,.mk op name args params exprs kids=>
  if op=kNot then headN (normL (!sg) kids)
  else if op=kImply then joinF (if sg=true then kOr else kAnd) [headN (normL (!sg) kids),secN (normL sg kids)]
  else if op=kAnd then joinF (if sg=true then kAnd else kOr) (normL sg kids)
  else if op=kOr then joinF (if sg=true then kOr else kAnd) (normL sg kids)
  else if QuF op then .mk (if sg=true then op else if op=kForall then kExists else kForall) ⟨#[]⟩ [] params [] [headN (normL sg kids)]
  else if op=kLt then (if sg=true then cmpF kLt (exprAt exprs 0) (exprAt exprs 1) else cmpF kLe (exprAt exprs 1) (exprAt exprs 0))
  else if op=kLe then (if sg=true then cmpF kLe (exprAt exprs 0) (exprAt exprs 1) else cmpF kLt (exprAt exprs 1) (exprAt exprs 0))
  else if op=kEq then (if sg=true then cmpF kEq (exprAt exprs 0) (exprAt exprs 1) else .mk kOr ⟨#[]⟩ [] [] [] [cmpF kLt (exprAt exprs 0) (exprAt exprs 1),cmpF kLt (exprAt exprs 1) (exprAt exprs 0)])
  else if sg=true then .mk op name args params exprs kids
  else .mk kNot ⟨#[]⟩ [] [] [] [.mk op name args params exprs kids]
def normL:Bool->List Formula->List Formula
 | _,[]=>[]
 | sg,k::r=>normM sg k::normL sg r
end
theorem Ygs (sg:Bool):∀ l:List Formula,normL sg l=l.map (normM sg)
 | []=>by rw [normL];rfl
 | k::r=>by rw [normL,Ygs sg r];rfl
theorem WD (sg:Bool) (f:Formula):normM sg f=
 if f.op=kNot then headN (f.kids.map (normM (!sg)))
 else if f.op=kImply then joinF (if sg=true then kOr else kAnd) [headN (f.kids.map (normM (!sg))),secN (f.kids.map (normM sg))]
 else if f.op=kAnd then joinF (if sg=true then kAnd else kOr) (f.kids.map (normM sg))
 else if f.op=kOr then joinF (if sg=true then kOr else kAnd) (f.kids.map (normM sg))
 else if QuF f.op then .mk (if sg=true then f.op else if f.op=kForall then kExists else kForall) ⟨#[]⟩ [] f.params [] [headN (f.kids.map (normM sg))]
 else if f.op=kLt then (if sg=true then cmpF kLt (exprAt f.exprs 0) (exprAt f.exprs 1) else cmpF kLe (exprAt f.exprs 1) (exprAt f.exprs 0))
 else if f.op=kLe then (if sg=true then cmpF kLe (exprAt f.exprs 0) (exprAt f.exprs 1) else cmpF kLt (exprAt f.exprs 1) (exprAt f.exprs 0))
 else if f.op=kEq then (if sg=true then cmpF kEq (exprAt f.exprs 0) (exprAt f.exprs 1) else .mk kOr ⟨#[]⟩ [] [] [] [cmpF kLt (exprAt f.exprs 0) (exprAt f.exprs 1),cmpF kLt (exprAt f.exprs 1) (exprAt f.exprs 0)])
 else if sg=true then f else .mk kNot ⟨#[]⟩ [] [] [] [f]:=by
 cases f;rw [normM,Ygs,Ygs];rfl
inductive NSh:Formula->Prop
 | mk {f:Formula} (h1:f.op=kNot\/f.op=kForall\/f.op=kExists->f.kids≠ []) (h2:f.op=kImply->2<=f.kids.length) (h3:f.op=kLt\/f.op=kLe\/f.op=kEq->2<=f.exprs.length)
  (h4:f.op≠kOr->f.op≠kNot->fW f<=1000000000) (h5:∀ k∈f.kids,NSh k):NSh f
theorem NSh.head (h:NSh f):f.op=kNot\/f.op=kForall\/f.op=kExists->f.kids≠ []:=by cases h with | mk h1 _ _ _ _=>exact h1
theorem NSh.two (h:NSh f):f.op=kImply->2<=f.kids.length:=by cases h with | mk _ h1 _ _ _=>exact h1
theorem NSh.cmp (h:NSh f):f.op=kLt\/f.op=kLe\/f.op=kEq->2<=f.exprs.length:=by cases h with | mk _ _ h1 _ _=>exact h1
theorem NSh.w (h:NSh f):f.op≠kOr->f.op≠kNot->fW f<=1000000000:=by cases h with | mk _ _ _ h1 _=>exact h1
theorem NSh.kid {k:Formula} (h:NSh f) (hk:k∈f.kids):NSh k:=by cases h with | mk _ _ _ _ h1=>exact h1 k hk
theorem Yed {op:Bs}:∀ {ks:List Formula} {g:Formula->Formula},(∀ k∈ks,(g k).kids.length<=mW k)->(joinL op (ks.map g)).length<=(ks.map mW).sum
 | [],g,_=>by simp [joinL]
 | k::r,g,h=>by
  have h1:=h k (by simp);have h2:=Yed (op:=op) (ks:=r) (g:=g) (fun x hx=>h x (by simp [hx]));have h3:=Yms k;unfold joinL at h2 ⊢;simp only [List.map_cons,List.flatMap_cons,List.length_append,List.sum_cons];split
  ·omega
  simp only [List.length_singleton];omega
theorem YgE {op:Bs} {a b:Formula} {ma mb:Nat} (ha:a.kids.length<=ma) (hb:b.kids.length<=mb):(joinL op [a,b]).length<=2+ma+mb:=by
 have hz2:∀ (x:Formula) (m:Nat),x.kids.length<=m->(if x.op=op then x.kids else [x]).length<=1+m:=by
  intro x m hx;split
  ·omega
  simp
 have h1:=hz2 a ma ha;have h2:=hz2 b mb hb;simp only [joinL,List.flatMap_cons,List.flatMap_nil,List.length_append,List.length_nil];omega
theorem YgO {g:Formula->Formula} {l:List Formula} {k:Formula} (h:l[0]?=some k):headN (l.map g)=g k:=by
 cases l with
 | nil=>simp at h
 | cons a r=>simp at h;subst h;rfl
theorem secN_map {g:Formula->Formula} {l:List Formula} {k:Formula} (h:l[1]?=some k):secN (l.map g)=g k:=by
 unfold secN;rw [List.getElem?_map,h];rfl
theorem YeU:∀ (s:Nat) (sg:Bool) {f:Formula},SizeOf.sizeOf f<=s->(normM sg f).kids.length<=mW f
 | 0,_,f,h=>by cases f;simp at h
 | s+1,sg,f,h=>by
  have ih:∀ sg,∀ k∈f.kids,(normM sg k).kids.length<=mW k:=fun sg k hk=>YeU s sg (by have:=Formula.kids_lt hk;omega)
  have hm:=Ynu f;have hs:=XH Yms f.kids;have hh:∀ sg,(headN (f.kids.map (normM sg))).kids.length<=(f.kids.map mW).sum:=by
   intro sg;cases hk:f.kids with
   | nil=>exact Z0 _
   | cons k r=>
    have:=ih sg k (by rw [hk];simp);show (normM sg k).kids.length<=_;simp only [List.map_cons,List.sum_cons];omega
  have hle:(f.kids.map mW).sum<=mW f:=by omega
  rw [WD];split
  ·exact Nat.le_trans (hh _) hle
  split
  ·rename_i hi;rw [if_pos hi] at hm;have hz:YdD.kids.length<=0:=Zs _;cases hk:f.kids with
   | nil=>
    have:=YgE (op:=if sg=true then kOr else kAnd) hz hz;rw [hm];exact Nat.le_trans this Zi
   | cons k0 r=>
    have h0:=ih (!sg) k0 (by rw [hk];simp);cases hr:r with
    | nil=>
     rw [hk,hr] at hm;simp only [List.map_cons,List.map_nil,List.sum_cons,List.sum_nil] at hm;have:=YgE (op:=if sg=true then kOr else kAnd) h0 hz;rw [hm];exact Nat.le_trans this Zi
    | cons k1 r=>
     have h1:=ih sg k1 (by rw [hk,hr];simp);rw [hk,hr] at hm;simp only [List.map_cons,List.sum_cons] at hm;have:=YgE (op:=if sg=true then kOr else kAnd) h0 h1;rw [hm];exact Nat.le_trans this Zi
  split
  ·exact Nat.le_trans (Yed (fun k hk=>ih sg k hk)) hle
  split
  ·exact Nat.le_trans (Yed (fun k hk=>ih sg k hk)) hle
  have h3:3<=mW f:=by rw [hm];split<;>omega
  split
  ·show 1<=_;omega
  split
  ·split<;>exact Z0 _
  split
  ·split<;>exact Z0 _
  split
  ·split
   ·exact Z0 _
   show 2<=_;omega
  split
  ·omega
  show 1<=_;omega
end Go.Proofs.YtacfpcbladaohaaGreatDoor
namespace Go.Proofs.YtacfpcbladaohaaGreatDoor
variable {α:Type} {f:Formula} {fz:FZ} {v va ve vk vp:Value} {A:Option Addr} {c k n:Nat} {L:Lay α}
theorem FormulaV.open (h:FormulaV fz f v):∃ A n c B m d C o e D q g,v=.agg #[Zy f.op,Zy f.name,Zc A n c,Zc B m d,Zc C o e,Zc D q g]/\FormulaR fz f (Zc A n c) (Zc B m d) (Zc C o e) (Zc D q g):=by
 obtain ⟨va,vp,ve,vk,rfl,hR⟩:=h;obtain ⟨⟨A,n,c,rfl,_⟩,⟨B,m,d,rfl,_⟩,⟨C,o,e,rfl,_⟩,⟨D,q,g,rfl,_⟩⟩:=id hR.sls;exact ⟨A,n,c,B,m,d,C,o,e,D,q,g,rfl,hR⟩
section
variable {P:Program} {cx:Cx} {r:Operand->Option Value} {fz:FZ} {H:HP} {V:Value->Prop} {dst:Option Nat} {ty:TypeId} {pos:String} {af:Array Edge} {gd:Option (Nat × Bool)}
theorem Ylk {t e:TypeId} {x i:Operand} {X Y:Ty} {A:Option Addr} {n c j:Nat}
 (h:V (.slice A j c)) (T:Tab P:=by exact T) (hT:T.inf t=some X:=by exact rfl) (hd:X.desc=.slice e:=by exact rfl) (hY:T.inf e=some Y:=by exact rfl) (hx:r x=some (.slice A n c):=by exact rfl) (hi:r i=some (Zk j):=by exact rfl) (hj:j<=c:=by omega):DoesQ P cx ⟨dst,.slice t x none (some i) none,ty,pos,af,gd⟩ r fz H V:=
  YC (fun ρ w hr=>by
   have hu:=run_underlying (und_plain T hT hd rfl) w;have hs:=Lx.run_sizeOf T hY w;simp [execOp,hr _ _ hx,hr _ _ hi,Instr.sliceAt,Instr.slice,Instr.sliceBounds,Instr.sliceBound,asIntOf,hu,hs,hj];intro _;cases A<;>simp [Addr.add]) h
variable {o:Oper}
theorem Does.freeze {H1 H2:HP} {K:Value->FZ->HP->Prop} (hp:H.Perm (H1++H2)) (h:∀ fz',Le fz fz'->(∀ p∈H2,fz' p.1=some p.2)->Does P cx o r fz' H1 K):Does P cx o r fz H K:=
 Does.of fun ρ w hr hi=>by
  obtain ⟨fz',a,b,c⟩:=XZ H2 fz H1 (hi.perm hp.symm);exact (h fz' a b).run ρ w hr c
end
theorem Yqc {xs:List α} (h:Sl L fz A n c xs) (hk:k<=n):Sl L fz A k c (xs.take k):=by
 have:=h.len;have:=h.cap;have:=h.short;refine ⟨by simp;omega,by omega,h.max,by omega,?_⟩;rcases h.elem with h0 | ⟨ad,h1,h2⟩
 ·exact .inl Zi
 refine .inr ⟨ad,h1,fun i d hd=>h2 i d ?_⟩;rw [List.getElem?_take] at hd;split at hd
 ·exact hd
 cases hd
theorem mW_take (l:List Formula) (k:Nat):((l.take k).map mW).sum<=(l.map mW).sum:=by
 have h:(l.map mW).sum=((l.take k).map mW).sum+((l.drop k).map mW).sum:=by rw [<- List.sum_append,<- List.map_append,List.take_append_drop]
 omega
def notF (k:Formula):Formula:=.mk kNot ⟨#[]⟩ [] [] [] [k]
def orF (l:List Formula):Formula:=.mk kOr ⟨#[]⟩ [] [] [] l
theorem YhU:∀ (s:Nat) {fz:FZ} {f:Formula} {va vp ve vk:Value} {sg:Bool},mW f<=s->FormulaR fz f va vp ve vk->NSh f->mW f<=1000000000->
 GFn prog 64 [.agg #[Zy f.op,Zy f.name,va,vp,ve,vk],Zo sg] fz [] (fun v fz' H'=>H'=[]/\FormulaV fz' (normM sg f) v)
 | 0,_,f,_,_,_,_,_,hse,_,_,_=>by have:=Yms f;omega
 | s+1,fz,f,va,vp,ve,vk,sg,hse,hR,hS,hB=>by
  have hR0:=hR;obtain ⟨⟨B1,m1,d1,rfl,ia⟩,⟨B2,m2,d2,rfl,ip⟩,⟨B3,m3,d3,rfl,ie⟩,⟨B4,m4,d4,rfl,ik⟩⟩:=hR.sls;have l2:=ip.len;have l3:=ie.len;have l4:=ik.len;have hwe:=Ya6 f;have hm:=Ynu f;have hkl:=XH Yms f.kids;have hk3:∀ k∈f.kids,mW k+3<=mW f:=fun k hk=>by
   have:=Y2 (w:=mW) hk;rw [hm];split<;>omega
  have hkd:f.kids≠ []->∃ k,f.kids[0]?=some k:=fun h=>by
   cases hk:f.kids with
   | nil=>exact absurd hk h
   | cons k r=>exact ⟨k,rfl⟩
  refine zF Tryz.func64 Tryz.ntmps64 (fun w0=>?_);refine Yy ?_;refine zWX ?_;intros;rename_i g2 g4;refine Yy ?_;refine zWX ?_;refine Yy (YV (fun σ fz' H'=>∃ op':Bs,σ=[(5,Zy op'),(4,Zp g4),(2,Zp g2),(1,Zo sg)]/\fz=fz'/\H'=[(g4,Zu #[Ze,Ze,Zn,Zn,Zn,Zn] 35),(g2,Zu #[Zy f.op,Zy f.name,Zc B1 m1 d1,Zc B2 m2 d2,Zc B3 m3 d3,Zc B4 m4 d4] 35)]/\normM sg f=joinF op' (f.kids.map (normM sg))/\op'.size<=10) ?_ ?_)
  ·by_cases w1:f.op=kNot
   ·obtain ⟨x,hx⟩:=hkd (hS.head (.inl w1));have hxm:=Zm hx;have hx3:=hk3 x hxm;have hl0:0<m4:=by rw [<- l4];exact (Zg hx).1
    have eN:normM sg f=normM (!sg) x:=by rw [WD,if_pos w1,YgO hx]
    refine wI ik hx (fun p1 hp1=>?_);refine zL hp1 ?_;intro cs hcs;obtain ⟨wa,wp,we,wk,rfl,hRx⟩:=Yn hcs;obtain ⟨⟨E1,r1,q1,rfl,_⟩,⟨E2,r2,q2,rfl,_⟩,⟨E3,r3,q3,rfl,_⟩,⟨E4,r4,q4,rfl,_⟩⟩:=hRx.sls;refine zW ?_;refine Ya (Yh [] [_,_] Zz (YhU s Zi hRx (hS.kid hxm) Zi) (fun v5 fz5 H5 hle5 hR5=>?_));obtain ⟨rfl,hV5⟩:=hR5;obtain ⟨C1,s1,t1,C2,s2,t2,C3,s3,t3,C4,s4,t4,rfl,hF5⟩:=hV5.open;refine zW ?_;refine YL (i:=0) rfl (fun fz3 hle3 hf3=>⟨rfl,?_⟩);rw [eN];exact ⟨_,_,_,_,rfl,hF5.mono hle3⟩
   by_cases w2:f.op=kImply
   ·have h2:=hS.two w2;obtain ⟨x0,hx0⟩:=Yc (l:=f.kids) (k:=0) Zi;obtain ⟨x1,hx1⟩:=Yc (l:=f.kids) (k:=1) Zi;have hm0:=Zm hx0;have hm1:=Zm hx1;have hl1:1<m4:=by omega
    have hcp:=ik.cap;have hsum:mW x0+mW x1<=(f.kids.map mW).sum:=by
     cases hk:f.kids with
     | nil=>rw [hk] at hx0;simp at hx0
     | cons a r=>
      cases hr:r with
      | nil=>rw [hk,hr] at hx1;simp at hx1
      | cons b r'=>
       rw [hk] at hx0;rw [hk,hr] at hx1;simp at hx0 hx1;subst hx0 hx1;simp only [List.map_cons,List.sum_cons];omega
    rw [if_pos w2] at hm;have mN:mW (notF x0)=3+mW x0:=by
     rw [Ynu,if_neg (by show ¬kNot=kImply;decide+kernel)];show 3+(mW x0+0)=_;omega
    have mO:mW (orF [notF x0,x1])=6+mW x0+mW x1:=by
     rw [Ynu,if_neg (by show ¬kOr=kImply;decide+kernel)];show 3+(mW (notF x0)+(mW x1+0))=_;omega
    have hSN:NSh (notF x0):=.mk (fun _=>by show [x0]≠ [];simp) (fun h=>absurd h (by show ¬kNot=kImply;decide+kernel)) (fun h=>absurd h (by show ¬(kNot=kLt\/kNot=kLe\/kNot=kEq);decide+kernel)) (fun _ h=>absurd rfl h) (by intro k hk;rw [List.mem_singleton.1 hk];exact hS.kid hm0);have hSO:NSh (orF [notF x0,x1]):=.mk (fun h=>absurd h (by show ¬(kOr=kNot\/kOr=kForall\/kOr=kExists);decide+kernel)) (fun h=>absurd h (by show ¬kOr=kImply;decide+kernel)) (fun h=>absurd h (by show ¬(kOr=kLt\/kOr=kLe\/kOr=kEq);decide+kernel)) (fun h=>absurd rfl h) (by
     intro k hk;rcases List.mem_cons.1 hk with rfl | hk
     ·exact hSN
     rw [List.mem_singleton.1 hk];exact hS.kid hm1)
    have eN:normM sg f=normM sg (orF [notF x0,x1]):=by
     have a1:¬kOr=kNot:=by decide+kernel
     have a2:¬kOr=kImply:=by decide+kernel
     have a3:¬kOr=kAnd:=by decide+kernel
     have a4:normM sg (notF x0)=normM (!sg) x0:=by rw [WD,if_pos (show (notF x0).op=kNot from rfl)];rfl
     have b1:normM sg (orF [notF x0,x1])=joinF (if sg=true then kOr else kAnd) ((orF [notF x0,x1]).kids.map (normM sg)):=by
      rw [WD,if_neg (show ¬(orF _).op=kNot from a1),if_neg (show ¬(orF _).op=kImply from a2),if_neg (show ¬(orF _).op=kAnd from a3),if_pos (show (orF _).op=kOr from rfl)]
     rw [b1,WD,if_neg w1,if_pos w2,YgO hx0,secN_map hx1];show _=joinF _ [normM sg (notF x0),normM sg x1];rw [a4]
    refine zWN ?_;refine YS [_,_] ?_;refine wG ?_;refine Ylk (j:=1) ?_;refine wI ik hx1 (fun p1 hp1=>?_);refine zL hp1 ?_;intro cs hcs;obtain ⟨wa,wp,we,wk,rfl,hRx⟩:=Yn hcs;obtain ⟨⟨E1,r1,q1,rfl,_⟩,⟨E2,r2,q2,rfl,_⟩,⟨E3,r3,q3,rfl,_⟩,⟨E4,r4,q4,rfl,_⟩⟩:=hRx.sls;refine Yj (Yj ?_);refine zW ?_;refine pU ?_;refine Yf (Yb (cs:=[Zy kNot,Ze,Zn,Zn,Zn,Zc B4 1 d4,Zy x1.op,Zy x1.name,Zc E1 r1 q1,Zc E2 r2 q2,Zc E3 r3 q3,Zc E4 r4 q4]) (fun gb=>⟨⟨Zd,Zx⟩,?_⟩));refine Ch.qk ⟨Zd,Zx⟩ (Xy ?_);refine Yf (Does.freeze (H1:=[_,_]) (H2:=[_]) (Zq (l₁:=[_])) (fun fz4 hle4 hf4=>?_));have hgb:Grow formulaL 35 fz (Zv gb 2 2) 2 [(gb,Zu #[Zy kNot,Ze,Zn,Zn,Zn,Zc B4 1 d4,Zy x1.op,Zy x1.name,Zc E1 r1 q1,Zc E2 r2 q2,Zc E3 r3 q3,Zc E4 r4 q4] 35)] [notF x0,x1]:=
     Grow.block (ys:=[(notF x0,_),(x1,_)]) rfl rfl (by
      intro p hp;simp at hp;have e1:f.kids.take 1=[x0]:=by rw [List.take_add_one,hx0];rfl
      have hs1:=Yqc ik (k:=1) Zi;rw [e1] at hs1;rcases hp with rfl | rfl
      ·exact YK (x:=notF x0) ⟨(by show kNot.size<=_;decide+kernel),Z0 _,IsSl.nil,IsSl.nil,IsSl.nil,hs1.is⟩
      exact YK hRx) rfl
    obtain ⟨B6,d6,e6,hS6⟩:=hgb.sl hle4 hf4 Zh;injection e6 with e61 e62 e63
    subst e61;subst e63;have hRO:FormulaR fz4 (orF [notF x0,x1]) Zn Zn Zn (Zv gb 2 2):=⟨(by show kOr.size<=_;decide+kernel),Z0 _,IsSl.nil,IsSl.nil,IsSl.nil,hS6.is⟩;refine Yh [] [_,_] Zz (YhU s Zi hRO hSO Zi) (fun v5 fz5 H5 hle5 hR5=>⟨⟨hle4.trans hle5,Zx⟩,?_⟩);obtain ⟨rfl,hV5⟩:=hR5;obtain ⟨C1,s1,t1,C2,s2,t2,C3,s3,t3,C4,s4,t4,rfl,hF5⟩:=hV5.open;refine Ch.hard0 (YP ?_);refine Ch.done ?_;refine zW ?_;refine YL (i:=0) rfl (fun fz3 hle3 hf3=>⟨rfl,?_⟩);rw [eN];exact ⟨_,_,_,_,rfl,hF5.mono hle3⟩
   by_cases w3:f.op=kAnd
   ·refine wc (Yh7 (a:=kAnd) (b:=kOr) (s:=sg)) ?_;exact wN (h:=by exact ⟨_,rfl,rfl,rfl,by rw [WD,if_neg w1,if_neg w2,if_pos w3],by split<;>decide+kernel⟩)
   by_cases w4:f.op=kOr
   ·refine wc (Yh7 (a:=kOr) (b:=kAnd) (s:=sg)) ?_;exact wN (h:=by exact ⟨_,rfl,rfl,rfl,by rw [WD,if_neg w1,if_neg w2,if_neg w3,if_pos w4],by split<;>decide+kernel⟩)
   have hfw:=hS.w w4 w1;by_cases hq:QuF f.op
   ·obtain ⟨x,hx⟩:=hkd (hS.head (.inr hq));have hxm:=Zm hx;have hx3:=hk3 x hxm;have hl0:0<m4:=by rw [<- l4];exact (Zg hx).1
    have eN:normM sg f=.mk (if sg=true then f.op else if f.op=kForall then kExists else kForall) ⟨#[]⟩ [] f.params [] [normM sg x]:=by rw [WD,if_neg w1,if_neg w2,if_neg w3,if_neg w4,if_pos hq,YgO hx]
    rcases hq with w5 | w5
    ·rw [if_pos w5] at eN;refine wc (Yh7 (a:=kExists) (b:=kForall) (s:=true)) ?_;refine wc (Yh7 (a:=f.op) (b:=kExists) (s:=sg)) ?_;refine zWN ?_;refine YS [_,_] ?_;refine zW ?_;refine Yj ?_;refine wI ik hx (fun p1 hp1=>?_);refine zL hp1 ?_;intro cs hcs;obtain ⟨wa,wp,we,wk,rfl,hRx⟩:=Yn hcs;obtain ⟨⟨E1,r1,q1,rfl,_⟩,⟨E2,r2,q2,rfl,_⟩,⟨E3,r3,q3,rfl,_⟩,⟨E4,r4,q4,rfl,_⟩⟩:=hRx.sls;refine zW ?_;refine pU ?_;refine Yf (Yh [] [_,_] Zz (Yab ip Zi) (fun v6 fz6 H6 hle6 hR6=>⟨⟨hle6,Zx⟩,?_⟩));obtain ⟨A6,c6,rfl,_,_⟩:=hR6.form;refine Yf (Yh [] (H6++ [_,_]) Zz (YhU s Zi (hRx.mono hle6) (hS.kid hxm) Zi) (fun v5 fz5 H5 hle5 hR5=>⟨⟨hle6.trans hle5,Zx⟩,?_⟩));obtain ⟨rfl,hV5⟩:=hR5;obtain ⟨C1,s1,t1,C2,s2,t2,C3,s3,t3,C4,s4,t4,rfl,hF5⟩:=hV5.open;refine Yf (Yb (cs:=[Zy (normM sg x).op,Zy (normM sg x).name,Zc C1 s1 t1,Zc C2 s2 t2,Zc C3 s3 t3,Zc C4 s4 t4]) (fun gb=>⟨⟨hle6.trans hle5,Zx⟩,?_⟩));refine Ch.qk ⟨hle6.trans hle5,Zx⟩ (Xy ?_);refine Ch.hard0 (Does.perm (H':=_::_::_::H6) (Zq (l₁:=[_,_]) (l₂:=_::H6)) (YP ?_));refine Ch.done ?_;refine zW ?_;refine YL (i:=0) rfl (fun fz3 hle3 hf3=>⟨rfl,?_⟩);have hgb:Grow formulaL 35 fz5 (Zv gb 1 1) 1 [(gb,Zu #[Zy (normM sg x).op,Zy (normM sg x).name,Zc C1 s1 t1,Zc C2 s2 t2,Zc C3 s3 t3,Zc C4 s4 t4] 35)] [normM sg x]:=
      Grow.block (ys:=[(normM sg x,_)]) rfl rfl (by intro p hp;simp at hp;subst hp;exact YK hF5) rfl
     obtain ⟨B7,d7,e7,hS7⟩:=hgb.sl hle3 (fun p hp=>hf3 p (by simp at hp;subst hp;simp)) Zh;obtain ⟨B8,d8,e8,hS8⟩:=hR6.sl (hle5.trans hle3) (fun p hp=>hf3 p (by simp [hp])) Zi;rw [eN];refine ⟨_,_,_,_,rfl,⟨?_,Z0 _,IsSl.nil,⟨B8,_,d8,e8,hS8⟩,IsSl.nil,⟨B7,_,d7,e7,hS7⟩⟩⟩;show Short (if sg=true then f.op else kExists);split
     ·exact hR.op
     show ByteArray.size _<=_;decide+kernel
    have w6:¬f.op=kForall:=by rw [w5];decide+kernel
    rw [if_neg w6] at eN;refine wc (Yh7 (a:=kExists) (b:=kForall) (s:=false)) ?_;refine wc (Yh7 (a:=f.op) (b:=kForall) (s:=sg)) ?_;refine zWN ?_;refine YS [_,_] ?_;refine zW ?_;refine Yj ?_;refine wI ik hx (fun p1 hp1=>?_);refine zL hp1 ?_;intro cs hcs;obtain ⟨wa,wp,we,wk,rfl,hRx⟩:=Yn hcs;obtain ⟨⟨E1,r1,q1,rfl,_⟩,⟨E2,r2,q2,rfl,_⟩,⟨E3,r3,q3,rfl,_⟩,⟨E4,r4,q4,rfl,_⟩⟩:=hRx.sls;refine zW ?_;refine pU ?_;refine Yf (Yh [] [_,_] Zz (Yab ip Zi) (fun v6 fz6 H6 hle6 hR6=>⟨⟨hle6,Zx⟩,?_⟩));obtain ⟨A6,c6,rfl,_,_⟩:=hR6.form;refine Yf (Yh [] (H6++ [_,_]) Zz (YhU s Zi (hRx.mono hle6) (hS.kid hxm) Zi) (fun v5 fz5 H5 hle5 hR5=>⟨⟨hle6.trans hle5,Zx⟩,?_⟩));obtain ⟨rfl,hV5⟩:=hR5;obtain ⟨C1,s1,t1,C2,s2,t2,C3,s3,t3,C4,s4,t4,rfl,hF5⟩:=hV5.open;refine Yf (Yb (cs:=[Zy (normM sg x).op,Zy (normM sg x).name,Zc C1 s1 t1,Zc C2 s2 t2,Zc C3 s3 t3,Zc C4 s4 t4]) (fun gb=>⟨⟨hle6.trans hle5,Zx⟩,?_⟩));refine Ch.qk ⟨hle6.trans hle5,Zx⟩ (Xy ?_);refine Ch.hard0 (Does.perm (H':=_::_::_::H6) (Zq (l₁:=[_,_]) (l₂:=_::H6)) (YP ?_));refine Ch.done ?_;refine zW ?_;refine YL (i:=0) rfl (fun fz3 hle3 hf3=>⟨rfl,?_⟩);have hgb:Grow formulaL 35 fz5 (Zv gb 1 1) 1 [(gb,Zu #[Zy (normM sg x).op,Zy (normM sg x).name,Zc C1 s1 t1,Zc C2 s2 t2,Zc C3 s3 t3,Zc C4 s4 t4] 35)] [normM sg x]:=
     Grow.block (ys:=[(normM sg x,_)]) rfl rfl (by intro p hp;simp at hp;subst hp;exact YK hF5) rfl
    obtain ⟨B7,d7,e7,hS7⟩:=hgb.sl hle3 (fun p hp=>hf3 p (by simp at hp;subst hp;simp)) Zh;obtain ⟨B8,d8,e8,hS8⟩:=hR6.sl (hle5.trans hle3) (fun p hp=>hf3 p (by simp [hp])) Zi;rw [eN];refine ⟨_,_,_,_,rfl,⟨?_,Z0 _,IsSl.nil,⟨B8,_,d8,e8,hS8⟩,IsSl.nil,⟨B7,_,d7,e7,hS7⟩⟩⟩;show Short (if sg=true then f.op else kForall);split
    ·exact hR.op
    show ByteArray.size _<=_;decide+kernel
   have w5:¬f.op=kForall:=fun h=>hq (.inl h)
   have w6:¬f.op=kExists:=fun h=>hq (.inr h)
   have eN:normM sg f=if f.op=kLt then (if sg=true then cmpF kLt (exprAt f.exprs 0) (exprAt f.exprs 1) else cmpF kLe (exprAt f.exprs 1) (exprAt f.exprs 0))
    else if f.op=kLe then (if sg=true then cmpF kLe (exprAt f.exprs 0) (exprAt f.exprs 1) else cmpF kLt (exprAt f.exprs 1) (exprAt f.exprs 0))
    else if f.op=kEq then (if sg=true then cmpF kEq (exprAt f.exprs 0) (exprAt f.exprs 1) else .mk kOr ⟨#[]⟩ [] [] [] [cmpF kLt (exprAt f.exprs 0) (exprAt f.exprs 1),cmpF kLt (exprAt f.exprs 1) (exprAt f.exprs 0)])
    else if sg=true then f else .mk kNot ⟨#[]⟩ [] [] [] [f]:=by rw [WD,if_neg w1,if_neg w2,if_neg w3,if_neg w4,if_neg hq]
   have hxw:∀ e∈f.exprs,eW e<=1000000000:=fun e he=>by have:=Y2 (w:=eW) he;omega
   by_cases hc:f.op=kLt\/f.op=kLe\/f.op=kEq
   ·have h2:=hS.cmp hc;obtain ⟨x0,hx0⟩:=Yc (l:=f.exprs) (k:=0) Zi;obtain ⟨x1,hx1⟩:=Yc (l:=f.exprs) (k:=1) Zi;have hl0:0<m3:=by omega
    have hl1:1<m3:=by omega
    have y0:exprAt f.exprs 0=x0:=by unfold exprAt;rw [hx0];rfl
    have y1:exprAt f.exprs 1=x1:=by unfold exprAt;rw [hx1];rfl
    rw [y0,y1] at eN;by_cases w7:f.op=kLt
    ·rw [if_pos w7] at eN;cases sg with
     | true=>
      rw [if_pos rfl] at eN;refine zW ?_;refine zWN ?_;refine YS [_,_] ?_;refine wI ie hx0 (fun p0 hp0=>?_);refine zL hp0 ?_;intro cs0 hcs0;obtain ⟨ea0,ek0,rfl,hX0⟩:=Yw hcs0;obtain ⟨⟨G0,ga0,gb0,rfl,_⟩,⟨J0,ja0,jb0,rfl,_⟩⟩:=hX0.sls;refine wI ie hx1 (fun p1 hp1=>?_);refine zL hp1 ?_;intro cs1 hcs1;obtain ⟨ea1,ek1,rfl,hX1⟩:=Yw hcs1;obtain ⟨⟨G1,ga1,gb1,rfl,_⟩,⟨J1,ja1,jb1,rfl,_⟩⟩:=hX1.sls;refine pU ?_;refine Yf (Yh [] [_,_] Zz (Ygy (op:=kLt) (by show ByteArray.size _<=_;decide+kernel) hX0 hX1 (hxw _ (Zm hx0)) (hxw _ (Zm hx1))) (fun v5 fz5 H5 hle5 hR5=>⟨⟨hle5,Zx⟩,?_⟩));obtain ⟨rfl,hV5⟩:=hR5;obtain ⟨C1,s1,t1,C2,s2,t2,C3,s3,t3,C4,s4,t4,rfl,hF5⟩:=hV5.open;refine Ch.hard0 (YP ?_);refine Ch.done ?_;refine zW ?_;refine YL (i:=0) rfl (fun fz3 hle3 hf3=>⟨rfl,?_⟩);rw [eN];exact ⟨_,_,_,_,rfl,hF5.mono hle3⟩
     | false=>
      rw [if_neg Zh] at eN;refine zW ?_;refine zWN ?_;refine YS [_,_] ?_;refine wI ie hx1 (fun p1 hp1=>?_);refine zL hp1 ?_;intro cs1 hcs1;obtain ⟨ea1,ek1,rfl,hX1⟩:=Yw hcs1;obtain ⟨⟨G1,ga1,gb1,rfl,_⟩,⟨J1,ja1,jb1,rfl,_⟩⟩:=hX1.sls;refine wI ie hx0 (fun p0 hp0=>?_);refine zL hp0 ?_;intro cs0 hcs0;obtain ⟨ea0,ek0,rfl,hX0⟩:=Yw hcs0;obtain ⟨⟨G0,ga0,gb0,rfl,_⟩,⟨J0,ja0,jb0,rfl,_⟩⟩:=hX0.sls;refine pU ?_;refine Yf (Yh [] [_,_] Zz (Ygy (op:=kLe) (by show ByteArray.size _<=_;decide+kernel) hX1 hX0 (hxw _ (Zm hx1)) (hxw _ (Zm hx0))) (fun v5 fz5 H5 hle5 hR5=>⟨⟨hle5,Zx⟩,?_⟩));obtain ⟨rfl,hV5⟩:=hR5;obtain ⟨C1,s1,t1,C2,s2,t2,C3,s3,t3,C4,s4,t4,rfl,hF5⟩:=hV5.open;refine Ch.hard0 (YP ?_);refine Ch.done ?_;refine zW ?_;refine YL (i:=0) rfl (fun fz3 hle3 hf3=>⟨rfl,?_⟩);rw [eN];exact ⟨_,_,_,_,rfl,hF5.mono hle3⟩
    rw [if_neg w7] at eN;by_cases w8:f.op=kLe
    ·rw [if_pos w8] at eN;cases sg with
     | true=>
      rw [if_pos rfl] at eN;refine zW ?_;refine zWN ?_;refine YS [_,_] ?_;refine wI ie hx0 (fun p0 hp0=>?_);refine zL hp0 ?_;intro cs0 hcs0;obtain ⟨ea0,ek0,rfl,hX0⟩:=Yw hcs0;obtain ⟨⟨G0,ga0,gb0,rfl,_⟩,⟨J0,ja0,jb0,rfl,_⟩⟩:=hX0.sls;refine wI ie hx1 (fun p1 hp1=>?_);refine zL hp1 ?_;intro cs1 hcs1;obtain ⟨ea1,ek1,rfl,hX1⟩:=Yw hcs1;obtain ⟨⟨G1,ga1,gb1,rfl,_⟩,⟨J1,ja1,jb1,rfl,_⟩⟩:=hX1.sls;refine pU ?_;refine Yf (Yh [] [_,_] Zz (Ygy (op:=kLe) (by show ByteArray.size _<=_;decide+kernel) hX0 hX1 (hxw _ (Zm hx0)) (hxw _ (Zm hx1))) (fun v5 fz5 H5 hle5 hR5=>⟨⟨hle5,Zx⟩,?_⟩));obtain ⟨rfl,hV5⟩:=hR5;obtain ⟨C1,s1,t1,C2,s2,t2,C3,s3,t3,C4,s4,t4,rfl,hF5⟩:=hV5.open;refine Ch.hard0 (YP ?_);refine Ch.done ?_;refine zW ?_;refine YL (i:=0) rfl (fun fz3 hle3 hf3=>⟨rfl,?_⟩);rw [eN];exact ⟨_,_,_,_,rfl,hF5.mono hle3⟩
     | false=>
      rw [if_neg Zh] at eN;refine zW ?_;refine zWN ?_;refine YS [_,_] ?_;refine wI ie hx1 (fun p1 hp1=>?_);refine zL hp1 ?_;intro cs1 hcs1;obtain ⟨ea1,ek1,rfl,hX1⟩:=Yw hcs1;obtain ⟨⟨G1,ga1,gb1,rfl,_⟩,⟨J1,ja1,jb1,rfl,_⟩⟩:=hX1.sls;refine wI ie hx0 (fun p0 hp0=>?_);refine zL hp0 ?_;intro cs0 hcs0;obtain ⟨ea0,ek0,rfl,hX0⟩:=Yw hcs0;obtain ⟨⟨G0,ga0,gb0,rfl,_⟩,⟨J0,ja0,jb0,rfl,_⟩⟩:=hX0.sls;refine pU ?_;refine Yf (Yh [] [_,_] Zz (Ygy (op:=kLt) (by show ByteArray.size _<=_;decide+kernel) hX1 hX0 (hxw _ (Zm hx1)) (hxw _ (Zm hx0))) (fun v5 fz5 H5 hle5 hR5=>⟨⟨hle5,Zx⟩,?_⟩));obtain ⟨rfl,hV5⟩:=hR5;obtain ⟨C1,s1,t1,C2,s2,t2,C3,s3,t3,C4,s4,t4,rfl,hF5⟩:=hV5.open;refine Ch.hard0 (YP ?_);refine Ch.done ?_;refine zW ?_;refine YL (i:=0) rfl (fun fz3 hle3 hf3=>⟨rfl,?_⟩);rw [eN];exact ⟨_,_,_,_,rfl,hF5.mono hle3⟩
    have w9:f.op=kEq:=(hc.resolve_left w7).resolve_left w8;rw [if_neg w8,if_pos w9] at eN;cases sg with
    | true=>
     rw [if_pos rfl] at eN;refine zW ?_;refine zWN ?_;refine YS [_,_] ?_;refine wI ie hx0 (fun p0 hp0=>?_);refine zL hp0 ?_;intro cs0 hcs0;obtain ⟨ea0,ek0,rfl,hX0⟩:=Yw hcs0;obtain ⟨⟨G0,ga0,gb0,rfl,_⟩,⟨J0,ja0,jb0,rfl,_⟩⟩:=hX0.sls;refine wI ie hx1 (fun p1 hp1=>?_);refine zL hp1 ?_;intro cs1 hcs1;obtain ⟨ea1,ek1,rfl,hX1⟩:=Yw hcs1;obtain ⟨⟨G1,ga1,gb1,rfl,_⟩,⟨J1,ja1,jb1,rfl,_⟩⟩:=hX1.sls;refine pU ?_;refine Yf (Yh [] [_,_] Zz (Ygy (op:=kEq) (by show ByteArray.size _<=_;decide+kernel) hX0 hX1 (hxw _ (Zm hx0)) (hxw _ (Zm hx1))) (fun v5 fz5 H5 hle5 hR5=>⟨⟨hle5,Zx⟩,?_⟩));obtain ⟨rfl,hV5⟩:=hR5;obtain ⟨C1,s1,t1,C2,s2,t2,C3,s3,t3,C4,s4,t4,rfl,hF5⟩:=hV5.open;refine Ch.hard0 (YP ?_);refine Ch.done ?_;refine zW ?_;refine YL (i:=0) rfl (fun fz3 hle3 hf3=>⟨rfl,?_⟩);rw [eN];exact ⟨_,_,_,_,rfl,hF5.mono hle3⟩
    | false=>
     refine zW ?_;refine zWN ?_;refine YS [_,_] ?_;refine wI ie hx0 (fun p0 hp0=>?_);refine zL hp0 ?_;intro cs0 hcs0;obtain ⟨ea0,ek0,rfl,hX0⟩:=Yw hcs0;obtain ⟨⟨G0,ga0,gb0,rfl,_⟩,⟨J0,ja0,jb0,rfl,_⟩⟩:=hX0.sls;refine wI ie hx1 (fun p1 hp1=>?_);refine zL hp1 ?_;intro cs1 hcs1;obtain ⟨ea1,ek1,rfl,hX1⟩:=Yw hcs1;obtain ⟨⟨G1,ga1,gb1,rfl,_⟩,⟨J1,ja1,jb1,rfl,_⟩⟩:=hX1.sls;refine Yj ?_;refine wI ie hx1 (fun p1b hp1b=>?_);refine zL hp1b ?_;intro cs1b hcs1b;obtain ⟨ea1b,ek1b,rfl,hX1b⟩:=Yw hcs1b;obtain ⟨⟨G1b,ga1b,gb1b,rfl,_⟩,⟨J1b,ja1b,jb1b,rfl,_⟩⟩:=hX1b.sls;refine wI ie hx0 (fun p0b hp0b=>?_);refine zL hp0b ?_;intro cs0b hcs0b;obtain ⟨ea0b,ek0b,rfl,hX0b⟩:=Yw hcs0b;obtain ⟨⟨G0b,ga0b,gb0b,rfl,_⟩,⟨J0b,ja0b,jb0b,rfl,_⟩⟩:=hX0b.sls;refine pU ?_;refine Yf (Yh [] [_,_] Zz (Ygy (op:=kLt) (by show ByteArray.size _<=_;decide+kernel) hX0 hX1 (hxw _ (Zm hx0)) (hxw _ (Zm hx1))) (fun v5 fz5 H5 hle5 hR5=>⟨⟨hle5,Zx⟩,?_⟩));obtain ⟨rfl,hV5⟩:=hR5;obtain ⟨C1,s1,t1,C2,s2,t2,C3,s3,t3,C4,s4,t4,rfl,hF5⟩:=hV5.open;refine Yf (Yh [] [_,_] Zz (Ygy (op:=kLt) (by show ByteArray.size _<=_;decide+kernel) (hX1b.mono hle5) (hX0b.mono hle5) (hxw _ (Zm hx1)) (hxw _ (Zm hx0))) (fun v6 fz6 H6 hle6 hR6=>⟨⟨hle5.trans hle6,Zx⟩,?_⟩));obtain ⟨rfl,hV6⟩:=hR6;obtain ⟨D1,u1,v1,D2,u2,v2,D3,u3,v3,D4,u4,v4,rfl,hF6⟩:=hV6.open;refine Yf (Yb (cs:=[Zy (cmpF kLt x0 x1).op,Zy (cmpF kLt x0 x1).name,Zc C1 s1 t1,Zc C2 s2 t2,Zc C3 s3 t3,Zc C4 s4 t4,Zy (cmpF kLt x1 x0).op,Zy (cmpF kLt x1 x0).name,Zc D1 u1 v1,Zc D2 u2 v2,Zc D3 u3 v3,Zc D4 u4 v4]) (fun gb=>⟨⟨hle5.trans hle6,Zx⟩,?_⟩));refine Ch.qk ⟨hle5.trans hle6,Zx⟩ (Xy ?_);refine Ch.hard0 (Y1 ?_);refine Ch.done ?_;refine zW ?_;refine YL (i:=1) rfl (fun fz3 hle3 hf3=>⟨rfl,?_⟩);have hgb:Grow formulaL 35 fz6 (Zv gb 2 2) 2 [(gb,Zu #[Zy (cmpF kLt x0 x1).op,Zy (cmpF kLt x0 x1).name,Zc C1 s1 t1,Zc C2 s2 t2,Zc C3 s3 t3,Zc C4 s4 t4,Zy (cmpF kLt x1 x0).op,Zy (cmpF kLt x1 x0).name,Zc D1 u1 v1,Zc D2 u2 v2,Zc D3 u3 v3,Zc D4 u4 v4] 35)] [cmpF kLt x0 x1,cmpF kLt x1 x0]:=
      Grow.block (ys:=[(cmpF kLt x0 x1,_),(cmpF kLt x1 x0,_)]) rfl rfl (by intro p hp;simp at hp;rcases hp with rfl | rfl;exact YK (hF5.mono hle6);exact YK hF6) rfl
     obtain ⟨B7,d7,e7,hS7⟩:=hgb.sl hle3 (fun p hp=>hf3 p (by simp at hp;subst hp;simp)) Zh;rw [eN,if_neg Zh];exact ⟨_,_,_,_,rfl,⟨(by show kOr.size<=_;decide+kernel),Z0 _,IsSl.nil,IsSl.nil,IsSl.nil,⟨B7,_,d7,e7,hS7⟩⟩⟩
   have w7:¬f.op=kLt:=fun h=>hc (.inl h)
   have w8:¬f.op=kLe:=fun h=>hc (.inr (.inl h))
   have w9:¬f.op=kEq:=fun h=>hc (.inr (.inr h))
   rw [if_neg w7,if_neg w8,if_neg w9] at eN;refine zW ?_;refine Ya (Yh [] [_,_] Zz (bind_f (c:=0) _ (Zs _) hR0 (.inl rfl) (Sl.nil) Zi) (fun v5 fz5 H5 hle5 hR5=>?_));obtain ⟨rfl,hV5⟩:=hR5;obtain ⟨C1,s1,t1,C2,s2,t2,C3,s3,t3,C4,s4,t4,rfl,hF5⟩:=hV5.open;cases sg with
   | true=>
    rw [if_pos rfl] at eN;refine zW ?_;intros;refine YL (i:=1) rfl (fun fz3 hle3 hf3=>⟨rfl,?_⟩);rw [eN];exact ⟨_,_,_,_,rfl,hF5.mono hle3⟩
   | false=>
    rw [if_neg Zh] at eN;refine zW ?_;intros;refine Ya (Yb (cs:=[Zy f.op,Zy f.name,Zc C1 s1 t1,Zc C2 s2 t2,Zc C3 s3 t3,Zc C4 s4 t4]) (fun gb=>?_));refine zW ?_;refine YL (i:=2) rfl (fun fz3 hle3 hf3=>⟨rfl,?_⟩);have hgb:Grow formulaL 35 fz5 (Zv gb 1 1) 1 [(gb,Zu #[Zy f.op,Zy f.name,Zc C1 s1 t1,Zc C2 s2 t2,Zc C3 s3 t3,Zc C4 s4 t4] 35)] [f]:=
     Grow.block (ys:=[(f,_)]) rfl rfl (by intro p hp;simp at hp;subst hp;exact YK hF5) rfl
    obtain ⟨B6,d6,e6,hS6⟩:=hgb.sl hle3 (fun p hp=>hf3 p (by simp at hp;subst hp;simp)) Zh;rw [eN];exact ⟨_,_,_,_,rfl,⟨(by show kNot.size<=_;decide+kernel),Z0 _,IsSl.nil,IsSl.nil,IsSl.nil,⟨B6,_,d6,e6,hS6⟩⟩⟩
  rintro σ fz1 H' ⟨op',rfl,rfl,rfl,hN,hop⟩;refine zW ?_;intros;rename_i g7;refine Yi (fun q σ fz' H'=>∃ (k nn:Nat) (u:Value) (Hs:HP),k<=m4/\q=m4 - k/\σ=[(156,Zk k),(155,Zk m4),(154,Zc B4 m4 d4),(7,Zp g7),(5,Zy op'),(4,Zp g4),(1,Zo sg)]/\Le fz fz'/\
   H'=(g7,Zu #[Zy op',Ze,Zn,Zn,Zn,u] 35)::(g4,Zu #[Ze,Ze,Zn,Zn,Zn,Zn] 35)::Hs/\
   Grow formulaL 35 fz' u nn Hs (joinL op' ((f.kids.take k).map (normM sg)))) ⟨0,0,_,[],Z0 _,rfl,rfl,Zd,rfl,Grow.nil _ _ _⟩ Zw Zb ?_
  rintro q σ fz' H' ⟨k,nn,u,Hs,hk,rfl,rfl,hle,rfl,hG⟩;obtain ⟨Au,cu,rfl,_,_⟩:=hG.form;have hnn:=hG.len;have hnl:nn<=mW f:=by
   have h1:=Yed (op:=op') (ks:=f.kids.take k) (g:=normM sg) (fun y _=>YeU _ sg (Zs _));have h2:=mW_take f.kids k;have h3:(f.kids.map mW).sum<=mW f:=by omega
   omega
  refine wC ?_ ?_<;>intro c1
  ·obtain ⟨x,hx⟩:=Yc (l:=f.kids) (k:=k) Zi;have hxm:=Zm hx;have hx3:=hk3 x hxm;have hnk:=YeU _ sg (Zs (SizeOf.sizeOf x));have e5:joinL op' ((f.kids.take (k+1)).map (normM sg))=joinL op' ((f.kids.take k).map (normM sg))++(if (normM sg x).op=op' then (normM sg x).kids else [normM sg x]):=by
    rw [List.take_add_one,hx,Option.toList_some,List.map_append];simp [joinL]
   refine wI (ik.mono hle) hx (fun p1 hp1=>?_);refine zL hp1 ?_;intro cs hcs;obtain ⟨wa,wp,we,wk,rfl,hRx⟩:=Yn hcs;obtain ⟨⟨E1,r1,q1,rfl,_⟩,⟨E2,r2,q2,rfl,_⟩,⟨E3,r3,q3,rfl,_⟩,⟨E4,r4,q4,rfl,_⟩⟩:=hRx.sls;refine zW ?_;intros;refine Ya (Yh [] (_::_::_::Hs) Zz (YhU s Zi hRx (hS.kid hxm) Zi) (fun v5 fz5 H5 hle5 hR5=>?_));obtain ⟨rfl,hV5⟩:=hR5;obtain ⟨C1,s1,t1,C2,s2,t2,C3,s3,t3,C4,s4,t4,rfl,hF5⟩:=hV5.open;obtain ⟨C4',s4',t4',e4,hK5⟩:=hF5.kids;injection e4 with e41 e42 e43
   subst e41;subst e42;subst e43;have lk5:=hK5.len;refine zW ?_;intros;refine zC ?_ ?_<;>intro c2
   ·rw [if_pos c2] at e5;refine zW ?_;refine Ya (XF T (Hr:=[_,_,_,_]) Zz Zz Zz Zz Zz Zz Zz Zz (Zr _) (hG.mono hle5) YfP hK5 (by show _*128<=_;omega) Zi (fun v6 H6 hO6=>?_));obtain ⟨A6,c6,rfl,_,_⟩:=hO6.form;exact wP (h:=by exact ⟨k+1,_,_,H6,by omega,rfl,rfl,hle.trans hle5,rfl,hO6.of e5.symm rfl⟩)
   rw [if_neg c2] at e5;refine zW ?_;refine Ya (Yb (cs:=[Zy (normM sg x).op,Zy (normM sg x).name,Zc C1 s1 t1,Zc C2 s2 t2,Zc C3 s3 t3,Zc C4 s4 t4]) (fun gb=>?_));refine Ya (YD (Hr:=[_,_,_,_,_]) (d:=normM sg x) (Zr _) (hG.mono hle5) YfP (.head _) (YK hF5) (fun v6 H6 hO6=>?_));obtain ⟨A6,c6,rfl,_,_⟩:=hO6.form;exact wP (h:=by exact ⟨k+1,_,_,H6,by omega,rfl,rfl,hle.trans hle5,rfl,hO6.of e5.symm rfl⟩)
  have hk2:k=m4:=by omega
  subst hk2;rw [Zl Zi] at hG;refine zW ?_;refine YL (i:=1) rfl (fun fz3 hle3 hf3=>⟨rfl,?_⟩);obtain ⟨B7,d7,e7,hS7⟩:=hG.sl hle3 (fun p hp=>hf3 p (by simp [hp])) Zi;rw [hN];exact ⟨_,_,_,_,rfl,⟨Nat.le_trans hop Zh,Z0 _,IsSl.nil,IsSl.nil,IsSl.nil,⟨B7,_,d7,e7,hS7⟩⟩⟩
theorem YeH {α:Type} {w n:α->Nat} {k:Nat}:∀ {l:List α},(∀ x∈l,n x<=k*w x)->(l.map n).sum<=k*(l.map w).sum
 | [],_=>by simp
 | a::r,h=>by
  have h1:=h a (by simp);have h2:=YeH (l:=r) (fun x hx=>h x (by simp [hx]));simp only [List.map_cons,List.sum_cons,Nat.mul_add];omega
theorem mW_le:∀ (s:Nat) {f:Formula},SizeOf.sizeOf f<=s->mW f<=7*fW f
 | 0,f,h=>by cases f;simp at h
 | s+1,f,h=>by
  have h1:=YeH (w:=fW) (n:=mW) (k:=7) (l:=f.kids) (fun k hk=>mW_le s (by have:=Formula.kids_lt hk;omega));rw [Ynu,Ya6];split<;>omega
theorem Yp5:∀ (s:Nat) {e:Lx.Expr},SizeOf.sizeOf e<=s->eW e<=1000000000->ESm e
 | 0,e,h,_=>by cases e;simp at h
 | s+1,e,h,hw=>by
  rw [YnI] at hw;refine YbT.2 ⟨by unfold ESmN;omega,fun k hk=>Yp5 s (by have:=Lx.Expr.kids_lt hk;omega) (by have:=Y2 (w:=eW) hk;omega)⟩
theorem Ydx:∀ (s:Nat) {f:Formula},SizeOf.sizeOf f<=s->fW f<=1000000000->FSm f
 | 0,e,h,_=>by cases e;simp at h
 | s+1,f,h,hw=>by
  rw [Ya6] at hw;have hl:=XH YpX f.kids;refine XT.2 ⟨by unfold FSmN;omega,fun e he=>Yp5 _ (Zs _) (by have:=Y2 (w:=eW) he;omega),fun k hk=>Ydx s (by have:=Formula.kids_lt hk;omega) (by have:=Y2 (w:=fW) hk;omega)⟩
theorem Ylw:kNot≠kAtom/\kNot≠kSame/\¬CmpOp kNot/\kNot≠kAnd/\kNot≠kOr:=by
 refine ⟨by decide+kernel,by decide+kernel,?_,by decide+kernel,by decide+kernel⟩;show ¬(_\/_\/_);decide+kernel
theorem nsh_of:∀ (s:Nat) {f:Formula},SizeOf.sizeOf f<=s->FOk f->fW f<=1000000000->NSh f
 | 0,f,h,_,_=>by cases f;simp at h
 | s+1,f,h,h1,hW=>by
  have h3:=XT.1 h1;obtain ⟨_,⟨k,hk,hr⟩,_⟩:=h3.1;have c1:¬(kNot=kAtom\/kNot=kSame):=by decide+kernel
  have c2:¬CmpOp kNot:=Ylw.2.2.1;have c3:¬(kNot=kAnd\/kNot=kOr):=by decide+kernel
  have i1:¬(kImply=kAtom\/kImply=kSame):=by decide+kernel
  have i2:¬CmpOp kImply:=by show ¬(_\/_\/_);decide+kernel
  have i3:¬(kImply=kAnd\/kImply=kOr):=by decide+kernel
  have i4:¬kImply=kNot:=by decide+kernel
  have q1:∀ op,op=kForall\/op=kExists->¬(op=kAtom\/op=kSame)/\¬CmpOp op/\¬(op=kAnd\/op=kOr)/\¬op=kNot/\¬op=kImply:=by
   intro op ho;rcases ho with rfl | rfl
   ·refine ⟨by decide+kernel,?_,by decide+kernel,by decide+kernel,by decide+kernel⟩;show ¬(_\/_\/_);decide+kernel
   refine ⟨by decide+kernel,?_,by decide+kernel,by decide+kernel,by decide+kernel⟩;show ¬(_\/_\/_);decide+kernel
  refine .mk (fun ho=>?_) (fun ho=>?_) (fun ho=>?_) (fun _ _=>hW) (fun k hk=>nsh_of s (by have:=Formula.kids_lt hk;omega) (h3.2.2 k hk) (by have:=Y2 (w:=fW) hk;have:=Ya6 f;omega))
  ·rcases ho with ho | ho
   ·rw [WJ,ho,if_neg c1,if_neg c2,if_neg c3,if_pos rfl] at hk;cases hk;intro h0;have:=hr.2.2.1;rw [h0] at this;cases this
   obtain ⟨a1,a2,a3,a4,a5⟩:=q1 _ ho;rw [WJ,if_neg a1,if_neg a2,if_neg a3,if_neg a4,if_neg a5,if_pos ho] at hk;cases hk;intro h0;have:=hr.2.2.1;rw [h0] at this;cases this
  ·rw [WJ,ho,if_neg i1,if_neg i2,if_neg i3,if_neg i4,if_pos rfl] at hk;cases hk;exact Nat.le_of_eq hr.2.2.1.symm
  have hc:CmpOp f.op:=by
   rcases ho with ho | ho | ho
   ·rw [ho];show (_\/_\/_);decide+kernel
   ·rw [ho];show (_\/_\/_);decide+kernel
   rw [ho];show (_\/_\/_);decide+kernel
  have hn:¬(f.op=kAtom\/f.op=kSame):=by
   rcases ho with ho | ho | ho<;>rw [ho]<;>decide+kernel
  rw [WJ,if_neg hn,if_pos hc] at hk;cases hk;exact Nat.le_of_eq hr.2.1.symm
def normV (f:Formula):Formula:=if FVal f then normM true f else YdD
theorem YcF (hR:FormulaR fz f va vp ve vk) (hW:fW f<=100000000):
 GFn prog 29 [.agg #[Zy f.op,Zy f.name,va,vp,ve,vk]] fz [] (fun v fz' H'=>H'=[]/\FormulaV fz' (normV f) v):=by
 have hR0:=hR;have hm:=mW_le _ (Zs (SizeOf.sizeOf f));obtain ⟨⟨B1,m1,d1,rfl,ia⟩,⟨B2,m2,d2,rfl,ip⟩,⟨B3,m3,d3,rfl,ie⟩,⟨B4,m4,d4,rfl,ik⟩⟩:=hR.sls;refine zF Tryz.func29 Tryz.ntmps29 (fun w0=>?_);refine zW ?_;intros
 ((refine zG ?_);refine Xu (YfN hR0 (Ydx _ (Zs _) Zi)) (fun f1=>?_) (fun f1=>?_))
 ·have hv:=Zt f1;refine zW ?_;refine Ya (Yh [] [_,_] Zz (YhU _ (Zs _) hR0 (nsh_of _ (Zs _) hv.1 Zi) Zi) (fun v5 fz5 H5 hle5 hR5=>?_));obtain ⟨rfl,hV5⟩:=hR5;obtain ⟨C1,s1,t1,C2,s2,t2,C3,s3,t3,C4,s4,t4,rfl,hF5⟩:=hV5.open;refine zW ?_;refine YL (i:=0) rfl (fun fz3 hle3 hf3=>⟨rfl,?_⟩);rw [normV,if_pos hv];exact ⟨_,_,_,_,rfl,hF5.mono hle3⟩
 refine zW ?_;refine YL (i:=0) rfl (fun fz3 hle3 hf3=>⟨rfl,?_⟩);rw [normV,if_neg (Zf f1)];exact ⟨_,_,_,_,rfl,⟨Z0 _,Z0 _,IsSl.nil,IsSl.nil,IsSl.nil,IsSl.nil⟩⟩
def andF (l:List Formula):Formula:=.mk kAnd ⟨#[]⟩ [] [] [] l
theorem and_f {l:List Formula} (h:Sl formulaL fz A n c l) (hW:fW (andF l)<=100000000):
 GFn prog 97 [Zc A n c] fz [] (fun v fz' H'=>H'=[]/\FormulaV fz' (normV (andF l)) v):=by
 have hR:FormulaR fz (andF l) Zn Zn Zn (Zc A n c):=⟨(by show kAnd.size<=_;decide+kernel),Z0 _,IsSl.nil,IsSl.nil,IsSl.nil,h.is⟩;refine zF Tryz.func97 Tryz.ntmps97 (fun w0=>?_);refine zW ?_;intros;refine Ya (Yh [] [_] Zz (YcF hR hW) (fun v5 fz5 H5 hle5 hR5=>?_));obtain ⟨rfl,hV5⟩:=hR5;obtain ⟨C1,s1,t1,C2,s2,t2,C3,s3,t3,C4,s4,t4,rfl,hF5⟩:=hV5.open;refine zW ?_;refine YL (i:=0) rfl (fun fz3 hle3 hf3=>⟨rfl,?_⟩);exact ⟨_,_,_,_,rfl,hF5.mono hle3⟩
theorem Ye6:OneC changeL:=by
 intro fz d cs h u hu;obtain ⟨u1,u2,u3,u4,u5,u6,u7,u8,rfl,hR⟩:=Y6 h;obtain ⟨A1,n1,c1,rfl,_⟩:=hR.params;obtain ⟨⟨A2,n2,c2,rfl,_⟩,⟨A3,n3,c3,rfl,_⟩,⟨A4,n4,c4,rfl,_⟩,⟨A5,n5,c5,rfl,_⟩⟩:=hR.when_.sls;obtain ⟨A6,n6,c6,rfl,_⟩:=hR.args;obtain ⟨⟨A7,n7,c7,rfl,_⟩,⟨A8,n8,c8,rfl,_⟩⟩:=hR.value.sls;simp at hu;rcases hu with rfl | rfl | rfl | rfl | rfl | rfl | rfl | rfl | rfl | rfl | rfl | rfl | rfl | rfl | rfl<;>rfl
def normC (l:List Change):List Change:=(l.filter fun c=>decide (c.kind=1)).map fun c=>{c with when_:=normV c.when_}
theorem Yno {l:List Change} {x:Change} (hx:l[k]?=some x):normC (l.take (k+1))=normC (l.take k)++(if x.kind=1 then [{x with when_:=normV x.when_}] else []):=by
 unfold normC;rw [List.take_add_one,hx,Option.toList_some,List.filter_append,List.map_append];by_cases h:x.kind=1
 ·rw [if_pos h];simp [h]
 rw [if_neg h];simp [h]
theorem Ygc {l:List Change} (h:Sl changeL fz A n c l) (hn:n<=1000000000) (hW:∀ x∈l,fW x.when_<=100000000):
 GFn prog 96 [Zc A n c] fz [] (fun v fz' H'=>H'=[]/\IsSl changeL fz' v (normC l)):=by
 have ln:=h.len;refine zF Tryz.func96 Tryz.ntmps96 (fun w0=>?_);refine zW ?_;refine Yi (fun q σ fz' H'=>∃ (k m:Nat) (u:Value) (Hs:HP),k<=n/\q=n - k/\m<=k/\σ=[(8,Zk k),(7,Zk n),(6,Zc A n c),(3,u)]/\Le fz fz'/\H'=Hs/\Grow changeL 104 fz' u m Hs (normC (l.take k))) ⟨0,0,_,[],Z0 _,rfl,Zs _,rfl,Zd,rfl,Grow.nil _ _ _⟩ Zw Zb ?_;rintro q σ fz' H' ⟨k,m,u,Hs,hk,rfl,hmk,rfl,hle,rfl,hG⟩;obtain ⟨Au,cu,rfl,_,_⟩:=hG.form;refine wC ?_ ?_<;>intro c1
 ·obtain ⟨x,hx⟩:=Yc (l:=l) (k:=k) Zi;have e1:=Yno hx;refine wI (h.mono hle) hx (fun p1 hp1=>?_);refine zL hp1 ?_;intro cs hcs;obtain ⟨u1,u2,u3,u4,u5,u6,u7,u8,rfl,hR⟩:=Y6 hcs;obtain ⟨A1,n1,c1',rfl,_⟩:=id hR.params;obtain ⟨⟨A2,n2,c2',rfl,_⟩,⟨A3,n3,c3',rfl,_⟩,⟨A4,n4,c4',rfl,_⟩,⟨A5,n5,c5',rfl,_⟩⟩:=id hR.when_.sls;obtain ⟨A6,n6,c6',rfl,_⟩:=id hR.args;obtain ⟨⟨A7,n7,c7',rfl,_⟩,⟨A8,n8,c8',rfl,_⟩⟩:=id hR.value.sls;refine zW ?_;intros;refine zC ?_ ?_<;>intro c2
  ·rw [if_pos c2] at e1;refine wG ?_;refine Ye (vs:=[Zy x.when_.op,Zy x.when_.name,Zc A2 n2 c2',Zc A3 n3 c3',Zc A4 n4 c4',Zc A5 n5 c5']) 0 ?_;refine Ya (Yh [] (_::H') Zz (YcF hR.when_ (hW x (Zm hx))) (fun v5 fz5 H5 hle5 hR5=>?_));obtain ⟨rfl,hV5⟩:=hR5;obtain ⟨C1,s1,t1,C2,s2,t2,C3,s3,t3,C4,s4,t4,rfl,hF5⟩:=hV5.open;refine zW ?_;refine Ya (Yb (cs:=[Zk x.kind,Zc A1 n1 c1',Zy (normV x.when_).op,Zy (normV x.when_).name,Zc C1 s1 t1,Zc C2 s2 t2,Zc C3 s3 t3,Zc C4 s4 t4,Zy x.name,Zc A6 n6 c6',Zy x.value.op,Zy x.value.name,Zk x.value.n,Zc A7 n7 c7',Zc A8 n8 c8']) (fun gb=>?_));have hRn:=hR.mono hle5;refine Ya (YD (Hr:=[_,_]) (d:={x with when_:=normV x.when_}) (Zr _) (hG.mono hle5) Ye6 (.head _) (YbO (x:={x with when_:=normV x.when_}) ⟨hRn.kind,hRn.params,hF5,hRn.name,hRn.args,hRn.value⟩) (fun v6 H6 hO6=>?_));obtain ⟨A9,c9,rfl,_,_⟩:=hO6.form;exact wP (h:=by exact ⟨k+1,m+1,_,H6,by omega,rfl,by omega,rfl,hle.trans hle5,rfl,hO6.of e1.symm rfl⟩)
  rw [if_neg c2,List.append_nil] at e1;exact wP (h:=by exact ⟨k+1,m,_,H',by omega,rfl,by omega,rfl,hle,rfl,hG.of e1.symm rfl⟩)
 have hk2:k=n:=by omega
 subst hk2;rw [Zl Zi] at hG;refine zW ?_;refine Yb3 rfl rfl (fun fz3 hle3 hf3=>⟨rfl,?_⟩);obtain ⟨A9,c9,e9,h9⟩:=hG.sl hle3 hf3 Zi;exact ⟨A9,_,c9,e9,h9⟩
end Go.Proofs.YtacfpcbladaohaaGreatDoor
namespace Go.Lx
open Go.RowKit
variable {fz fz':FZ} {cs:List Value}
structure Schema where
 name:Bs
 params:List Param
 start:Formula
 all:Formula
 over:Formula
 fin:Formula
 early:List Change
 late:List Change
 count:Bool
 arguments:List (List Bs)
structure SchemaR (fz:FZ) (x:Schema) (vparams vstart_args vstart_params vstart_exprs vstart_kids vall_args vall_params vall_exprs vall_kids vover_args vover_params vover_exprs vover_kids vfin_args vfin_params vfin_exprs vfin_kids vearly vlate varguments:Value):Prop where
 name:Short x.name
 params:IsSl paramL fz vparams x.params
 start:FormulaR fz x.start vstart_args vstart_params vstart_exprs vstart_kids
 all:FormulaR fz x.all vall_args vall_params vall_exprs vall_kids
 over:FormulaR fz x.over vover_args vover_params vover_exprs vover_kids
 fin:FormulaR fz x.fin vfin_args vfin_params vfin_exprs vfin_kids
 early:IsSl changeL fz vearly x.early
 late:IsSl changeL fz vlate x.late
 count:True
 arguments:IsSl (slL strL) fz varguments x.arguments
theorem SchemaR.mono (hle:Le fz fz') {x:Schema} {vparams vstart_args vstart_params vstart_exprs vstart_kids vall_args vall_params vall_exprs vall_kids vover_args vover_params vover_exprs vover_kids vfin_args vfin_params vfin_exprs vfin_kids vearly vlate varguments:Value} (h:SchemaR fz x vparams vstart_args vstart_params vstart_exprs vstart_kids vall_args vall_params vall_exprs vall_kids vover_args vover_params vover_exprs vover_kids vfin_args vfin_params vfin_exprs vfin_kids vearly vlate varguments):SchemaR fz' x vparams vstart_args vstart_params vstart_exprs vstart_kids vall_args vall_params vall_exprs vall_kids vover_args vover_params vover_exprs vover_kids vfin_args vfin_params vfin_exprs vfin_kids vearly vlate varguments:=⟨h.name,h.params.mono hle,h.start.mono hle,h.all.mono hle,h.over.mono hle,h.fin.mono hle,h.early.mono hle,h.late.mono hle,trivial,h.arguments.mono hle⟩
def schemaL:Lay Schema where
 size:=30
 rep:=fun fz x cs=>∃ vparams vstart_args vstart_params vstart_exprs vstart_kids vall_args vall_params vall_exprs vall_kids vover_args vover_params vover_exprs vover_kids vfin_args vfin_params vfin_exprs vfin_kids vearly vlate varguments,cs=[Zy x.name,vparams,Zy x.start.op,Zy x.start.name,vstart_args,vstart_params,vstart_exprs,vstart_kids,Zy x.all.op,Zy x.all.name,vall_args,vall_params,vall_exprs,vall_kids,Zy x.over.op,Zy x.over.name,vover_args,vover_params,vover_exprs,vover_kids,Zy x.fin.op,Zy x.fin.name,vfin_args,vfin_params,vfin_exprs,vfin_kids,vearly,vlate,Zo x.count,varguments]/\SchemaR fz x vparams vstart_args vstart_params vstart_exprs vstart_kids vall_args vall_params vall_exprs vall_kids vover_args vover_params vover_exprs vover_kids vfin_args vfin_params vfin_exprs vfin_kids vearly vlate varguments
 len:=fun h=>by obtain ⟨vparams,vstart_args,vstart_params,vstart_exprs,vstart_kids,vall_args,vall_params,vall_exprs,vall_kids,vover_args,vover_params,vover_exprs,vover_kids,vfin_args,vfin_params,vfin_exprs,vfin_kids,vearly,vlate,varguments,rfl,_⟩:=h;rfl
 mono:=fun hle h=>by obtain ⟨vparams,vstart_args,vstart_params,vstart_exprs,vstart_kids,vall_args,vall_params,vall_exprs,vall_kids,vover_args,vover_params,vover_exprs,vover_kids,vfin_args,vfin_params,vfin_exprs,vfin_kids,vearly,vlate,varguments,e,h⟩:=h;exact ⟨vparams,vstart_args,vstart_params,vstart_exprs,vstart_kids,vall_args,vall_params,vall_exprs,vall_kids,vover_args,vover_params,vover_exprs,vover_kids,vfin_args,vfin_params,vfin_exprs,vfin_kids,vearly,vlate,varguments,e,h.mono hle⟩
theorem Yaa {x:Schema} (h:schemaL.rep fz x cs):∃ vparams vstart_args vstart_params vstart_exprs vstart_kids vall_args vall_params vall_exprs vall_kids vover_args vover_params vover_exprs vover_kids vfin_args vfin_params vfin_exprs vfin_kids vearly vlate varguments,cs=[Zy x.name,vparams,Zy x.start.op,Zy x.start.name,vstart_args,vstart_params,vstart_exprs,vstart_kids,Zy x.all.op,Zy x.all.name,vall_args,vall_params,vall_exprs,vall_kids,Zy x.over.op,Zy x.over.name,vover_args,vover_params,vover_exprs,vover_kids,Zy x.fin.op,Zy x.fin.name,vfin_args,vfin_params,vfin_exprs,vfin_kids,vearly,vlate,Zo x.count,varguments]/\SchemaR fz x vparams vstart_args vstart_params vstart_exprs vstart_kids vall_args vall_params vall_exprs vall_kids vover_args vover_params vover_exprs vover_kids vfin_args vfin_params vfin_exprs vfin_kids vearly vlate varguments:=h
theorem YcO {x:Schema} {vparams vstart_args vstart_params vstart_exprs vstart_kids vall_args vall_params vall_exprs vall_kids vover_args vover_params vover_exprs vover_kids vfin_args vfin_params vfin_exprs vfin_kids vearly vlate varguments:Value} (h:SchemaR fz x vparams vstart_args vstart_params vstart_exprs vstart_kids vall_args vall_params vall_exprs vall_kids vover_args vover_params vover_exprs vover_kids vfin_args vfin_params vfin_exprs vfin_kids vearly vlate varguments):schemaL.rep fz x [Zy x.name,vparams,Zy x.start.op,Zy x.start.name,vstart_args,vstart_params,vstart_exprs,vstart_kids,Zy x.all.op,Zy x.all.name,vall_args,vall_params,vall_exprs,vall_kids,Zy x.over.op,Zy x.over.name,vover_args,vover_params,vover_exprs,vover_kids,Zy x.fin.op,Zy x.fin.name,vfin_args,vfin_params,vfin_exprs,vfin_kids,vearly,vlate,Zo x.count,varguments]:=⟨vparams,vstart_args,vstart_params,vstart_exprs,vstart_kids,vall_args,vall_params,vall_exprs,vall_kids,vover_args,vover_params,vover_exprs,vover_kids,vfin_args,vfin_params,vfin_exprs,vfin_kids,vearly,vlate,varguments,rfl,h⟩
end Go.Lx
