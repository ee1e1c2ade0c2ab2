/- The texts QLm, U6, UW, UX, U8, UY, VA, VB, UZ, laid together. Conditions: none. -/
import Derived.Test.YtdbfccanbbbjkaaGreatDoorSAU
set_option linter.all false
set_option maxHeartbeats 32000000
noncomputable section
set_option maxRecDepth 20000
open Go.Lx Go.RowKit
attribute [local instance 10] Classical.propDecidable
open Go.Proofs.Tryz (prog)
namespace Go.Proofs.YtdbfccanbbbjkaaGreatDoor
variable {α:Type} {s:Bs} {E:EnvM} {K:Kn} {S:List Atom} {b:Bool} {f:Formula} {d:Domain} {p:Problem}
def bD:Bs:=⟨#[100]⟩
def bP:Bs:=⟨#[112]⟩
def bOn:Bs:=⟨#[111,110]⟩
def WN:Bs:=⟨#[115,101,101,110]⟩
def bKey:Bs:=⟨#[107,101,121]⟩
def YlH:Bs:=⟨#[108,111,111,107]⟩
def atmF (n:Bs):Formula:=.mk kAtom n [] [] [] []
def addC (k:Int) (n:Bs):Change:=⟨k,[],Xo,n,[],nilE⟩
def YdE:Durative:=⟨YlH,[],2,Xo,atmF bOn,Xo,[addC 1 bOn],[addC 1 WN,addC 2 bOn]⟩
def Xw:Domain:=⟨bD,[],[],[⟨bOn,[]⟩,⟨WN,[]⟩,⟨bKey,[]⟩],[],[],[YdE]⟩
def YaL:Problem:=⟨bP,bD,[],[],[],atmF WN⟩
theorem nilP {p:α->Prop}:∀ x∈([]:List α),p x:=fun _ h=>by cases h
theorem Yng (h1:0<s.size) (h2:s.size<=32) (h3:∀ b∈s.data.toList,LetP b.toNat) (h4:s.data.toList ∉ Ybm.map (·.data.toList)):Xh s:=by
 refine ⟨fun i hi=>.inl ?_,fun h=>by rw [h] at h1;exact absurd h1 Zh,h2,fun h=>h4 (List.mem_map.2 ⟨s,h,rfl⟩)⟩;obtain ⟨b,hb,hb2⟩:=Ybx (s:=s) (k:=i) hi;rw [hb2];refine h3 b ?_;have:=Ymw hi;rw [getElem?_pos s i hi] at hb;injection hb with hb
 rw [hb] at this;exact Zm this
def WrdP (s:Bs):Prop:=0<s.size/\s.size<=32/\(∀ b∈s.data.toList,(97<=(b.toNat:Int)/\(b.toNat:Int)<=122)\/(48<=(b.toNat:Int)/\(b.toNat:Int)<=57)\/b∈SymL)/\¬PreP s Yb7/\¬DigP (Ya2 s 0)
instance {s:Bs}:Decidable (WrdP s):=inferInstanceAs (Decidable (_/\_))
theorem wd_ok (h:WrdP s):WordT s:=by
 obtain ⟨h1,h2,h3,h4,h5⟩:=h;refine ⟨fun h=>by rw [h] at h1;exact absurd h1 Zh,h2,h3,fun hn=>?_⟩;have h6:=hn.1 0 (by rw [YcK,if_neg h4];exact h1);rw [YcK,if_neg h4] at h6;exact h5 h6
theorem nD:Xh bD:=Yng Zh Zh (by unfold LetP;decide) Zh
theorem nP:Xh bP:=Yng Zh Zh (by unfold LetP;decide) Zh
theorem nOn:Xh bOn:=Yng Zh Zh (by unfold LetP;decide) Zh
theorem nSeen:Xh WN:=Yng Zh Zh (by unfold LetP;decide) Zh
theorem nKey:Xh bKey:=Yng Zh Zh (by unfold LetP;decide) Zh
theorem nLook:Xh YlH:=Yng Zh Zh (by unfold LetP;decide) Zh
theorem xl {ks:List Sexpr} (h:∀ k∈ks,XOk k):XOk (YJ ks):=Ya8.2 ⟨.inr (.inr ⟨rfl,rfl,rfl⟩),h⟩
theorem xw (h:WordT s):XOk (Yh s):=Ya8.2 ⟨.inl ⟨rfl,h,rfl,rfl⟩,by intro k hk;cases hk⟩
theorem xc {k:Sexpr} {r:List Sexpr} (h:XOk k) (h2:∀ j∈r,XOk j):∀ j∈k::r,XOk j:=List.forall_mem_cons.2 ⟨h,h2⟩
theorem x0:∀ j∈([]:List Sexpr),XOk j:=nilP
theorem xk {r:List Sexpr} (h:WrdP s) (h2:∀ j∈r,XOk j):∀ j∈Yh s::r,XOk j:=xc (xw (wd_ok h)) h2
theorem opA (l:List Formula):(andF l).op=kAnd:=rfl
theorem opT:Xo.op=kAnd:=rfl
theorem opM (n:Bs):(atmF n).op=kAtom:=rfl
theorem YeW:Y7 Xo=YJ []:=by
 rw [YfH];have h1:¬kAnd=kAtom:=by decide
 have h2:¬kAnd=kSame:=by decide
 have h3:¬CmpOp kAnd:=by unfold CmpOp;decide
 have h4:¬(kAnd=kForall\/kAnd=kExists):=by decide
 simp [Xo,Formula.op,Formula.kids,h1,h2,h3,h4]
theorem YcX (n:Bs):Y7 (atmF n)=Wl n []:=by
 rw [YfH,opM,if_pos rfl];rfl
theorem Ykh {l:List Formula} (h:l≠ []):Y7 (andF l)=YJ (Yh kAnd::l.map Y7):=by
 rw [YfH];have h1:¬kAnd=kAtom:=by decide
 have h2:¬kAnd=kSame:=by decide
 have h3:¬CmpOp kAnd:=by unfold CmpOp;decide
 have h4:¬(kAnd=kForall\/kAnd=kExists):=by decide
 simp [andF,Formula.op,Formula.kids,h1,h2,h3,h4,h]
theorem Yls {l:List Formula} (h:∀ k∈l,FOk k):FOk (andF l):=by
 have h1:¬kAnd=kAtom:=by decide
 have h2:¬kAnd=kSame:=by decide
 have h3:¬CmpOp kAnd:=by unfold CmpOp;decide
 refine WQ.2 ⟨⟨⟨fun h=>absurd h h1,fun h=>absurd h h2,fun h=>absurd h (by rw [opA];decide)⟩,⟨(0,false,l.length),?_,fun _ _=>⟨rfl,rfl⟩,rfl,rfl,fun _=>rfl⟩,nilP⟩,nilP,h⟩;rw [WY,opA,if_neg Zh,if_neg h3,if_pos (.inl rfl)];rfl
theorem Ypp {n:Bs} (h:Xh n):FOk (atmF n):=by
 refine WQ.2 ⟨⟨⟨fun _=>h,fun h=>absurd h (by rw [opM];decide),fun _=>nilP⟩,⟨(0,false,0),?_,fun h=>absurd rfl h,rfl,rfl,fun _=>rfl⟩,nilP⟩,nilP,nilP⟩;rw [WY,opM,if_pos (.inl rfl)]
theorem xOn:XOk (Wl bOn []):=xl (xk (by decide+kernel) x0)
theorem xSeen:XOk (Wl WN []):=xl (xk (by decide+kernel) x0)
theorem YdG:FVal Xo:=⟨Yls (l:=[]) nilP,by rw [YeW];exact ⟨xl x0,by decide,by decide⟩⟩
theorem fv_on:FVal (atmF bOn):=⟨Ypp nOn,by rw [YcX];exact ⟨xOn,by decide,by decide⟩⟩
theorem fv_seen:FVal (atmF WN):=⟨Ypp nSeen,by rw [YcX];exact ⟨xSeen,by decide,by decide⟩⟩
theorem xAnd {r:List Sexpr} (h:∀ j∈r,XOk j):XOk (YJ (Yh kAnd::r)):=xl (xk (by decide+kernel) h)
theorem fv_a1:FVal (andF [Xo]):=⟨Yls (List.forall_mem_cons.2 ⟨YdG.1,nilP⟩),by
 rw [Ykh (by simp)];simp only [List.map_cons,List.map_nil,YeW];exact ⟨xAnd (xc (xl x0) x0),by decide,by decide⟩⟩
theorem fv_a3:FVal (andF [Xo,atmF bOn,Xo]):=⟨Yls (List.forall_mem_cons.2 ⟨YdG.1,List.forall_mem_cons.2 ⟨fv_on.1,List.forall_mem_cons.2 ⟨YdG.1,nilP⟩⟩⟩),by
 rw [Ykh (by simp)];simp only [List.map_cons,List.map_nil,YeW,YcX];exact ⟨xAnd (xc (xl x0) (xc xOn (xc (xl x0) x0))),by decide,by decide⟩⟩
theorem ch_ok {k:Int} {n:Bs} (hk:k=1\/k=2) (hn:Xh n):ChOk (addC k n):=⟨⟨hn,nilP⟩,.inl ⟨hk,rfl⟩,.inl rfl,nilP⟩
theorem lampU_ok:Yny YdE:=⟨nLook,nilP,YdG,fv_on,YdG,List.forall_mem_cons.2 ⟨ch_ok (.inl rfl) nOn,nilP⟩,List.forall_mem_cons.2 ⟨ch_ok (.inl rfl) nSeen,List.forall_mem_cons.2 ⟨ch_ok (.inr rfl) nOn,nilP⟩⟩⟩
theorem lampD_ok:DomOk Xw:=⟨nD,nilP,nilP,List.forall_mem_cons.2 ⟨⟨nOn,nilP⟩,List.forall_mem_cons.2 ⟨⟨nSeen,nilP⟩,List.forall_mem_cons.2 ⟨⟨nKey,nilP⟩,nilP⟩⟩⟩,nilP,nilP,List.forall_mem_cons.2 ⟨lampU_ok,nilP⟩⟩
theorem lampP_ok:PrbOk YaL:=⟨nP,nD,nilP,nilP,nilP⟩
theorem chX_1 (n:Bs):chX (addC 1 n)=Wl n []:=by simp [chX,chX2,chX1,addC,Num5]
theorem chX_2 (n:Bs):chX (addC 2 n)=YJ [Yh kNot,Wl n []]:=by simp [chX,chX2,chX1,addC,Num5]
theorem atm_ne (n:Bs):¬atmF n=Xo:=fun h=>absurd (congrArg Formula.op h) (by show ¬kAtom=kAnd;decide)
theorem durX_l:durX YdE=YJ [Yh Y4,Yh YlH,Yh W3,numE 2,Yh Ykb,Wl bOn [],Yh Ydd,YJ [Yh kAnd,Wl bOn []],Yh Ykc,YJ [Yh kAnd,Wl WN [],YJ [Yh kNot,Wl bOn []]]]:=by
 simp [durX,YdE,opt,effX,chX_1,chX_2,atm_ne,YcX]
theorem domX_l:domX Xw=YJ [Yh YN,YJ [Yh Xl,Yh bD],YJ [Yh Yae,YJ [Yh bOn],YJ [Yh WN],YJ [Yh bKey]],durX YdE]:=by
 simp [domX,Xw,grp,YaC,Yis]
theorem Yo8:XVal (domX Xw):=by
 rw [domX_l,durX_l];refine ⟨?_,by decide,by decide⟩;refine xl (xk (by decide+kernel) (xc (xl (xk (by decide+kernel) (xk (by decide+kernel) x0))) (xc (xl (xk (by decide+kernel) (xc xOn (xc xSeen (xc (xl (xk (by decide+kernel) x0)) x0))))) (xc ?_ x0))));refine xl (xk (by decide+kernel) (xk (by decide+kernel) (xk (by decide+kernel) (xc ?_ (xk (by decide+kernel) (xc xOn (xk (by decide+kernel) (xc (xAnd (xc xOn x0)) (xk (by decide+kernel) (xc (xAnd (xc xSeen (xc (xl (xk (by decide+kernel) (xc xOn x0))) x0))) x0))))))))));exact Ya8.2 ⟨.inr (.inl ⟨rfl,rfl,rfl,by unfold Yeq;decide⟩),nilP⟩
theorem prbX_l:prbX YaL=YJ [Yh YN,YJ [Yh XF,Yh bP],YJ [Yh YW,Yh bD],YJ [Yh Ydo,Wl WN []]]:=by
 have h:¬(kAtom=kAnd):=by decide
 simp [prbX,YaL,grp,YaC,Ynt,atmF,Formula.op,h];rw [show Y7 (Formula.mk kAtom WN [] [] [] [])=_ from YcX WN]
theorem Yo7:XVal (prbX YaL):=by
 rw [prbX_l];exact ⟨xl (xk (by decide+kernel) (xc (xl (xk (by decide+kernel) (xk (by decide+kernel) x0))) (xc (xl (xk (by decide+kernel) (xk (by decide+kernel) x0))) (xc (xl (xk (by decide+kernel) (xc xSeen x0))) x0)))),by decide,by decide⟩
theorem e1:¬WN=bOn:=by decide
theorem e2:¬bKey=bOn:=by decide
theorem e3:¬bKey=WN:=by decide
theorem l_names:YbE Xw []=none:=by simp [YbE,Ygo,Yfh,YhJ,Xw,nmd,repM,e1,e2,e3]
theorem l_tw:¬TwP [] (parN []):=fun ⟨k,x,h,_⟩=>by simp [parN] at h
theorem l_ex:ExP [] []:=nilP
theorem l_atom {n:Bs} (h:n=bOn\/n=WN):atomM Xw [] [] n []=0:=by
 have h1:fstP Xw.predicates n=some ⟨n,[]⟩:=by
  rcases h with rfl | rfl
  ·simp [fstP,Xw]
  simp [fstP,Xw,Ne.symm e1]
 rw [atomM,h1];simp [YlI,Y5]
theorem l_true:formM Xw [] [] Xo=0:=by
 have h4:¬(YkO kAnd):=by unfold YkO;decide
 rw [YfI,if_neg Zh,if_neg (by show ¬ownM Xw [] [] kAnd [] []≠0;rw [ownM,if_neg Zh,if_neg h4];decide)];rw [if_neg (by show ¬exprML Xw [] _ []≠0;rw [exprML];decide)];show formML Xw [] _ []=0;rw [formML]
theorem l_lit:LitP Xo:=Ymo rfl |>.2 nilP
theorem l_atm {n:Bs} (h:n=bOn\/n=WN):formM Xw [] [] (atmF n)=0:=by rw [YfI,opM,if_pos rfl];exact l_atom h
theorem l_litA (n:Bs):LitP (atmF n):=(Ymn (by show ¬kAtom=kNot;decide) (by show ¬kAtom=kAnd;decide)).2 (.inl rfl)
theorem l_ch {k:Int} {n:Bs} (hk:k=1\/k=2) (h:n=bOn\/n=WN):YaQ Xw [] [] (addC k n) true=0:=by
 have hp:YhZ (addC k n):=⟨rfl,rfl⟩;have hn:¬NumC (addC k n):=fun h=>by rcases hk with rfl | rfl;exact h.1 rfl;exact h.2 rfl
 rw [YmO (vars:=[]) (fun h=>h.1 hp) l_tw l_ex,if_neg (by show ¬formM Xw [] [] Xo≠0;rw [l_true];decide),if_pos hn];exact l_atom h
theorem long_t:¬LongP Xo:=by rw [Yd1];simp [Xo,Formula.params,Formula.kids]
theorem long_a (n:Bs):¬LongP (atmF n):=by rw [Yd1];simp [atmF,Formula.params,Formula.kids]
theorem Ymq:(Y3 Xw YaL).2=0:=by
 have ho:objsM Xw YaL=[]:=rfl;have hl:¬LargeM Xw YaL []:=by
  simp [LargeM,Xw,YaL,YdE,YnI,Yhq,addC,long_t,long_a]
 have hn:newM Xw.types=0:=by
  show newM []=0;rw [newM,if_neg l_tw];simp
 have h0:(stepM Xw [] YaL 0).2=0:=by simp [stepM,l_names]
 have h1:(stepM Xw [] YaL 1).2=0:=by simp [stepM,YbG,Xw,YdE,Y5,l_tw]
 have h2:(stepM Xw [] YaL 2).2=0:=by simp [stepM,YbG,Xw,YdE,Y5,l_ex]
 have h3:(stepM Xw [] YaL 3).2=0:=rfl;have h4:(stepM Xw [] YaL 4).2=0:=by simp [stepM,numsL,Xw,YdE,Y5,Yho]
 have h5:(stepM Xw [] YaL 5).2=0:=by
  have a1:XY Xw [] [] [addC 1 bOn] true=0:=by rw [XY,Yay,if_pos (l_ch (.inl rfl) (.inl rfl)),Yay]
  have a2:XY Xw [] [] [addC 1 WN,addC 2 bOn] true=0:=by rw [XY,Yay,if_pos (l_ch (.inl rfl) (.inr rfl)),Yay,if_pos (l_ch (.inr rfl) (.inl rfl)),Yay]
  have a3:YaD Xw [] [] Xo=0:=by rw [YaD,if_pos l_lit];exact l_true
  have a4:YaD Xw [] [] (atmF bOn)=0:=by rw [YaD,if_pos (l_litA _)];exact l_atm (.inl rfl)
  show (Y5 idN (YaS Xw [])).2=0;have:YaS Xw []=durL Xw [] YdE:=by simp [YaS,Xw]
  rw [this];simp only [durL,YdE,a1,a2,a3,a4];rfl
 have h6:(stepM Xw [] YaL 6).2=0:=by simp [stepM,Yaa,Xw,YaL,Yay,Yh5]
 have h7:(stepM Xw [] YaL 7).2=0:=by
  have a:YaD Xw [] [] YaL.goal=0:=by show YaD Xw [] [] (atmF WN)=0;rw [YaD,if_pos (l_litA _)];exact l_atm (.inr rfl)
  have e:(if Xw.duratives=[] then formM Xw [] [] YaL.goal else YaD Xw [] [] YaL.goal)=0:=by rw [if_neg (by simp [Xw])];exact a
  simp only [stepM,Ykf,e,ne_eq,not_true_eq_false,if_false]
 rw [Y3,ho,if_neg (fun h=>h ⟨lampD_ok,Yo8⟩),if_neg (fun h=>h ⟨fv_seen,lampP_ok,Yo7⟩),if_neg hl,if_neg (fun h=>h hn)];simp only [Yeb,h0,h1,h2,h3,h4,h5,h6,h7,if_true,Nat.zero_add,Nat.reduceAdd]
theorem Yo5:domW Xw<=1300000:=by decide
theorem Yo4:prbW YaL<=1300000:=by decide
theorem Ymr:Apt Xw YaL:=apt_of Ymq Yo5 Yo4
theorem Yj7:ChkS Xw YaL:=YpY Yo5 Yo4
theorem Ygk (l:List Formula):normM true (andF l)=joinF kAnd (l.map (normM true)):=by
 rw [WP,opA,if_neg Zh,if_neg Zh,if_pos rfl];rfl
theorem YoP (n:Bs):normM true (atmF n)=atmF n:=by
 have h:¬QuF kAtom:=by unfold QuF;decide
 rw [WP,opM,if_neg Zh,if_neg Zh,if_neg Zh,if_neg Zh,if_neg h,if_neg Zh,if_neg Zh,if_neg Zh,if_pos rfl]
theorem YeO:normM true Xo=Xo:=Ygk []
theorem norm_0:normV Xo=Xo:=by rw [normV,if_pos YdG,YeO]
theorem norm_1:normV (andF [Xo])=Xo:=by rw [normV,if_pos fv_a1,Ygk];simp only [List.map_cons,List.map_nil,YeO];simp [joinF,joinL,Xo,Formula.op,Formula.kids]
theorem norm_3:normV (andF [Xo,atmF bOn,Xo])=andF [atmF bOn]:=by
 have h:¬kAtom=kAnd:=by decide
 rw [normV,if_pos fv_a3,Ygk];simp only [List.map_cons,List.map_nil,YeO,YoP];simp [joinF,joinL,Xo,atmF,andF,Formula.op,Formula.kids,h]
def aOn:Atom:=⟨bOn,[]⟩
def Yem:Atom:=⟨WN,[]⟩
theorem YiH (K:Kn) (S:List Atom) (E:EnvM):holdsM K S E Xo=true:=by
 rw [YQ,opT,if_neg Zh,if_neg Zh,if_neg Zh,if_pos rfl];show allH K S E []=true;rw [allH]
theorem Ylo (K:Kn) (S:List Atom) (E:EnvM):holdsM K S E (andF [atmF bOn])=decide (aOn∈S):=by
 rw [YQ,opA,if_neg Zh,if_neg Zh,if_neg Zh,if_pos rfl];show allH K S E [atmF bOn]=_;rw [allH,allH,Bool.and_true,YQ,opM,if_pos rfl];rfl
def s0:Schema:=⟨YlH,[],Xo,andF [atmF bOn],normV (andF [atmF bOn]),Xo,[addC 1 bOn],[addC 1 WN],false,[[]]⟩
theorem sch_l (K:Kn):schL K Xw=[s0]:=by
 have c1:normC [addC 1 bOn]=[addC 1 bOn]:=by simp [normC,addC,norm_0]
 have c2:normC [addC 1 WN,addC 2 bOn]=[addC 1 WN]:=by simp [normC,addC,norm_0]
 simp [schL,schB,Xw,YdE,schD,Ybi,c1,c2,norm_1,norm_3,Yc4,s0]
theorem Yp8 {n:Bs}:Wz K [addC 1 n] E S=if (⟨n,[]⟩:Atom)∈S then (S,false) else (S++ [⟨n,[]⟩],true):=by
 simp only [Wz,List.foldl_cons,List.foldl_nil,addC,addM,YiH,bndA,List.map_nil];by_cases h:(⟨n,[]⟩:Atom)∈S<;>simp [h]
theorem Yk5 {s:Schema} {d:Bool} (h:s.arguments=[[]]):Xq K [s] S [[b]] [[d]]=⟨(XC K s [] S b d).S,[[(XC K s [] S b d).b]],[[(XC K s [] S b d).d]],(XC K s [] S b d).n⟩:=by
 simp [Xq,rndN,stepW,rowN,Ym5,h]
theorem on_ne:¬Yem=aOn:=fun h=>e1 (congrArg Atom.name h)
theorem inst_1 (K:Kn):XC K s0 [] [] false false=⟨[aOn],true,false,true⟩:=by
 have e:s0.early=[addC 1 bOn]:=rfl;have l:s0.late=[addC 1 WN]:=rfl;have s:s0.start=Xo:=rfl;have a:s0.all=andF [atmF bOn]:=rfl;simp [XC,e,l,s,a,YiH,Ylo,Yp8,aOn]
theorem inst_2 (K:Kn):XC K s0 [] [aOn] true false=⟨[aOn,Yem],true,true,true⟩:=by
 have e:s0.early=[addC 1 bOn]:=rfl;have l:s0.late=[addC 1 WN]:=rfl;have s:s0.start=Xo:=rfl;have a:s0.all=andF [atmF bOn]:=rfl;have o:=on_ne;simp only [aOn,Yem] at o;simp [XC,e,l,s,a,YiH,Ylo,Yp8,aOn,Yem,e1]
theorem inst_3 (K:Kn):XC K s0 [] [aOn,Yem] true true=⟨[aOn,Yem],true,true,false⟩:=by
 have e:s0.early=[addC 1 bOn]:=rfl;have l:s0.late=[addC 1 WN]:=rfl;have s:s0.start=Xo:=rfl;have a:s0.all=andF [atmF bOn]:=rfl;simp [XC,e,l,s,a,YiH,Ylo,Yp8,aOn,Yem]
theorem exp_l (K:Kn):expM K Xw []=⟨[aOn,Yem],[[true]],[[true]],false⟩:=by
 have h0:exN0 [s0]=[[false]]:=rfl;have r1:=Yk5 (K:=K) (s:=s0) (S:=[]) (b:=false) (d:=false) rfl;have r2:=Yk5 (K:=K) (s:=s0) (S:=[aOn]) (b:=true) (d:=false) rfl;have r3:=Yk5 (K:=K) (s:=s0) (S:=[aOn,Yem]) (b:=true) (d:=true) rfl;rw [inst_1] at r1;rw [inst_2] at r2;rw [inst_3] at r3;rw [expM,sch_l,h0,exM];rw [show meas (totB [s0]) (totB [s0]) ⟨[],[[false]],[[false]],false⟩+1=4097+1+1+1 from rfl];rw [Yeg (by rw [r1];simp),r1,Yeg (by rw [r2];simp),r2,YiU (.inl (by rw [r3])),r3]
theorem Yo6 {S0:List Atom} (h:Yjg S0 (YgA YaL.init)):S0=[]:=List.eq_nil_iff_forall_not_mem.2 fun a ha=>by
 have:=Yd6.1 ((h.2 a).1 ha);cases this
theorem lamp_E:WU Xw YaL []=0:=by
 rw [WU,if_neg (fun h=>h Ymq),expE];have hs:schE (knM Xw YaL) Xw=0:=by
  rw [schE,sch_l,if_neg (by show ¬4096<1;decide),if_neg];rintro ⟨s,h,hb⟩;rw [List.mem_singleton] at h;subst h;exact absurd hb.1 Zh
 rw [if_neg (fun h=>h hs),exp_l,if_neg (by show ¬4096<2;decide)]
theorem lamp_l {l:List Atom} (h:l.Perm (expM K Xw []).S) (hs:Yjf l):l=[aOn,Yem]:=by
 rw [exp_l] at h;have hc:cmpA aOn Yem<0:=by decide+kernel
 have h2:l.length=2:=h.length_eq
 match l,h2 with
 | [a,b],_=>
  have ha:a=aOn\/a=Yem:=by simpa using h.mem_iff.1 (List.mem_cons_self ..)
  have hd:([aOn,Yem]:List Atom).Nodup:=by simp;exact fun h=>on_ne h.symm
  have hn:=h.nodup_iff.2 hd;have hb:b=aOn\/b=Yem:=by simpa using h.mem_iff.1 (List.mem_cons_of_mem _ (List.mem_cons_self ..))
  rcases ha with rfl | rfl
  ·rcases hb with rfl | rfl
   ·simp at hn
   rfl
  rcases hb with rfl | rfl
  ·exact absurd hc (hs 0 1 _ _ Zh rfl rfl)
  simp at hn
theorem lamp_i (K:Kn):YcW (schL K Xw) (expM K Xw []).D=[(YlH,[])]:=by rw [sch_l,exp_l];rfl
theorem fmC_of (h:FVal f) (hw:fW f<=100000000):FmC f:=⟨hw,YoO h,by have:=normV_w h;omega⟩
theorem actF_of {a:Action} (hok:YnH a) (hf:FitA a) (hw:actW a<=100000000):ActF a:=by
 have e:actW a=1+a.params.length+fW a.pre+(a.changes.map Y2).sum:=rfl;obtain ⟨_,_,_,hp,hc⟩:=hok;have hcw:∀ c∈a.changes,1+c.params.length+fW c.when_+c.args.length+eW c.value<=100000000:=fun c h=>by
  have h1:=Xb (w:=Y2) h;have h2:Y2 c=1+c.params.length+fW c.when_+c.args.length+eW c.value:=rfl;omega
 refine ⟨⟨by have:=hf.params;omega,by have:=hf.many;omega,fmC_of hp Zi,fun c h=>⟨by have:=hcw c h;omega,by have:=hcw c h;omega,fun hn=>?_⟩⟩,fun c h=>⟨hf.c c h,fmC_of ?_ (by have:=hcw c h;omega),by have:=hcw c h;omega⟩,hf.many⟩
 ·obtain ⟨_,hk,_,_⟩:=hc c h;rcases hk with ⟨hk,_⟩ | ⟨_,hk⟩
  ·unfold numC at hn;omega
  exact YnT _ (Zs _) hk.1
 obtain ⟨_,_,hwn,_⟩:=hc c h;rcases hwn with hwn | hwn
 ·rw [hwn];exact YdG
 exact hwn
theorem actsF_of (hc:(Y3 d p).2=0) (hf:Fit14 d p) (hd:domW d<=100000000):∀ a∈d.actions,ActF a:=fun a ha=>by
 have hok:=(YkD hc).dok.1;have hw:actW a<=domW d:=by
  have:=Xb (w:=actW) ha;unfold domW;omega
 exact actF_of (hok.2.2.2.2.2.1 a ha) (hf.a a ha) Zi
theorem wb_of (hp:prbW p<=1300000):WB 1300000 ⟨p.init,p.values⟩:=by
 have e:prbW p=1+p.objects.length+(p.init.map YcJ).sum+(p.values.map YbZ).sum+fW p.goal:=rfl;have h1:=XP (w:=YcJ) (fun a=>by unfold YcJ;omega) p.init;have h2:=XP (w:=YbZ) (fun a=>by unfold YbZ;omega) p.values;exact
  {na:=by show p.init.length<=_;omega
   nv:=by show p.values.length<=_;omega
   a:=fun a ha=>by
    have:=Xb (w:=YcJ) (show a∈p.init from ha);have e2:YcJ a=1+a.args.length:=rfl;omega
   v:=fun v hv=>by
    have:=Xb (w:=YbZ) (show v∈p.values from hv);have e2:YbZ v=1+(1+v.fluent.args.length):=rfl;omega}
end Go.Proofs.YtdbfccanbbbjkaaGreatDoor
namespace Go.Proofs.YtdbfccanbbbjkaaGreatDoor
variable {d:Domain} {fz:FZ} {p:Problem} {u1 u2 u3 u4 u5 u6 u7 v1 v2 v3 v4 v5 v6:Value} {M:Mn} {k:Nat}
theorem Ypi {nb:Nat} (hM:MaxF fz) (hD:DomainR fz d v1 v2 v3 v4 v5 v6) (hP:ProblemR fz p u1 u2 u3 u4 u5 u6 u7) (hS:ChkS d p) (h6:(objsM d p).length<=6) (hWB:WB nb ⟨p.init,p.values⟩) (hnb:nb<=1900000):
 GFn prog 17 [ZD d v1 v2 v3 v4 v5 v6,ZP p u1 u2 u3 u4 u5 u6 u7] fz []
  (fun r fz' H'=>H'=[]/\∃ v W',r=.tuple #[v,errV (Y3 d p).2]/\WdR fz' W' v/\((Y3 d p).2=0->WB nb W'/\∀ x,x∈W'.atoms↔x∈p.init)):=by
 have hD0:=hD;have hP0:=hP;obtain ⟨⟨A1,n1,b1',rfl,i1⟩,⟨A2,n2,b2',rfl,i2⟩,⟨A3,n3,b3,rfl,i3⟩,⟨A4,n4,b4,rfl,i4⟩,⟨A5,n5,b5,rfl,i5⟩,⟨A6,n6,b6,rfl,i6⟩⟩:=hD.sls;obtain ⟨⟨B1,m1,d1,rfl,j1⟩,⟨B2,m2,d2,rfl,j2⟩,⟨B3,m3,d3,rfl,j3⟩⟩:=hP.sls;obtain ⟨⟨B4,m4,d4,rfl,_⟩,⟨B5,m5,d5,rfl,_⟩,⟨B6,m6,d6,rfl,_⟩,⟨B7,m7,d7,rfl,_⟩⟩:=hP.goal.sls;refine zF Tryz.func17 Tryz.ntmps17 (fun w0=>?_);refine pX (fun g2=>?_);refine pY (fun g3=>?_);refine zWO ?_;intros;refine zV ?_;rename_i g4;refine Yc (Yj [] [_,_,_] Zz (Yiy hM hD0 hP0 hS h6) (fun v7 fz7 H7 hle7 hR7=>?_));obtain ⟨rfl,vm,rfl,_⟩:=hR7;rw [List.nil_append];by_cases hc:(Y3 d p).2=0;rotate_left 1
 ·rw [YA hc];refine zV ?_;exact YaV T (vs:=[.agg #[Zn,Zn],.iface 84 (Zk (Y3 d p).2)]) ⟨⟨_,_,0,_,_,_,rfl,rfl,rfl,rfl,rfl,rfl⟩,rfl,trivial⟩ (fun fz3 hle3 hf3=>⟨rfl,_,⟨[],[]⟩,rfl,⟨_,_,_,_,_,_,rfl,Sl.nil,Sl.nil⟩,fun h=>absurd h hc⟩)
 rw [hc,show errV 0=.nilIface from rfl];refine zV ?_;refine Yc (Yj [] [_,_,_] Zz (YnO (W:=⟨p.init,p.values⟩) ⟨_,_,_,_,_,_,rfl,j2.mono hle7,j3.mono hle7⟩ ⟨by have:=hWB.na;omega,by have:=hWB.nv;omega,hWB.a,hWB.v⟩) (fun v8 fz8 H8 hle8 hR8=>?_));obtain ⟨rfl,W',hW',⟨lw,hp1,_,he1⟩,hp2⟩:=hR8;have hW0:=hW';obtain ⟨C1,k1,q1,C2,k2,q2,rfl,_,_⟩:=hW';refine zV ?_;refine YaV T (vs:=[.agg #[Zc C1 k1 q1,Zc C2 k2 q2],.nilIface]) ⟨⟨_,_,0,_,_,_,rfl,rfl,rfl,rfl,rfl,rfl⟩,rfl,trivial⟩ (fun fz9 hle9 hf9=>⟨rfl,_,W',rfl,hW0.mono hle9,fun _=>⟨?_,fun x=>?_⟩⟩)
 ·have hd:=YiY p.values [];have hcl:=Yi0 lw lw.length;have hpl:lw.length=p.init.length:=hp1.length_eq;have b1:p.init.length<=nb:=hWB.na;have b2:p.values.length<=nb:=hWB.nv;exact
   {na:=by rw [he1];show (cpt lw lw.length).length<=_;omega
    nv:=by
     rw [hp2.length_eq];have h2:(dedV p.values).length<=0+p.values.length:=hd.2;show (dedV p.values).length<=_;omega
    a:=fun y hy=>by
     rw [he1,YfL,hp1.mem_iff] at hy;exact hWB.a y hy
    v:=fun y hy=>by
     rw [hp2.mem_iff] at hy;rcases hd.1 y hy with h | h
     ·cases h
     exact hWB.v y h}
 rw [he1,YfL,hp1.mem_iff]
def instA (M:Mn) (a:Action):List StepM:=(tupM M a.params).map fun t=>(a.name,t)
def Yhg (M:Mn) (l:List Action):List StepM:=l.flatMap (instA M)
theorem Ynp {l:List Action} {a:Action} (h:l[k]?=some a):Yhg M (l.take (k+1))=Yhg M (l.take k)++instA M a:=by
 unfold Yhg;rw [List.take_add_one,h,List.flatMap_append];simp
theorem sinst_f (hM:MaxF fz) (hD:DomainR fz d v1 v2 v3 v4 v5 v6) (hP:ProblemR fz p u1 u2 u3 u4 u5 u6 u7) (hS:ChkS d p) (h6:(objsM d p).length<=6) (h8:d.actions.length<=8) (h3:∀ a∈d.actions,a.params.length<=3):
 GFn prog 18 [ZD d v1 v2 v3 v4 v5 v6,ZP p u1 u2 u3 u4 u5 u6 u7] fz []
  (fun r fz' H'=>∃ v,r=.tuple #[v,errV (Y3 d p).2]/\((Y3 d p).2≠0->v=Zn/\H'=[])/\((Y3 d p).2=0->∃ n,n<=1728/\Grow Ya4 61 fz' v n H' (Yhg (mnM d p) d.actions))):=by
 have hD0:=hD;have hP0:=hP;obtain ⟨⟨A1,n1,b1',rfl,i1⟩,⟨A2,n2,b2',rfl,i2⟩,⟨A3,n3,b3,rfl,i3⟩,⟨A4,n4,b4,rfl,i4⟩,⟨A5,n5,b5,rfl,i5⟩,⟨A6,n6,b6,rfl,i6⟩⟩:=hD.sls;obtain ⟨⟨B1,m1,d1,rfl,j1⟩,⟨B2,m2,d2,rfl,j2⟩,⟨B3,m3,d3,rfl,j3⟩⟩:=hP.sls;obtain ⟨⟨B4,m4,d4,rfl,_⟩,⟨B5,m5,d5,rfl,_⟩,⟨B6,m6,d6,rfl,_⟩,⟨B7,m7,d7,rfl,_⟩⟩:=hP.goal.sls;have l5:=i5.len;refine zF Tryz.func18 Tryz.ntmps18 (fun w0=>?_);refine pX (fun g2=>?_);refine pY (fun g3=>?_);refine zWO ?_;refine vK (q:=Yiy hM hD0 hP0 hS h6) (h:=fun v7 fz7 H7 hle7 hR7=>?_);obtain ⟨rfl,vm,rfl,hMn⟩:=hR7;by_cases hc:(Y3 d p).2=0;rotate_left 1
 ·rw [YA hc];refine zV ?_;exact ret2 rfl rfl rfl (List.nil_sublist _) ⟨_,rfl,fun _=>⟨rfl,rfl⟩,fun h=>absurd h hc⟩
 have hmn:=hMn hc;rw [hc,show errV 0=.nilIface from rfl];refine zV ?_;refine Yl (fun q σ fz' H'=>∃ (k:Nat) (vo:Value) (mo:Nat),k<=n5/\q=n5 - k/\σ=[(30,Zk k),(29,Zk n5),(28,Zc A5 n5 b5),(8,vo),(6,vm)]/\Le fz7 fz'/\mo<=k*216/\Grow Ya4 61 fz' vo mo H' (Yhg (mnM d p) (d.actions.take k)))
  ⟨0,_,0,Z0 _,rfl,rfl,Zd,by omega,Grow.nil _ _ _⟩ Zw (List.nil_sublist _) ?_
 rintro q σ fz1 Ho ⟨k,vo,mo,hk,rfl,rfl,hle1,hmo,hGo⟩;obtain ⟨Ao,co,rfl,_,_⟩:=hGo.form;have hle01:=hle7.trans hle1;refine vC ?_ ?_<;>intro e1;rotate_left 1
 ·have hkn:n5=k:=by omega
  subst hkn;rw [show d.actions.take n5=d.actions from Zl Zi] at hGo;exact vS (h:=by exact ⟨_,rfl,fun h=>absurd rfl h,fun _=>⟨mo,by omega,hGo⟩⟩)
 obtain ⟨a,ha⟩:=Ye (l:=d.actions) (k:=k) Zi;have ham:=Zm ha;have ha3:=h3 a ham;have hnx:=Ynp (M:=mnM d p) ha;refine vI (i5.mono hle01) ha (fun p8 hp8=>?_);refine zL hp8 ?_;intro cs hcs;obtain ⟨X0,x0,y0,X1,x1,y1,X2,x2,y2,X3,x3,y3,X4,x4,y4,X5,x5,y5,rfl,hR⟩:=Ybh hcs;obtain ⟨_,_,_,e0,ip⟩:=id hR.params;cases e0;have lp:=ip.len;have hkk:k<n5:=by omega
 have hk7:k<=7:=by omega
 refine zV ?_;intros;rename_i g10;refine Yl (fun q σ fz' H'=>∃ (j many:Nat),j<=x0/\q=x0 - j/\σ=[(37,Zk j),(36,Zk x0),(35,Zc X0 x0 y0),(11,Zk many),(10,Zp g10),(30,Zk k),(29,Zk n5),(28,Zc A5 n5 b5),(8,Zc Ao mo co),(6,vm)]/\Le fz1 fz'/\H'=(g10,Zu #[Zy a.name,Zc X0 x0 y0,Zk a.cost,Zy a.pre.op,Zy a.pre.name,Zc X1 x1 y1,Zc X2 x2 y2,Zc X3 x3 y3,Zc X4 x4 y4,Zc X5 x5 y5] 91)::Ho/\many<=6 ^ j)
  ⟨0,1,Z0 _,rfl,rfl,Zd,rfl,by decide⟩ Zw Zb ?_
 rintro q σ fz2 H' ⟨j,many,hj,rfl,rfl,hle2,rfl,hmj⟩;have hpow:6 ^ j<=216:=Nat.pow_le_pow_right Zh (show j<=3 by omega);refine vC ?_ ?_<;>intro e2
 ·obtain ⟨x,hx⟩:=Ye (l:=a.params) (k:=j) Zi;refine vI (ip.mono hle2) hx (fun p2 hp2=>?_);refine zL hp2 ?_;intro ds hds;obtain ⟨rfl,hRx⟩:=YK hds;refine zV ?_;intros;refine Yc (Yj [] (_::_::Ho) Zz (Yni (t:=x.typ) (hmn.mono (hle1.trans hle2))) (fun v4 fz4 H4 hle4 hR4=>?_));obtain ⟨rfl,Bo,mm,do_,rfl,hSo⟩:=hR4;have hmm:mm<=6:=by rw [<- hSo.len];exact Nat.le_trans (Ylf _ _) h6
  have hml:many*mm<=6 ^ (j+1):=by rw [Nat.pow_succ];exact Nat.mul_le_mul hmj hmm
  have hpow1:6 ^ (j+1)<=216:=Nat.pow_le_pow_right Zh (show j+1<=3 by omega);have hmz:(many:Int)*(mm:Int)=((many*mm:Nat):Int):=(Int.natCast_mul _ _).symm;refine vG ?_;refine YjL Zz Zz (Xk (by rw [hmz];omega)) ?_;refine vG ?_;refine YoE ?_;rw [show min ((many:Int)*(mm:Int)) 8192=((many*mm:Nat):Int) from by rw [hmz];omega];exact vP (h:=by exact ⟨j+1,many*mm,by omega,rfl,rfl,hle2.trans hle4,rfl,hml⟩)
 have hm216:many<=216:=Nat.le_trans hmj hpow;refine zV ?_;refine Yl (fun q σ fz' H'=>∃ (j many:Nat),j<=x0/\q=x0 - j/\σ=[(53,Zk j),(52,Zk x0),(51,Zc X0 x0 y0),(11,Zk many),(10,Zp g10),(30,Zk k),(29,Zk n5),(28,Zc A5 n5 b5),(8,Zc Ao mo co),(6,vm)]/\Le fz2 fz'/\H'=(g10,Zu #[Zy a.name,Zc X0 x0 y0,Zk a.cost,Zy a.pre.op,Zy a.pre.name,Zc X1 x1 y1,Zc X2 x2 y2,Zc X3 x3 y3,Zc X4 x4 y4,Zc X5 x5 y5] 91)::Ho/\many<=216)
  ⟨0,many,Z0 _,rfl,rfl,Zd,rfl,hm216⟩ Zw Zb ?_
 rintro q σ fz3 H' ⟨j,many,hj,rfl,rfl,hle3,rfl,hmj⟩;refine vC ?_ ?_<;>intro e3
 ·obtain ⟨x,hx⟩:=Ye (l:=a.params) (k:=j) Zi;refine vI (ip.mono (hle2.trans hle3)) hx (fun p2 hp2=>?_);refine zL hp2 ?_;intro ds hds;obtain ⟨rfl,hRx⟩:=YK hds;refine zV ?_;intros;refine Yc (Yj [] (_::_::Ho) Zz (Yni (t:=x.typ) (hmn.mono (hle1.trans (hle2.trans hle3)))) (fun v4 fz4 H4 hle4 hR4=>?_));obtain ⟨rfl,Bo,mm,do_,rfl,hSo⟩:=hR4;refine vC ?_ ?_<;>intro e4
  ·exact vP (h:=by exact ⟨j+1,0,by omega,rfl,rfl,hle3.trans hle4,rfl,by omega⟩)
  exact vP (h:=by exact ⟨j+1,many,by omega,rfl,rfl,hle3.trans hle4,rfl,hmj⟩)
 have hle13:=hle2.trans hle3;refine vC ?_ ?_<;>intro e4
 ·exact absurd e4 Zi
 refine zV ?_;refine Yc (Yj [] (_::Ho) Zz (YlW (hmn.mono (hle1.trans hle13)) (ip.mono hle13) Zi) (fun v6 fz6 H6 hle6 hR6=>?_));obtain ⟨rfl,T6,t6,s6,rfl,iT⟩:=hR6;have lT:=iT.len;have hTl:=Yh8 (M:=mnM d p) h6 ha3;rw [List.nil_append];refine zV ?_;refine Yl (fun q σ fz' H'=>∃ (j:Nat) (vo:Value) (mj:Nat) (Hj:HP),j<=t6/\q=t6 - j/\σ=[(75,Zk j),(74,Zk t6),(73,Zc T6 t6 s6),(10,Zp g10),(30,Zk k),(29,Zk n5),(28,Zc A5 n5 b5),(8,vo),(6,vm)]/\fz6=fz'/\H'=(g10,Zu #[Zy a.name,Zc X0 x0 y0,Zk a.cost,Zy a.pre.op,Zy a.pre.name,Zc X1 x1 y1,Zc X2 x2 y2,Zc X3 x3 y3,Zc X4 x4 y4,Zc X5 x5 y5] 91)::Hj/\mj<=mo+j/\
  Grow Ya4 61 fz' vo mj Hj (Yhg (mnM d p) (d.actions.take k)++((tupM (mnM d p) a.params).take j).map fun t=>(a.name,t)))
  ⟨0,_,mo,Ho,Z0 _,rfl,rfl,rfl,rfl,by omega,(hGo.mono (hle13.trans hle6)).of (by rw [List.take_zero];exact (List.append_nil _).symm) rfl⟩ Zw Zb ?_
 rintro q σ fz9 H' ⟨j,vj,mj,Hj,hj,rfl,rfl,rfl,rfl,hmj,hGj⟩;obtain ⟨Aj,cj,rfl,_,_⟩:=hGj.form;refine vC ?_ ?_<;>intro e5
 ·obtain ⟨t,ht⟩:=Ye (l:=tupM (mnM d p) a.params) (k:=j) Zi;refine vI iT ht (fun p9 hp9=>?_)
  ((refine zG ?_);refine X8 hp9 (fun S9 m9 d9 hsl=>?_));refine zV ?_;refine Yc (Yb (cs:=[Zk 0,Zy a.name,Zc S9 m9 d9]) (fun gb=>?_));refine Yc (YC (Hr:=[_,_]) (d:=(a.name,t)) (Zr _) hGj Yc9 (.head _) ⟨_,rfl,hR.name,_,_,_,rfl,hsl⟩ (fun v' Hs' hO'=>?_));obtain ⟨Av',cv',rfl,_,_⟩:=hO'.form;exact vP (h:=by exact ⟨j+1,_,mj+1,Hs',by omega,rfl,rfl,rfl,rfl,by omega,hO'.of (by rw [List.take_add_one,ht,List.map_append,<- List.append_assoc];rfl) rfl⟩)
 have hjt:t6=j:=by omega
 subst hjt;rw [show (tupM (mnM d p) a.params).take t6=tupM (mnM d p) a.params from Zl Zi] at hGj;exact vP (h:=by exact ⟨k+1,_,mj,by omega,rfl,rfl,hle1.trans (hle13.trans hle6),by omega,by rw [hnx];exact hGj⟩)
end Go.Proofs.YtdbfccanbbbjkaaGreatDoor
namespace Go.Lx
open Go.RowKit
def u8L:Lay Nat where
 size:=1
 rep:=fun _ x cs=>cs=[.int .u8 x]/\x<=255
 len:=fun h=>by obtain ⟨rfl,_⟩:=h;rfl
 mono:=fun _ h=>h
section
variable {P:Program} {cx:Cx} {r:Operand->Option Value} {fz:FZ} {H:HP} {V:Value->Prop} {dst:Option Nat} {ty:TypeId} {pos:String} {af:Array Edge} {gd:Option (Nat × Bool)}
theorem YoF {t:TypeId} {x:Operand} {X:Ty} {p:Addr} {d:Nat} (h:At u8L fz p d) (hV:d<=255->V (.int .u8 d)) (T:Tab P:=by exact T) (hT:T.inf t=some X:=by exact rfl) (hd:XZ X.desc=false:=by exact rfl) (hx:r x=some (.pointer (some p)):=by exact rfl):DoesQ P cx ⟨dst,.load t x,ty,pos,af,gd⟩ r fz H V:=by
 obtain ⟨v,⟨h1,h8⟩,h2⟩:=h.cell rfl;injection h1 with h1
 subst h1;exact YaJ T hT hd hx h2 (hV h8)
end
end Go.Lx
namespace Go.Proofs.YtdbfccanbbbjkaaGreatDoor
variable {M:Mn} {W:Wd} {k:Nat} {d:Domain} {fz:FZ} {p:Problem} {u1 u2 u3 u4 u5 u6 u7 v1 v2 v3 v4 v5 v6:Value}
def YfS:Lay Wd where
 size:=2
 rep:=fun fz W cs=>∃ A n c B m d,cs=[Zc A n c,Zc B m d]/\Sl atomL fz A n c W.atoms/\Sl valueL fz B m d W.values
 len:=fun h=>by obtain ⟨A,n,c,B,m,d,rfl,_⟩:=h;rfl
 mono:=fun hle h=>by obtain ⟨A,n,c,B,m,d,e,h1,h2⟩:=h;exact ⟨A,n,c,B,m,d,e,h1.mono hle,h2.mono hle⟩
theorem YfR:OneC YfS:=by
 intro fz d cs h u hu;obtain ⟨A,n,c,B,m,d',rfl,_⟩:=h;simp at hu;rcases hu with rfl | rfl<;>rfl
inductive RunOk (M:Mn) (init:List Atom) (l:List StepM):List Wd->List StepM->Prop
 | nil {W:Wd} (h:∀ x,x∈W.atoms↔x∈init):RunOk M init l [W] []
 | snoc {Ws:List Wd} {Ss:List StepM} {W W':Wd} {s:StepM} {a:Action} (h:RunOk M init l (Ws++ [W]) Ss) (hs:s∈l) (ha:AppOk M W s a) (hw:StepW M W s a W'):RunOk M init l (Ws++ [W]++ [W']) (Ss++ [s])
def canM (M:Mn) (W:Wd) (l:List StepM):List StepM:=l.filter fun s=>decide (∃ a,AppOk M W s a)
theorem canM_yes {l:List StepM} {s:StepM} (hs:l[k]?=some s) (h:∃ a,AppOk M W s a):canM M W (l.take (k+1))=canM M W (l.take k)++ [s]:=by
 unfold canM;rw [List.take_add_one,hs,List.filter_append];simp [h]
theorem canM_no {l:List StepM} {s:StepM} (hs:l[k]?=some s) (h:¬∃ a,AppOk M W s a):canM M W (l.take (k+1))=canM M W (l.take k):=by
 unfold canM;rw [List.take_add_one,hs,List.filter_append];have:decide (∃ a,AppOk M W s a)=false:=decide_eq_false h;simp only [Option.toList_some,List.filter_cons,this,List.filter_nil,List.append_nil];simp
theorem Ynq {l:List Action} {s:StepM} (h3:∀ a∈l,a.params.length<=3) (h:s∈Yhg M l):s.2.length<=3:=by
 obtain ⟨a,ha,h⟩:=List.mem_flatMap.1 h;obtain ⟨t,ht,rfl⟩:=List.mem_map.1 h;rw [Yjt ht];exact h3 a ha
theorem run_f {nb:Nat} {Pk:Option Addr} {np cp:Nat} {picks:List Nat} (hM:MaxF fz) (hD:DomainR fz d v1 v2 v3 v4 v5 v6) (hP:ProblemR fz p u1 u2 u3 u4 u5 u6 u7) (hS:ChkS d p) (h6:(objsM d p).length<=6) (h8:d.actions.length<=8) (h3:∀ a∈d.actions,a.params.length<=3) (hA:(Y3 d p).2=0->∀ a∈d.actions,ActF a)
 (hWB:WB nb ⟨p.init,p.values⟩) (hnb:nb<=1800000) (hK:Sl u8L fz Pk np cp picks):
 GFn prog 8 [ZD d v1 v2 v3 v4 v5 v6,ZP p u1 u2 u3 u4 u5 u6 u7,Zc Pk np cp] fz []
  (fun r fz' H'=>H'=[]/\∃ vw vp,r=.tuple #[vw,vp,Zo true]/\((Y3 d p).2=0->∃ A n c B m e Ws Ss,vw=Zc A n c/\vp=Zc B m e/\Sl YfS fz' A n c Ws/\Sl Ya4 fz' B m e Ss/\RunOk (mnM d p) p.init (Yhg (mnM d p) d.actions) Ws Ss)):=by
 have hD0:=hD;have hP0:=hP;obtain ⟨⟨A1,n1,b1',rfl,i1⟩,⟨A2,n2,b2',rfl,i2⟩,⟨A3,n3,b3,rfl,i3⟩,⟨A4,n4,b4,rfl,i4⟩,⟨A5,n5,b5,rfl,i5⟩,⟨A6,n6,b6,rfl,i6⟩⟩:=hD.sls;obtain ⟨⟨B1,m1,d1,rfl,j1⟩,⟨B2,m2,d2,rfl,j2⟩,⟨B3,m3,d3,rfl,j3⟩⟩:=hP.sls;obtain ⟨⟨B4,m4,d4,rfl,_⟩,⟨B5,m5,d5,rfl,_⟩,⟨B6,m6,d6,rfl,_⟩,⟨B7,m7,d7,rfl,_⟩⟩:=hP.goal.sls;have lK:=hK.len;refine zF Tryz.func8 Tryz.ntmps8 (fun w0=>?_);refine pX (fun g3=>?_);refine pY (fun g4=>?_);refine zWO ?_;refine Wp.freezeAll (H1:=[]) (H2:=[_,_]) (Zr _) (fun fz0 hle0 hf0=>?_);have hg4:=hf0 _ (.head _);have hg3:=hf0 _ (.tail _ (.head _));refine zV ?_;refine Yc (Yj [] [] Zz (Ypi (hM.mono hle0) (hD0.mono hle0) (hP0.mono hle0) hS h6 hWB Zi) (fun v7 fz7 H7 hle7 hR7=>?_));obtain ⟨rfl,vw,W,rfl,hW,hWi⟩:=hR7;obtain ⟨Wa,wn,wc,Wv,wm,wd,rfl,hWa,hWv⟩:=hW;have hle07:=hle0.trans hle7;have hg4:=hle7 _ _ hg4;have hg3:=hle7 _ _ hg3;rw [List.append_nil];generalize hcv:errV (Y3 d p).2=ev at*;refine zV ?_;intros;rename_i g9;refine Yc (Yj [] [_] Zz (sinst_f (hM.mono hle07) (hD0.mono hle07) (hP0.mono hle07) hS h6 h8 h3) (fun v8 fz8 H8 hle8 hR8=>?_));obtain ⟨vl,rfl,hbad,hgood⟩:=hR8;rw [hcv];by_cases hc:(Y3 d p).2=0;rotate_left 1
 ·obtain ⟨rfl,rfl⟩:=hbad hc;rw [YA hc] at hcv;subst hcv;rw [List.nil_append];refine zWN ?_;refine Yam [] [_] ?_;refine wG ?_;refine YeK ?_;rw [show ((false==false):Bool)=true from rfl];refine zW ?_;refine pT ?_;refine Ya ?_;refine PoS.skipG Zj ?_;refine Ya ?_;refine PoS.skipG Zj ?_;refine Yy ?_ ?_
  ·refine PoS.qk ⟨Zd,Zx⟩ (WD ?_);refine pA ?_;refine pA ?_;refine pD ?_;refine zW ?_;exact retN T (vs:=[Zn,Zn,Zo true]) ⟨rfl,rfl,rfl,trivial⟩ (List.nil_sublist _) ⟨rfl,_,_,rfl,fun h=>absurd h hc⟩
  refine PoS.hard (DoesQ.does (YO ?_));refine Yy ?_ ?_
  ·refine PoS.hard (DoesQ.does (WD ?_));refine pA ?_;refine pD ?_;refine zW ?_;exact retN T (vs:=[Zn,Zn,Zo true]) ⟨rfl,rfl,rfl,trivial⟩ (List.nil_sublist _) ⟨rfl,_,_,rfl,fun h=>absurd h hc⟩
  refine PoS.hard (DoesQ.does (YO ?_));refine Ya ?_;refine PoS.hard (DoesQ.does (WD ?_));refine pD ?_;refine zW ?_;exact retN T (vs:=[Zn,Zn,Zo true]) ⟨rfl,rfl,rfl,trivial⟩ (List.nil_sublist _) ⟨rfl,_,_,rfl,fun h=>absurd h hc⟩
 obtain ⟨nl,hnl,hGl⟩:=hgood hc;obtain ⟨hWB1,hWi⟩:=hWi hc;have hac:=hA hc;rw [hc,show errV 0=.nilIface from rfl] at hcv;subst hcv;obtain ⟨Al,cl,rfl,_,_⟩:=hGl.form;refine Seq.freezeAll (H1:=[_]) (H2:=H8) Zq (fun fz10 hle10 hf10=>?_);obtain ⟨Bl,dl,el,iL⟩:=hGl.sl hle10 hf10 Zi;injection el with w1 w2 w3
 subst w1;subst w3;have hla:∀ s∈Yhg (mnM d p) d.actions,s.2.length<=3:=fun s hs=>Ynq h3 hs
 have hle710:=hle8.trans hle10;have hle010:=hle07.trans hle710;have hg4:=hle710 _ _ hg4;have hg3:=hle710 _ _ hg3;have lL:=iL.len;generalize hl:Yhg (mnM d p) d.actions=l at*;refine zV ?_;refine Yc (Yb (cs:=[Zc Wa wn wc,Zc Wv wm wd]) (fun gb=>?_));have hgb:Grow YfS 52 fz10 (Zv gb 1 1) 1 [(gb,Zu #[Zc Wa wn wc,Zc Wv wm wd] 52)] [W]:=
  Grow.block (ys:=[(W,[Value.slice Wa wn wc,Zc Wv wm wd])]) rfl rfl (by intro q hq;simp at hq;subst hq;exact ⟨_,_,_,_,_,_,rfl,hWa.mono hle710,hWv.mono hle710⟩) rfl
 refine zV ?_
 first | refine Wp.perm (List.Perm.swap _ _ _) ?_ | refine Seq.perm (List.Perm.swap _ _ _) ?_
 refine Yl (fun q σ fz' H'=>∃ (i:Nat) (vw vp:Value) (Ws:List Wd) (W:Wd) (Ss:List StepM) (Hw Hp:HP) (Wa Wv:Option Addr) (wn wc wm wd:Nat),i<=6/\q=6 - i/\σ=[(15,Zk i),(14,vp),(13,vw),(11,Zc Al nl cl),(9,Zp g9),(4,Zp g4),(3,Zp g3),(2,Zc Pk np cp)]/\Le fz10 fz'/\
  H'=(g9,Zu #[Zc Wa wn wc,Zc Wv wm wd] 52)::(Hw++Hp)/\Sl atomL fz' Wa wn wc W.atoms/\Sl valueL fz' Wv wm wd W.values/\WB (nb+i*3000) W/\RunOk (mnM d p) p.init l (Ws++ [W]) Ss/\Grow YfS 52 fz' vw (i+1) Hw (Ws++ [W])/\Grow Ya4 61 fz' vp i Hp Ss)
  ⟨0,_,_,[],W,[],_,[],_,_,_,_,_,_,by omega,rfl,rfl,Zd,rfl,hWa.mono hle710,hWv.mono hle710,hWB1,.nil hWi,hgb,Grow.nil _ _ _⟩ Zw (List.Sublist.refl _) ?_
 rintro q σ fz1 H' ⟨i,vw,vp,Ws,W,Ss,Hw,Hp,Wa,Wv,wn,wc,wm,wd,hi,rfl,rfl,hle1,rfl,hWa,hWv,hWB1,hRun,hGw,hGp⟩;obtain ⟨Aw,cw,rfl,_,_⟩:=hGw.form;obtain ⟨Ap,cp',rfl,_,_⟩:=hGp.form;have hle01:=hle010.trans hle1;have hg4:=hle1 _ _ hg4;have hg3:=hle1 _ _ hg3;have hret:∀ {fz9:FZ},Le fz1 fz9->(∀ q∈Hw++Hp,fz9 q.1=some q.2)->([]:HP)=[]/\∃ vw vp,Value.tuple #[Zc Aw (i+1) cw,Zc Ap i cp',Zo true]=.tuple #[vw,vp,Zo true]/\((Y3 d p).2=0->∃ A n c B m e Ws Ss,vw=Zc A n c/\vp=Zc B m e/\Sl YfS fz9 A n c Ws/\Sl Ya4 fz9 B m e Ss/\RunOk (mnM d p) p.init l Ws Ss):=fun hle9 hf9=>by
  obtain ⟨E1,q1,x1,hs1⟩:=hGw.sl hle9 (fun q hq=>hf9 q (by simp [hq])) Zi;obtain ⟨E2,q2,x2,hs2⟩:=hGp.sl hle9 (fun q hq=>hf9 q (by simp [hq])) Zi;exact ⟨rfl,_,_,rfl,fun _=>⟨_,_,_,_,_,_,_,_,x1,x2,hs1,hs2,hRun⟩⟩
 refine vC ?_ ?_<;>intro e1;rotate_left 1
 ·refine zV ?_;exact YaV T (vs:=[Zc Aw (i+1) cw,Zc Ap i cp',Zo true]) ⟨rfl,rfl,rfl,trivial⟩ (fun fz9 hle9 hf9=>hret hle9 (fun q hq=>hf9 q (.tail _ hq)))
 refine vC ?_ ?_<;>intro e2;rotate_left 1
 ·refine zV ?_;exact YaV T (vs:=[Zc Aw (i+1) cw,Zc Ap i cp',Zo true]) ⟨rfl,rfl,rfl,trivial⟩ (fun fz9 hle9 hf9=>hret hle9 (fun q hq=>hf9 q (.tail _ hq)))
 refine zV ?_;have hW0:∀ {fz':FZ},Le fz1 fz'->WdR fz' W (.agg #[Zc Wa wn wc,Zc Wv wm wd]):=fun h=>⟨_,_,_,_,_,_,rfl,hWa.mono h,hWv.mono h⟩
 refine Yl (fun q σ fz' H'=>∃ (k:Nat) (vc:Value) (mc:Nat) (Hc:HP),k<=nl/\q=nl - k/\σ=[(17,Zk k),(16,vc),(15,Zk i),(14,Zc Ap i cp'),(13,Zc Aw (i+1) cw),(11,Zc Al nl cl),(9,Zp g9),(4,Zp g4),(3,Zp g3),(2,Zc Pk np cp)]/\Le fz1 fz'/\
  H'=(g9,Zu #[Zc Wa wn wc,Zc Wv wm wd] 52)::((Hw++Hp)++Hc)/\mc<=k/\Grow Ya4 61 fz' vc mc Hc (canM (mnM d p) W (l.take k)))
  ⟨0,_,0,[],by omega,rfl,rfl,Zd,by rw [List.append_nil],by omega,Grow.nil _ _ _⟩ Zw Zb ?_
 rintro q σ fz2 H' ⟨k,vc,mc,Hc,hk,rfl,rfl,hle2,rfl,hmc,hGc⟩;obtain ⟨Ac,cc,rfl,_,_⟩:=hGc.form;have hle12:=hle1.trans hle2;have hle02:=hle010.trans hle12;refine vC ?_ ?_<;>intro e3
 ·obtain ⟨s,hs⟩:=Ye (l:=l) (k:=k) Zi;have hsm:=Zm hs;have hs3:=hla s hsm;have hg4':=hle2 _ _ hg4;have hg3':=hle2 _ _ hg3;refine zWN ?_;refine Y0 [_] ?_;refine wI (iL.mono hle12) hs (fun p1 hp1=>?_);refine zL hp1 ?_;intro cs hcs;have hrow:=hcs;obtain ⟨va,rfl,hsn,S,m,d',rfl,isl⟩:=hcs;refine pU ?_;refine Yf (Yj [] (_::((Hw++Hp)++Hc)) Zz (YkH (hM.mono hle02) (hD0.mono hle02) (hP0.mono hle02) hS h6 hc (fun a ha=>(hac a ha).c) (hW0 hle2) hrow Zi) (fun v11 fz11 H11 hle11 hR11=>⟨⟨hle11,Zx⟩,?_⟩));obtain ⟨rfl,e,rfl,hiff⟩:=hR11;by_cases he:e=0
  ·subst he;have hap:=hiff.1 rfl;rw [show errV 0=.nilIface from rfl];refine Ch.qk ⟨hle11,Zx⟩ (YcR T Zz Zz Zz Zz ?_);refine Ch.done ?_;refine vI (iL.mono (hle12.trans hle11)) hs (fun p2 hp2=>?_);refine zL hp2 ?_;intro cs hcs;obtain ⟨va,rfl,hsn,S,m,d',rfl,isl⟩:=hcs;refine zV ?_;refine Yc (Yb (cs:=[Zk 0,Zy s.1,Zc S m d']) (fun gb=>?_));refine Yc (YC (Hr:=_::_::(Hw++Hp)) (d:=s) (Zr _) (hGc.mono hle11) Yc9 (.head _) ⟨_,rfl,hsn,S,m,d',rfl,isl⟩ (fun v' Hs' hO'=>?_));obtain ⟨Av',cv',rfl,_,_⟩:=hO'.form;exact vP (h:=by exact ⟨k+1,_,mc+1,Hs',by omega,rfl,rfl,hle2.trans hle11,rfl,by omega,hO'.of (canM_yes hs hap).symm rfl⟩)
  have hap:¬∃ a,AppOk (mnM d p) W s a:=fun h=>he (hiff.2 h)
  rw [YA he];refine Ch.qk ⟨hle11,Zx⟩ (Yb4 T Zz Zz Zz Zz ?_);refine Ch.done ?_;exact vP (h:=by exact ⟨k+1,_,mc,Hc,by omega,rfl,rfl,hle2.trans hle11,rfl,by omega,by rw [canM_no hs hap];exact hGc.mono hle11⟩)
 have hkl:k=nl:=by omega
 subst hkl;rw [show l.take k=l from Zl Zi] at hGc;have lC:=hGc.len;refine vC ?_ ?_<;>intro e4
 ·refine zV ?_;exact YaV T (vs:=[Zc Aw (i+1) cw,Zc Ap i cp',Zo true]) ⟨rfl,rfl,rfl,trivial⟩ (fun fz9 hle9 hf9=>hret (hle2.trans hle9) (fun q hq=>hf9 q (.tail _ (List.mem_append.2 (.inl hq)))))
 first
 | refine Wp.freezeAll (H1:=_::(Hw++Hp)) (H2:=Hc) (Zr _) (fun fz3 hle3 hf3=>?_)
 | refine Seq.freezeAll (H1:=_::(Hw++Hp)) (H2:=Hc) (Zr _) (fun fz3 hle3 hf3=>?_)
 obtain ⟨Bc,dc,ec,iC⟩:=hGc.sl hle3 hf3 Zi;injection ec with w1 w2 w3
 subst w1;subst w3;have hle13:=hle2.trans hle3;have hle03:=hle01.trans hle13;obtain ⟨x,hx⟩:=Ye (l:=picks) (k:=i) Zi;have hmod:x % mc<mc:=Nat.mod_lt _ Zi;obtain ⟨s,hs⟩:=Ye (l:=canM (mnM d p) W l) (k:=x % mc) Zi;have hsc:=Zm hs;have hsl:=(List.mem_filter.1 hsc).1;have hsap:∃ a,AppOk (mnM d p) W s a:=Zt (List.mem_filter.1 hsc).2;have hs3:=hla s hsl;have hg4':=hle13 _ _ hg4;have hg3':=hle13 _ _ hg3;refine vI (hK.mono hle03) hx (fun p5 hp5=>?_);refine zG ?_;refine YoF hp5 (fun h8=>?_);refine zG ?_;refine Yas ?_ (hw:=Xk Zi);refine vG ?_;refine q_remN (b:=mc) ?_;refine zI iC hs (fun p6 hp6=>?_);refine zL hp6 ?_;intro cs hcs;have hrow:=hcs;obtain ⟨va,rfl,hsn,S,m,d',rfl,isl⟩:=hcs;refine zV ?_;intros;refine Yc (Yj [] (_::_::(Hw++Hp)) Zz (apply_f (hM.mono hle03) (hD0.mono hle03) (hP0.mono hle03) hS h6 hc hac (hW0 hle13) hrow Zi hWB1 Zi) (fun v9 fz9 H9 hle9 hR9=>?_));obtain ⟨rfl,vx,e,W',rfl,hW',hiff,hstep⟩:=hR9;have he:=hiff.2 hsap;subst he;obtain ⟨hWB2,a,hap,hsw⟩:=hstep rfl;obtain ⟨Xa,xn,xc,Xv,xm,xd,rfl,hXa,hXv⟩:=hW';have hrw:YfS.rep fz9 W' [Zc Xa xn xc,Zc Xv xm xd]:=⟨_,_,_,_,_,_,rfl,hXa,hXv⟩;have hrs:=Ya4.mono hle9 hrow;have hle19:=hle13.trans hle9;have hRun2:=RunOk.snoc hRun hsl hap hsw;rw [show nb+i*3000+3000=nb+(i+1)*3000 by omega] at hWB2;rw [show errV 0=.nilIface from rfl,List.nil_append];refine zWN ?_;refine Yam [] [_,_] ?_;refine zW ?_;refine Ys (Ys ?_);refine zW ?_;refine pT ?_;refine Yy ?_ ?_
 ·refine Yd (Yb (cs:=[Zc Xa xn xc,Zc Xv xm xd]) (fun gb3=>⟨⟨Zd,Zx⟩,?_⟩));refine Yy ?_ ?_
  ·refine Yd (YC (Hr:=_::_::_::Hp) (d:=W') (((List.perm_append_comm.cons _).cons _).cons _) (hGw.mono hle19) YfR (.head _) hrw (fun vo' Ho' hGo'=>⟨⟨Zd,Zx⟩,?_⟩));obtain ⟨Ao',co',rfl,_,_⟩:=hGo'.form;refine Ya ?_;refine Yd (Yb (cs:=[Zk 0,Zy s.1,Zc S m d']) (fun gb7=>⟨⟨Zd,Zx⟩,?_⟩));refine Ya ?_;refine Yd (YC (Hr:=_::_::_::_::Ho') (d:=s) ((((List.perm_append_comm.cons _).cons _).cons _).cons _) (hGp.mono hle19) Yc9 (.head _) hrs (fun vc' Hc' hGc'=>⟨⟨Zd,Zx⟩,?_⟩));obtain ⟨Ac',cc',rfl,_,_⟩:=hGc'.form;refine pA ?_;refine pD ?_;exact vP (h:=by exact ⟨i+1,_,_,Ws++ [W],W',Ss++ [s],Ho',Hc',_,_,_,_,_,_,by omega,rfl,rfl,hle1.trans hle19,rfl,hXa,hXv,hWB2,hRun2,hGo',hGc'⟩)
  refine Yd (Yb (cs:=[Zk 0,Zy s.1,Zc S m d']) (fun gb7=>⟨⟨Zd,Zx⟩,?_⟩));refine Ya ?_;refine Yd (YC (Hr:=_::_::_::_::Hp) (d:=W') ((((List.perm_append_comm.cons _).cons _).cons _).cons _) (hGw.mono hle19) YfR (.tail _ (.head _)) hrw (fun vo' Ho' hGo'=>⟨⟨Zd,Zx⟩,?_⟩));obtain ⟨Ao',co',rfl,_,_⟩:=hGo'.form;refine Ya ?_;refine Yd (YC (Hr:=_::_::_::_::Ho') (d:=s) ((((List.perm_append_comm.cons _).cons _).cons _).cons _) (hGp.mono hle19) Yc9 (.head _) hrs (fun vc' Hc' hGc'=>⟨⟨Zd,Zx⟩,?_⟩));obtain ⟨Ac',cc',rfl,_,_⟩:=hGc'.form;refine pA ?_;refine pD ?_;exact vP (h:=by exact ⟨i+1,_,_,Ws++ [W],W',Ss++ [s],Ho',Hc',_,_,_,_,_,_,by omega,rfl,rfl,hle1.trans hle19,rfl,hXa,hXv,hWB2,hRun2,hGo',hGc'⟩)
 refine Yd (Yb (cs:=[Zk 0,Zy s.1,Zc S m d']) (fun gb7=>⟨⟨Zd,Zx⟩,?_⟩));refine Ya ?_;refine Yd (Yb (cs:=[Zc Xa xn xc,Zc Xv xm xd]) (fun gb3=>⟨⟨Zd,Zx⟩,?_⟩));refine Ya ?_;refine Yd (YC (Hr:=_::_::_::_::Hp) (d:=W') ((((List.perm_append_comm.cons _).cons _).cons _).cons _) (hGw.mono hle19) YfR (.head _) hrw (fun vo' Ho' hGo'=>⟨⟨Zd,Zx⟩,?_⟩));obtain ⟨Ao',co',rfl,_,_⟩:=hGo'.form;refine Ya ?_;refine Yd (YC (Hr:=_::_::_::_::Ho') (d:=s) ((((List.perm_append_comm.cons _).cons _).cons _).cons _) (hGp.mono hle19) Yc9 (.tail _ (.head _)) hrs (fun vc' Hc' hGc'=>⟨⟨Zd,Zx⟩,?_⟩));obtain ⟨Ac',cc',rfl,_,_⟩:=hGc'.form;refine pA ?_;refine pD ?_;exact vP (h:=by exact ⟨i+1,_,_,Ws++ [W],W',Ss++ [s],Ho',Hc',_,_,_,_,_,_,by omega,rfl,rfl,hle1.trans hle19,rfl,hXa,hXv,hWB2,hRun2,hGo',hGc'⟩)
end Go.Proofs.YtdbfccanbbbjkaaGreatDoor
namespace Go.Proofs.YtdbfccanbbbjkaaGreatDoor
variable {E:EnvM} {M:Mn} {K:Kn} {S:List Atom} {i j k:Nat} {d:Domain} {p:Problem} {W:Wd}
def EqE (ns bs:List Bs) (E:EnvM):Prop:=∀ x,valN ns bs x=valE E x
theorem EqE.cons {ns bs:List Bs} (h:EqE ns bs E) (x a:Bs):EqE (x::ns) (a::bs) (setE E x a):=fun y=>by
 unfold valE setE;rw [valN];by_cases e:x=y
 ·rw [if_pos e,if_pos e.symm];rfl
 rw [if_neg e,if_neg (fun h=>e h.symm)];exact h y
theorem EqE.bnd {ns bs:List Bs} (h:EqE ns bs E) (n:Bs) (l:List Bs):bndA E n l=⟨n,l.map (valN ns bs)⟩:=by
 unfold bndA;rw [List.map_congr_left (fun x _=>(h x).symm)]
theorem YlS {p a:Bs} {ns bs:List Bs} {x:Bs}:∀ {l m:List Bs},l.length=m.length->p ∉ l->valN (l++p::ns) (m++a::bs) x=valN (p::(l++ns)) (a::(m++bs)) x
 | [],[],_,_=>rfl
 | [],_::_,h,_=>by cases h
 | _::_,[],h,_=>by cases h
 | y::l,b::m,h,hp=>by
  show valN (y::(l++p::ns)) (b::(m++a::bs)) x=valN (p::y::(l++ns)) (a::b::(m++bs)) x;have hi:=YlS (p:=p) (a:=a) (ns:=ns) (bs:=bs) (x:=x) (l:=l) (m:=m) (by simpa using h) (fun h1=>hp (by simp [h1]));rw [valN,valN,valN,hi,valN];by_cases e1:y=x
  ·rw [if_pos e1];by_cases e2:p=x
   ·exact absurd (e2.trans e1.symm) (fun e=>hp (by simp [e]))
   rw [if_neg e2,if_pos e1]
  rw [if_neg e1,if_neg e1]
theorem EqE.ext:∀ {ps:List Param} {as_ ns bs:List Bs} {E:EnvM},as_.length=ps.length->(parN ps).Nodup->EqE ns bs E->EqE (parN ps++ns) (as_++bs) (extE E ps as_)
 | [],[],_,_,_,_,_,h=>h
 | [],_::_,_,_,_,hl,_,_=>by cases hl
 | _::_,[],_,_,_,hl,_,_=>by cases hl
 | p::ps,a::as_,ns,bs,E,hl,hn,h=>fun x=>by
  have hl':as_.length=ps.length:=by simpa using hl
  have hn':p.name ∉ parN ps/\(parN ps).Nodup:=List.nodup_cons.1 hn;have h1:=EqE.ext hl' hn'.2 (h.cons p.name a) x;rw [YlS (by rw [YfD];exact hl'.symm) hn'.1] at h1;exact h1
theorem YlU {o l:List Bs} (h:¬TwP o l):l.Nodup:=by
 rw [List.nodup_iff_pairwise_ne,List.pairwise_iff_getElem];intro i j hi hj hij e;refine h ⟨j,l[j],List.getElem?_eq_getElem hj,List.mem_append_right _ ?_⟩;rw [<- e];exact Zm (i:=i) (by rw [List.getElem?_take_of_lt hij];exact List.getElem?_eq_getElem hi)
structure InvW (K:Kn) (S:List Atom) (W:Wd):Prop where
 sub:∀ a∈W.atoms,a∈S
 st:∀ a∈K.init,K.chg a.name=false->a∈W.atoms
theorem YdD {K:Kn} {M:Mn} (ho:∀ t,ofN M t=ofK K t) {al:Bool} {hw:List Bs->List Bs->Bool} {he:EnvM->Bool} (hh:∀ ns bs E,EqE ns bs E->hw ns bs=true->he E=true):
 ∀ (ps:List Param) {ns bs:List Bs} {E:EnvM},EqE ns bs E->quantW M al hw ps ns bs=true->quantV K al he ps E=true
 | [],_,_,_,h,g=>by rw [quantW] at g;rw [quantV];exact hh _ _ _ h g
 | p::ps,_,_,_,h,g=>by
  rw [quantW,ho] at g;rw [quantV];cases al with
  | true=>
   rw [if_pos rfl,List.all_eq_true] at g ⊢;exact fun o hi=>YdD ho hh ps (h.cons _ _) (g o hi)
  | false=>
   rw [if_neg Zh,List.any_eq_true] at g ⊢;obtain ⟨o,hi,g⟩:=g;exact ⟨o,hi,YdD ho hh ps (h.cons _ _) g⟩
theorem relax {K:Kn} {M:Mn} {S:List Atom} {W:Wd} (ho:∀ t,ofN M t=ofK K t) (hI:InvW K S W):∀ (s:Nat) {f:Formula} {ns bs:List Bs} {E:EnvM},SizeOf.sizeOf f<=s->HSh f->EqE ns bs E->holdsW M W ns bs f=true->holdsM K S E f=true
 | 0,f,_,_,_,hs,_,_,_=>by cases f;simp at hs
 | s+1,f,ns,bs,E,hs,hf,hE,h=>by
  rw [YgE] at h;rw [YQ];by_cases c1:f.op=kAtom
  ·rw [if_pos c1] at h ⊢;rw [hE.bnd];exact decide_eq_true (hI.sub _ (Zt h))
  rw [if_neg c1] at h ⊢;by_cases c2:f.op=kSame
  ·rw [if_pos c2] at h ⊢;rw [hE,hE] at h;exact h
  rw [if_neg c2] at h ⊢;by_cases c3:f.op=kNot
  ·rw [if_pos c3] at h ⊢;cases hk:f.kids with
   | nil=>rw [notH]
   | cons g r=>
    rw [hk,headW,YgE] at h;rw [notH];rcases hf.neg c3 g (by rw [hk];simp) with e | e
    ·have e2:¬g.op=kSame:=by rw [e];decide+kernel
     rw [if_pos e] at h;rw [if_neg e2];by_cases hc:K.chg g.name=true
     ·rw [hc];rfl
     have hc:K.chg g.name=false:=by simpa using hc
     have hx:bndA E g.name g.args ∉ K.init:=fun hin=>by
      have h1:=hI.st _ hin hc;rw [hE.bnd] at h1;rw [decide_eq_true h1] at h;cases h
     rw [hc,decide_eq_false hx];rfl
    have e2:¬g.op=kAtom:=by rw [e];decide+kernel
    rw [if_neg e2,if_pos e,hE,hE] at h;rw [if_pos e,YQ,if_neg e2,if_pos e];exact h
  rw [if_neg c3] at h ⊢;have hkid:∀ g∈f.kids,∀ {ns bs E},EqE ns bs E->holdsW M W ns bs g=true->holdsM K S E g=true:=fun g hg _ _ _ hE hh=>
   relax ho hI s (by have:=Formula.kids_lt hg;omega) (hf.kid hg) hE hh
  by_cases c4:f.op=kAnd
  ·rw [if_pos c4] at h ⊢;rw [Yjb] at h;rw [Yjc];simp only [Bool.not_eq_true',decide_eq_false_iff_not] at h ⊢;exact fun ⟨g,hg,hn⟩=>h ⟨g,hg,fun hh=>hn (hkid g hg hE hh)⟩
  rw [if_neg c4] at h ⊢;by_cases c5:f.op=kOr
  ·rw [if_pos c5] at h ⊢;rw [Yi8] at h;rw [Yi9];obtain ⟨g,hg,hn⟩:=Zt h;exact decide_eq_true ⟨g,hg,hkid g hg hE hn⟩
  rw [if_neg c5] at h ⊢;by_cases c6:QuF f.op
  ·rw [if_pos c6] at h ⊢;refine YdD ho (fun ns bs E hE hw=>?_) _ hE h;cases hk:f.kids with
   | nil=>rw [headH]
   | cons g r=>
    rw [hk,headW] at hw;rw [headH];exact hkid g (by rw [hk];simp) hE hw
  rw [if_neg c6]
def Yhp (M:Mn):List Param->List Bs->Prop
 | [],[]=>True
 | p::ps,x::xs=>x∈ofN M p.typ/\Yhp M ps xs
 | _,_=>False
theorem Yhp.len {M:Mn}:∀ {ps:List Param} {l:List Bs},Yhp M ps l->l.length=ps.length
 | [],[],_=>rfl
 | p::ps,x::xs,h=>by simp [Yhp.len h.2]
 | [],_::_,h=>h.elim
 | _::_,[],h=>h.elim
theorem Yn8 {M:Mn}:∀ {ps:List Param} {l:List Bs},l.length=ps.length->(∀ (i:Nat) (x:Bs) (p:Param),l[i]?=some x->ps[i]?=some p->x∈ofN M p.typ)->Yhp M ps l
 | [],[],_,_=>trivial
 | [],_::_,h,_=>by cases h
 | _::_,[],h,_=>by cases h
 | p::ps,x::l,h,hh=>⟨hh 0 x p rfl rfl,Yn8 (by simpa using h) (fun i y q hy hq=>hh (i+1) y q (by simpa using hy) (by simpa using hq))⟩
theorem Yiz {M:Mn}:∀ {ps:List Param} {out:List (List Bs)} {l:List Bs},l∈ps.foldl (YeQ M) out↔∃ l0∈out,∃ t,Yhp M ps t/\l=l0++t
 | [],out,l=>by
  constructor
  ·intro h;exact ⟨l,h,[],trivial,(List.append_nil l).symm⟩
  rintro ⟨l0,h,t,ht,rfl⟩;cases t with
  | nil=>rw [List.append_nil];exact h
  | cons x t=>exact ht.elim
 | p::ps,out,l=>by
  rw [List.foldl_cons,Yiz];constructor
  ·rintro ⟨l1,h1,t,ht,rfl⟩;obtain ⟨l0,h0,h1⟩:=List.mem_flatMap.1 h1;obtain ⟨o,ho,rfl⟩:=List.mem_map.1 h1;exact ⟨l0,h0,o::t,⟨ho,ht⟩,by simp⟩
  rintro ⟨l0,h0,t,ht,rfl⟩;cases t with
  | nil=>exact ht.elim
  | cons o t=>exact ⟨l0++ [o],List.mem_flatMap.2 ⟨l0,h0,List.mem_map.2 ⟨o,ht.1,rfl⟩⟩,t,ht.2,by simp⟩
theorem Yn7 {ps:List Param} {l:List Bs} (h:l∈tupM M ps):Yhp M ps l:=by
 unfold tupM at h;split at h
 ·cases h
 obtain ⟨l0,h0,t,ht,rfl⟩:=Yiz.1 h;simp at h0;subst h0;exact ht
theorem YmL {K:Kn} {M:Mn} (ho:∀ t,ofN M t=ofK K t) (hm:M.os.length<=6):∀ (ps:List Param) (out:List (List Bs)) (n:Nat),out.length<=6 ^ n->n+ps.length<=3->ps.foldl (YdZ K 4096) out=ps.foldl (YeQ M) out
 | [],_,_,_,_=>rfl
 | p::ps,out,n,h,hn=>by
  rw [List.length_cons] at hn;have h1:(YeQ M out p).length<=6 ^ (n+1):=by
   have:=Yj0 hm out p;rw [Nat.pow_succ];omega
  have h2:6 ^ (n+1)<=6 ^ 3:=Nat.pow_le_pow_right Zh Zi;have e:YdZ K 4096 out p=YeQ M out p:=by
   unfold YdZ;rw [<- ho];exact Zl (by show (YeQ M out p).length<=_;omega)
  rw [List.foldl_cons,List.foldl_cons,e];exact YmL ho hm ps _ (n+1) h1 Zi
theorem mem_comb (ho:∀ t,ofN M t=ofK K t) (hm:M.os.length<=6) {ps:List Param} (h3:ps.length<=3) {l:List Bs} (h:Yhp M ps l):l∈Yc4 K ps 4096:=by
 unfold Yc4;rw [YmL ho hm ps [[]] 0 Zh Zi];exact Yiz.2 ⟨[],by simp,l,h,rfl⟩
theorem Ykl {α:Type} {f:List Atom × Bool->α->List Atom × Bool} (hf:∀ r x,r.2=true->(f r x).2=true):∀ (l:List α) (r:List Atom × Bool),r.2=true->(l.foldl f r).2=true
 | [],_,h=>h
 | x::l,r,h=>Ykl hf l _ (hf r x h)
theorem YiO {α:Type} {f:List Atom × Bool->α->List Atom × Bool} (hf:∀ r x,r.2=true->(f r x).2=true) {S:List Atom} (hs:∀ x,(f (S,false) x).2=false->f (S,false) x=(S,false)):∀ {l:List α},(l.foldl f (S,false)).2=false->∀ x∈l,(f (S,false) x).2=false
 | [],_,x,hx=>by cases hx
 | y::l,h,x,hx=>by
  rw [List.foldl_cons] at h;have h1:(f (S,false) y).2=false:=by
   cases hc:(f (S,false) y).2 with
   | false=>rfl
   | true=>rw [Ykl hf l _ hc] at h;cases h
  rw [hs y h1] at h;rcases List.mem_cons.1 hx with rfl | hx
  ·exact h1
  exact YiO hf hs h x hx
theorem YkL {c:Change} (hS:S.length<=4096) {p:Param} {ps:List Param} (h:(addM K c (p::ps) E S).2=false):∀ o∈ofK K p.typ,(addM K c ps (setE E p.name o) S).2=false:=fun o ho=>by
 have hl:¬4096<((S,false):List Atom × Bool).1.length:=by show ¬4096<S.length;omega
 rw [addM] at h;have h1:=YiO (S:=S) (fun r x hr=>by split<;>simp [hr]) (fun x hx=>by
  rw [if_neg hl] at hx ⊢;simp only [Bool.or_false] at hx ⊢;rw [hx,(Yel K c ps (setE E p.name x) S).2.2 hx]) h o ho
 rw [if_neg hl] at h1;simpa only [Bool.or_false] using h1
theorem YmV {K:Kn} {M:Mn} (ho:∀ t,ofN M t=ofK K t) {c:Change} {S:List Atom} (hS:S.length<=4096):∀ {ps:List Param} {E:EnvM},(addM K c ps E S).2=false->∀ {l:List Bs},Yhp M ps l->holdsM K S (extE E ps l) c.when_=true->bndA (extE E ps l) c.name c.args∈S
 | [],E,h,[],_,hh=>by
  rw [addM] at h;split at h
  ·cases h
  rename_i hn;exact Classical.byContradiction fun h1=>hn ⟨h1,hh⟩
 | [],_,_,_::_,ht,_=>ht.elim
 | _::_,_,_,[],ht,_=>ht.elim
 | p::ps,E,h,o::l,ht,hh=>YmV ho hS (YkL hS h o (by rw [<- ho];exact ht.1)) ht.2 hh
theorem YkK {l:List Change} (h:(Wz K l E S).2=false):∀ c∈l,(addM K c c.params E S).2=false:=by
 rw [Wz] at h;intro c hc;have h1:=YiO (S:=S) (fun r x hr=>by simp [hr]) (fun x hx=>by
  simp only [Bool.or_false] at hx ⊢;rw [hx,(Yel K x x.params E S).2.2 hx]) h c hc
 simpa using h1
theorem Yii {K:Kn} {s:Schema}:∀ (k:Nat) {st:RowS},st.bs.length=s.arguments.length->st.ds.length=s.arguments.length->(rowN K s k st).n=false->∀ j,j<k->∀ a,s.arguments[j]?=some a->(XC K s a st.S (st.bs[j]?.getD false) (st.ds[j]?.getD false)).n=false
 | 0,_,_,_,_,j,hj,_,_=>absurd hj Zi
 | k+1,st,hb,hd,h,j,hj,a,ha=>by
  obtain ⟨_,_,_,_,_,g6⟩:=YdS K s k st hb hd;cases hk:s.arguments[k]? with
  | none=>
   rw [rowN,hk] at h;have:j≠k:=fun e=>by rw [e,hk] at ha;cases ha
   exact Yii k hb hd h j Zi a ha
  | some a'=>
   rw [Yf3 hk] at h;obtain ⟨h1,h2⟩:=(Bool.or_eq_false_iff.1 h:_=false/\_=false);rcases Nat.lt_or_ge j k with hjk | hjk
   ·exact Yii k hb hd h2 j hjk a ha
   have e:j=k:=by omega
   subst e;rw [hk] at ha;injection ha with ha
   subst ha;rw [g6 h2] at h1;exact h1
theorem Yij {K:Kn} {l:List Schema}:∀ (k:Nat) {w:RndS},FitR l w.B->FitR l w.D->(rndN K l k w).n=false->∀ i,i<k->∀ s,l[i]?=some s->(rowN K s s.arguments.length ⟨w.S,w.B[i]?.getD [],w.D[i]?.getD [],false⟩).n=false
 | 0,_,_,_,_,i,hi,_,_=>absurd hi Zi
 | k+1,w,hB,hD,h,i,hi,s,hs=>by
  obtain ⟨_,_,_,g4,_,g6⟩:=Yf6 K l k w hB hD;cases hk:l[k]? with
  | none=>
   rw [rndN,hk] at h;have:i≠k:=fun e=>by rw [e,hk] at hs;cases hs
   exact Yij k hB hD h i Zi s hs
  | some s'=>
   rw [Yf5 hk] at h;have h':(rowN K s' s'.arguments.length ⟨(rndN K l k w).S,(rndN K l k w).B[k]?.getD [],(rndN K l k w).D[k]?.getD [],(rndN K l k w).n⟩).n=false:=h;obtain ⟨fB,fD⟩:=YdT (K:=K) k hB hD;have hlt:=(Zg hk).1;obtain ⟨b,hb⟩:=Ye (l:=(rndN K l k w).B) (k:=k) (by rw [fB.1];exact hlt);obtain ⟨d,hd⟩:=Ye (l:=(rndN K l k w).D) (k:=k) (by rw [fD.1];exact hlt);have h2:(rndN K l k w).n=false:=by
    cases hn:(rndN K l k w).n with
    | false=>rfl
    | true=>
     obtain ⟨_,_,_,q4,_,_⟩:=YdS K s' s'.arguments.length ⟨(rndN K l k w).S,(rndN K l k w).B[k]?.getD [],(rndN K l k w).D[k]?.getD [],(rndN K l k w).n⟩ (by rw [hb];exact fB.2 k s' b hk hb) (by rw [hd];exact fD.2 k s' d hk hd);rw [q4 hn] at h';cases h'
   rcases Nat.lt_or_ge i k with hik | hik
   ·exact Yij k hB hD h2 i hik s hs
   have e:i=k:=by omega
   subst e;rw [hk] at hs;injection hs with hs
   subst hs;have e2:=g6 h2;rw [e2] at h';rw [e2] at h2;rw [h2] at h';exact h'
theorem Yms {l:List Schema} {B D:List (List Bool)} (hB:FitR l B) (hD:FitR l D) (h:Xq K l S B D=⟨S,B,D,false⟩) {s:Schema} {a:List Bs} (hs:l[i]?=some s) (ha:s.arguments[j]?=some a):
 ∃ b d x y,B[i]?=some b/\D[i]?=some d/\b[j]?=some x/\d[j]?=some y/\(XC K s a S x y).n=false:=by
 have hi:=(Zg hs).1;have hj:=(Zg ha).1;obtain ⟨b,hb⟩:=Ye (l:=B) (k:=i) (by rw [hB.1];exact hi);obtain ⟨d,hd⟩:=Ye (l:=D) (k:=i) (by rw [hD.1];exact hi);have lb:=hB.2 i s b hs hb;have ld:=hD.2 i s d hs hd;obtain ⟨x,hx⟩:=Ye (l:=b) (k:=j) Zi;obtain ⟨y,hy⟩:=Ye (l:=d) (k:=j) Zi;have h1:=Yij (K:=K) l.length (w:=⟨S,B,D,false⟩) hB hD (by
  have:(Xq K l S B D).n=false:=by rw [h]
  exact this) i hi s hs
 rw [hb,hd] at h1;have h2:=Yii s.arguments.length (st:=⟨S,b,d,false⟩) lb ld h1 j hj a ha;rw [hx,hy] at h2;exact ⟨b,d,x,y,hb,hd,hx,hy,h2⟩
theorem inst_act {s:Schema} {a:List Bs} {x y:Bool} (h:(XC K s a S x y).n=false) (he:s.early=[]) (hst:s.start=s.all) (hh:holdsM K S (envA s a) s.all=true):y=true/\(Wz K s.late (envA s a) S).2=false:=by
 have e0:Wz K [] (envA s a) S=(S,false):=rfl;simp only [XC,hst,hh,he,e0,Bool.or_true,Bool.and_true,if_true,Bool.or_eq_false_iff,Bool.not_eq_false'] at h;exact ⟨h.2.2.1,h.1⟩
theorem Ye0 {α:Type} {E:α->Int}:∀ {l:List (Bs × α)},(Y5 E l).2=0->∀ p∈l,E p.2=0
 | [],_,p,hp=>by cases hp
 | q::l,h,p,hp=>by
  rw [Y5] at h;split at h
  ·rename_i h0;rcases List.mem_cons.1 hp with rfl | hp
   ·exact h0
   exact Ye0 h p hp
  rename_i h0;exact absurd h h0
theorem YhR {α:Type} {E:α->Int}:∀ {l:List α},Yay E l=0->∀ p∈l,E p=0
 | [],_,p,hp=>by cases hp
 | q::l,h,p,hp=>by
  rw [Yay] at h;split at h
  ·rename_i h0;rcases List.mem_cons.1 hp with rfl | hp
   ·exact h0
   exact YhR h p hp
  rename_i h0;exact absurd h h0
theorem actK_of (hc:(Y3 d p).2=0) {a:Action} (ha:a∈d.actions):(parN a.params).Nodup/\∀ c∈a.changes,(parN c.params).Nodup/\((c.kind=1\/c.kind=2)->chgK d c.name=true):=by
 have hok:=YkD hc;have s1:(Y5 (fun l=>if TwP [] (parN l) then 4 else 0) (YbG d [])).2=0:=hok.step 1 Zh;have s5:(Y5 idN (YaS d (objsM d p))).2=0:=hok.step 5 Zh;have t1:=Ye0 s1 (Wr++a.name,a.params) (List.mem_append_right _ (List.mem_append_right _ (List.mem_append_right _ (List.mem_append_left _ (List.mem_map.2 ⟨a,ha,rfl⟩)))));refine ⟨YlU (o:=[]) (fun h=>by
  have t1:(if TwP [] (parN a.params) then (4:Int) else 0)=0:=t1;rw [if_pos h] at t1;cases t1),fun c hcm=>?_⟩
 have t5:XY d (objsM d p) a.params a.changes false=0:=Ye0 s5 ((Wr++a.name)++wEff,XY d (objsM d p) a.params a.changes false) (List.mem_append_left _ (List.mem_flatMap.2 ⟨a,ha,.tail _ (.head _)⟩));have t6:YaQ d (objsM d p) a.params c false=0:=YhR t5 c hcm;unfold YaQ at t6;split at t6
 ·cases t6
 split at t6
 ·cases t6
 rename_i h2;split at t6
 ·cases t6
 split at t6
 ·rename_i h;exact absurd t6 h
 refine ⟨YlU h2,fun hk=>?_⟩;have hn:¬NumC c:=fun h=>by
  rcases hk with e | e
  ·exact h.1 e
  exact h.2 e
 rw [if_pos hn] at t6;unfold atomM at t6;split at t6
 ·cases t6
 rename_i q hq;unfold fstP at hq;have h3:∃ q∈d.predicates,q.name=c.name:=⟨q,List.mem_of_find?_eq_some hq,by simpa using List.find?_some hq⟩;have h4:∃ a∈d.actions,YmX c.name a:=⟨a,ha,c,hcm,hk,rfl⟩;unfold chgK chgM;rw [decide_eq_true h3,decide_eq_true (.inl h4)];rfl
theorem Yph {l:List Schema} {D:List (List Bool)} {s:Schema} {b:List Bool} {a:List Bs} (hs:l[i]?=some s) (hb:D[i]?=some b) (ha:s.arguments[j]?=some a) (hx:b[j]?=some true):(s.name,a)∈YcW l D:=
 List.mem_flatMap.2 ⟨(s,b),Zm (List.getElem?_zip_eq_some.2 ⟨hs,hb⟩),List.mem_map.2 ⟨(a,true),List.mem_filter.2 ⟨Zm (List.getElem?_zip_eq_some.2 ⟨ha,hx⟩),rfl⟩,rfl⟩⟩
theorem YmD {a:Action} {as_:List Bs} {k:Int} {z:Atom} (h:z∈fireM M W a as_ k):∃ c∈a.changes,c.kind=k/\∃ l,Yhp M c.params l/\holdsW M W (nmC a c) (l++as_) (normV c.when_)=true/\z=⟨c.name,c.args.map (valN (nmC a c) (l++as_))⟩:=by
 obtain ⟨c,hcm,h⟩:=List.mem_flatMap.1 h;unfold Yfv at h;split at h
 ·rename_i hk;obtain ⟨l,hl,rfl⟩:=List.mem_map.1 h;obtain ⟨h1,h2⟩:=List.mem_filter.1 hl;exact ⟨c,hcm,hk,l,Yn7 h1,h2,rfl⟩
 cases h
theorem inv_step (hc:(Y3 d p).2=0) (hf:Fit14 d p) (hap:Apt d p) (hsch:schE (knM d p) d=0) {B D:List (List Bool)} (hS:S.length<=4096) (hB:FitR (schL (knM d p) d) B) (hD:FitR (schL (knM d p) d) D) (hfix:Xq (knM d p) (schL (knM d p) d) S B D=⟨S,B,D,false⟩) {W':Wd} {s:StepM} {a:Action} (hI:InvW (knM d p) S W) (ha:AppOk (mnM d p) W s a) (hw:StepW (mnM d p) W s a W'):InvW (knM d p) S W'/\s∈YcW (schL (knM d p) d) D:=by
 have ho:∀ t,ofN (mnM d p) t=ofK (knM d p) t:=fun t=>rfl
 have hos:(mnM d p).os.length<=6:=by show (d.constants++p.objects).length<=6;rw [List.length_append];exact hf.os
 have htyp:=ha.typ;have hmem:a∈d.actions:=htyp.mem;obtain ⟨k,hk,hname,_⟩:=htyp.fd;have hcmb:=mem_comb ho hos (hf.a a hmem).params (Yn8 htyp.len htyp.typ);have hsk:(schL (knM d p) d)[k]?=some (Ybi (knM d p) (schA a)):=by
  have hk':d.actions[k]?=some a:=hk;unfold schL schB;rw [List.getElem?_map,List.getElem?_append_left (by rw [List.length_map];exact (Zg hk').1),List.getElem?_map,hk'];rfl
 obtain ⟨j,hj⟩:=List.getElem?_of_mem hcmb;obtain ⟨b,dd,x,y,hb,hd,hx,hy,hn⟩:=Yms hB hD hfix hsk hj;have hssh:=hap.sh hsch _ (Zm hsk);obtain ⟨hnd,hch⟩:=actK_of hc hmem;have hE:EqE (nmA a) s.2 (envA (Ybi (knM d p) (schA a)) s.2):=by
  have:=EqE.ext (ns:=[]) (bs:=[]) (E:=fun _=>none) htyp.len hnd (fun x=>rfl);rw [List.append_nil,List.append_nil] at this;exact this
 obtain ⟨hy1,hadd⟩:=inst_act hn rfl rfl (relax ho hI _ (Zs _) hssh.all hE ha.pre);subst hy1;refine ⟨⟨fun z hz=>?_,fun z hz hch0=>(hw.mem z).2 (.inl ⟨hI.st z hz hch0,fun hz2=>?_⟩)⟩,?_⟩
 ·rcases (hw.mem z).1 hz with ⟨h1,_⟩ | h1
  ·exact hI.sub z h1
  obtain ⟨c,hcm,hk1,l,hT,hl,rfl⟩:=YmD h1;have hE2:=EqE.ext (ps:=c.params) hT.len (hch c hcm).1 hE;have hcn:{c with when_:=normV c.when_}∈normC a.changes:=List.mem_map.2 ⟨c,List.mem_filter.2 ⟨hcm,decide_eq_true hk1⟩,rfl⟩;have hfx:=YmV ho hS (YkK hadd _ hcn) hT (relax ho hI _ (Zs _) (hssh.late _ hcn).when_ hE2 hl);rw [hE2.bnd] at hfx;exact hfx
 ·obtain ⟨c,hcm,hk2,l,_,_,rfl⟩:=YmD hz2;have h1:chgK d c.name=false:=hch0;rw [(hch c hcm).2 (.inr hk2)] at h1;cases h1
 have h1:=Yph hsk hd hj hy;have e:s=(a.name,s.2):=by rw [hname]
 rw [e];exact h1
theorem YjD (hc:(Y3 d p).2=0) (hf:Fit14 d p) (hap:Apt d p) (hsch:schE (knM d p) d=0) {B D:List (List Bool)} (hS:S.length<=4096) (hB:FitR (schL (knM d p) d) B) (hD:FitR (schL (knM d p) d) D) (hfix:Xq (knM d p) (schL (knM d p) d) S B D=⟨S,B,D,false⟩)
 (hi:∀ a∈p.init,a∈S) {L:List StepM} {Ws:List Wd} {Ss:List StepM} (h:RunOk (mnM d p) p.init L Ws Ss):(∀ W∈Ws,InvW (knM d p) S W)/\∀ s∈Ss,s∈YcW (schL (knM d p) d) D:=by
 induction h with
 | nil h=>
  refine ⟨fun W hW=>?_,fun s hs=>by cases hs⟩;simp at hW;subst hW;exact ⟨fun a ha=>hi a ((h a).1 ha),fun a ha _=>(h a).2 (Yd6.1 ha)⟩
 | snoc _ _ ha hw ih=>
  obtain ⟨i1,i2⟩:=ih;obtain ⟨k1,k2⟩:=inv_step hc hf hap hsch hS hB hD hfix (i1 _ (by simp)) ha hw;refine ⟨fun X hX=>?_,fun t ht=>?_⟩
  ·rcases List.mem_append.1 hX with h | h
   ·exact i1 X h
   simp at h;subst h;exact k1
  rcases List.mem_append.1 ht with h | h
  ·exact i2 t h
  simp at h;subst h;exact k2
theorem YeE {K:Kn} {al:Bool} {h1 h2:EnvM->Bool} (hh:∀ E,h1 E=true->h2 E=true):∀ (ps:List Param) {E:EnvM},quantV K al h1 ps E=true->quantV K al h2 ps E=true
 | [],E,g=>by rw [quantV] at g ⊢;exact hh E g
 | p::ps,_,g=>by
  rw [quantV] at g ⊢;cases al with
  | true=>
   rw [if_pos rfl,List.all_eq_true] at g ⊢;exact fun o hi=>YeE hh ps (g o hi)
  | false=>
   rw [if_neg Zh,List.any_eq_true] at g ⊢;obtain ⟨o,hi,g⟩:=g;exact ⟨o,hi,YeE hh ps g⟩
theorem YeV {K:Kn} {S T:List Atom} (h:∀ a∈T,a∈S):∀ (s:Nat) {f:Formula} {E:EnvM},SizeOf.sizeOf f<=s->holdsM K T E f=true->holdsM K S E f=true
 | 0,f,_,hs,_=>by cases f;simp at hs
 | s+1,f,E,hs,g=>by
  have hkid:∀ x∈f.kids,∀ {E},holdsM K T E x=true->holdsM K S E x=true:=fun x hx _ hh=>YeV h s (by have:=Formula.kids_lt hx;omega) hh
  rw [YQ] at g ⊢;by_cases c1:f.op=kAtom
  ·rw [if_pos c1] at g ⊢;exact decide_eq_true (h _ (Zt g))
  rw [if_neg c1] at g ⊢;by_cases c2:f.op=kSame
  ·rw [if_pos c2] at g ⊢;exact g
  rw [if_neg c2] at g ⊢;by_cases c3:f.op=kNot
  ·rw [if_pos c3] at g ⊢;cases hk:f.kids with
   | nil=>rw [notH]
   | cons x r=>
    rw [hk,notH] at g;rw [notH];by_cases e:x.op=kSame
    ·have e2:¬x.op=kAtom:=by rw [e];decide+kernel
     rw [if_pos e,YQ,if_neg e2,if_pos e] at g;rw [if_pos e,YQ,if_neg e2,if_pos e];exact g
    rw [if_neg e] at g ⊢;exact g
  rw [if_neg c3] at g ⊢;by_cases c4:f.op=kAnd
  ·rw [if_pos c4,Yjc] at g ⊢;simp only [Bool.not_eq_true',decide_eq_false_iff_not] at g ⊢;exact fun ⟨x,hx,hn⟩=>g ⟨x,hx,fun hh=>hn (hkid x hx hh)⟩
  rw [if_neg c4] at g ⊢;by_cases c5:f.op=kOr
  ·rw [if_pos c5,Yi9] at g ⊢;obtain ⟨x,hx,hn⟩:=Zt g;exact decide_eq_true ⟨x,hx,hkid x hx hn⟩
  rw [if_neg c5] at g ⊢;by_cases c6:QuF f.op
  ·rw [if_pos c6] at g ⊢;refine YeE (fun E g=>?_) _ g;cases hk:f.kids with
   | nil=>rw [headH]
   | cons x r=>
    rw [hk,headH] at g;rw [headH];exact hkid x (by rw [hk];simp) g
  rw [if_neg c6]
def Wi (S T:List Atom):Prop:=T.Nodup/\∀ a∈T,a∈S
theorem YiN {α β:Type} {P:α->Prop} {f:α->β->α}:∀ {l:List β} {r:α},P r->(∀ r x,x∈l->P r->P (f r x))->P (l.foldl f r)
 | [],_,h,_=>h
 | x::l,r,h,hf=>YiN (l:=l) (hf r x (by simp) h) (fun r y hy=>hf r y (by simp [hy]))
theorem Yp9 {K:Kn} {c:Change} {S:List Atom} (hS:S.length<=4096):∀ {ps:List Param} {E:EnvM},(addM K c ps E S).2=false->∀ {T:List Atom},Wi S T->Wi S (addM K c ps E T).1
 | [],E,h,T,hT=>by
  rw [addM] at h ⊢;split
  ·rename_i hn;refine ⟨List.nodup_append.2 ⟨hT.1,by simp,fun x hx y hy e=>by simp at hy;subst hy;subst e;exact hn.1 hx⟩,fun a ha=>?_⟩;rcases List.mem_append.1 ha with h1 | h1
   ·exact hT.2 a h1
   simp at h1;subst h1;split at h
   ·cases h
   rename_i h2;exact Classical.byContradiction fun h1=>h2 ⟨h1,YeV hT.2 _ (Zs _) hn.2⟩
  exact hT
 | p::ps,E,h,T,hT=>by
  have h1:=YkL hS h;rw [addM];exact YiN (P:=fun r:List Atom × Bool=>Wi S r.1) hT (fun r o ho hr=>by
   split
   ·exact hr
   exact Yp9 hS (h1 o ho) hr)
theorem YmU {l:List Change} (hS:S.length<=4096) (h:(Wz K l E S).2=false) {T:List Atom} (hT:Wi S T):Wi S (Wz K l E T).1:=by
 have h1:=YkK h;rw [Wz];exact YiN (P:=fun r:List Atom × Bool=>Wi S r.1) hT (fun r c hc hr=>Yp9 hS (h1 c hc) hr)
theorem instM_wi {s:Schema} {a:List Bs} {x y:Bool} (hS:S.length<=4096) (h:(XC K s a S x y).n=false) {T:List Atom} {u v:Bool} (hT:Wi S T) (hu:u=true->x=true) (hv:v=true->y=true):
 Wi S (XC K s a T u v).S/\((XC K s a T u v).b=true->x=true)/\((XC K s a T u v).d=true->y=true):=by
 have hm:=fun f E=>YeV (K:=K) hT.2 _ (f:=f) (E:=E) (Zs _)
 obtain ⟨_,_,_,_,g5⟩:=YhO K s a S x y;obtain ⟨_,e2,e3⟩:=g5 h;have hb:(XC K s a T u v).b=true->x=true:=fun hb=>by
  rcases Bool.or_eq_true _ _ ▸ (show (u || holdsM K T (envA s a) s.start)=true from hb) with h1 | h1
  ·exact hu h1
  rw [<- e2];show (x || holdsM K S (envA s a) s.start)=true;rw [hm _ _ h1,Bool.or_true]
 have hd:(XC K s a T u v).d=true->y=true:=fun hd=>by
  rcases Bool.or_eq_true _ _ ▸ (show (v || ((XC K s a T u v).b && holdsM K T (envA s a) s.all))=true from hd) with h1 | h1
  ·exact hv h1
  obtain ⟨h1,h2⟩:=(Bool.and_eq_true _ _ ▸ h1:_/\_);rw [<- e3];show (y || ((XC K s a S x y).b && holdsM K S (envA s a) s.all))=true;rw [e2,hb h1,hm _ _ h2];simp
 refine ⟨?_,hb,hd⟩;have hx:(XC K s a S x y).b=true->(Wz K s.early (envA s a) S).2=false:=fun hb=>by
  have h':((if (XC K s a S x y).d=true then Wz K s.late (envA s a) (if (XC K s a S x y).b=true then Wz K s.early (envA s a) S else (S,false)).1 else ((if (XC K s a S x y).b=true then Wz K s.early (envA s a) S else (S,false)).1,false)).2 || ((if (XC K s a S x y).b=true then Wz K s.early (envA s a) S else (S,false)).2 || ((!y && (XC K s a S x y).d) || (!x && (XC K s a S x y).b))))=false:=h;rw [if_pos hb] at h';simp only [Bool.or_eq_false_iff] at h';exact h'.2.1
 have hy:(XC K s a S x y).d=true->(Wz K s.late (envA s a) S).2=false:=fun hd=>by
  have h':((if (XC K s a S x y).d=true then Wz K s.late (envA s a) (if (XC K s a S x y).b=true then Wz K s.early (envA s a) S else (S,false)).1 else ((if (XC K s a S x y).b=true then Wz K s.early (envA s a) S else (S,false)).1,false)).2 || ((if (XC K s a S x y).b=true then Wz K s.early (envA s a) S else (S,false)).2 || ((!y && (XC K s a S x y).d) || (!x && (XC K s a S x y).b))))=false:=h;have e:(if (XC K s a S x y).b=true then Wz K s.early (envA s a) S else (S,false)).1=S:=by
   split
   ·rename_i hb;exact (Ye7 K s.early (envA s a) S).2.2 (hx hb)
   rfl
  rw [if_pos hd,e] at h';simp only [Bool.or_eq_false_iff] at h';exact h'.1
 have h1:Wi S (if (XC K s a T u v).b=true then Wz K s.early (envA s a) T else (T,false)).1:=by
  split
  ·rename_i h1;exact YmU hS (hx (by rw [e2];exact hb h1)) hT
  exact hT
 show Wi S (if (XC K s a T u v).d=true then Wz K s.late (envA s a) (if (XC K s a T u v).b=true then Wz K s.early (envA s a) T else (T,false)).1 else ((if (XC K s a T u v).b=true then Wz K s.early (envA s a) T else (T,false)).1,false)).1;split
 ·rename_i h2;exact YmU hS (hy (by rw [e3];exact hd h2)) h1
 exact h1
def MkL (b c:List Bool):Prop:=∀ j:Nat,b[j]?.getD false=true->c[j]?.getD false=true
theorem MkL.set {b c:List Bool} (h:MkL b c) {x:Bool} (hx:x=true->c[k]?.getD false=true):MkL (b.set k x) c:=fun j hj=>by
 rw [List.getElem?_set] at hj;by_cases e:k=j
 ·subst e;rw [if_pos rfl] at hj;split at hj
  ·exact hx hj
  cases hj
 rw [if_neg e] at hj;exact h j hj
theorem Yos {K:Kn} {s:Schema} {S:List Atom} {b c:List Bool} (hS:S.length<=4096) (hf:∀ (j:Nat) (a:List Bs),s.arguments[j]?=some a->(XC K s a S (b[j]?.getD false) (c[j]?.getD false)).n=false):∀ (k:Nat) {st:RowS},Wi S st.S->MkL st.bs b->MkL st.ds c->Wi S (rowN K s k st).S/\MkL (rowN K s k st).bs b/\MkL (rowN K s k st).ds c
 | 0,_,h1,h2,h3=>⟨h1,h2,h3⟩
 | k+1,st,h1,h2,h3=>by
  obtain ⟨i1,i2,i3⟩:=Yos hS hf k h1 h2 h3;cases ha:s.arguments[k]? with
  | none=>rw [rowN,ha];exact ⟨i1,i2,i3⟩
  | some a=>
   rw [Yf3 ha];obtain ⟨j1,j2,j3⟩:=instM_wi hS (hf k a ha) i1 (i2 k) (i3 k);exact ⟨j1,i2.set j2,i3.set j3⟩
def MkB (B C:List (List Bool)):Prop:=∀ i:Nat,MkL (B[i]?.getD []) (C[i]?.getD [])
theorem MkB.set {B C:List (List Bool)} (h:MkB B C) {x:List Bool} (hx:MkL x (C[k]?.getD [])):MkB (B.set k x) C:=fun i=>by
 rw [List.getElem?_set];by_cases e:k=i
 ·subst e;rw [if_pos rfl];split
  ·exact hx
  intro j hj;cases hj
 rw [if_neg e];exact h i
theorem Yot {K:Kn} {l:List Schema} {S:List Atom} {B D:List (List Bool)} (hS:S.length<=4096) (hB:FitR l B) (hD:FitR l D) (hfix:Xq K l S B D=⟨S,B,D,false⟩):∀ (k:Nat) {w:RndS},Wi S w.S->MkB w.B B->MkB w.D D->Wi S (rndN K l k w).S/\MkB (rndN K l k w).B B/\MkB (rndN K l k w).D D
 | 0,_,h1,h2,h3=>⟨h1,h2,h3⟩
 | k+1,w,h1,h2,h3=>by
  obtain ⟨i1,i2,i3⟩:=Yot hS hB hD hfix k h1 h2 h3;cases hs:l[k]? with
  | none=>rw [rndN,hs];exact ⟨i1,i2,i3⟩
  | some s=>
   rw [Yf5 hs];obtain ⟨j1,j2,j3⟩:=Yos (b:=B[k]?.getD []) (c:=D[k]?.getD []) hS (fun j a ha=>by
    obtain ⟨b,c,x,y,hb,hd,hx,hy,hn⟩:=Yms hB hD hfix hs ha;rw [hb,hd];show (XC K s a S (b[j]?.getD false) (c[j]?.getD false)).n=false;rw [hx,hy];exact hn) s.arguments.length (st:=⟨(rndN K l k w).S,(rndN K l k w).B[k]?.getD [],(rndN K l k w).D[k]?.getD [],(rndN K l k w).n⟩) i1 (i2 k) (i3 k)
   exact ⟨j1,i2.set j2,i3.set j3⟩
theorem exF_wi {K:Kn} {l:List Schema} {S:List Atom} {B D:List (List Bool)} (hS:S.length<=4096) (hB:FitR l B) (hD:FitR l D) (hfix:Xq K l S B D=⟨S,B,D,false⟩):∀ (f:Nat) {w:RndS},Wi S w.S->MkB w.B B->MkB w.D D->Wi S (exF K l f w).S
 | 0,_,h1,_,_=>h1
 | f+1,w,h1,h2,h3=>by
  obtain ⟨i1,i2,i3⟩:=Yot hS hB hD hfix l.length (w:=⟨w.S,w.B,w.D,false⟩) h1 h2 h3;by_cases hc:(Xq K l w.S w.B w.D).n=false\/4096<(Xq K l w.S w.B w.D).S.length
  ·rw [YiU hc];exact i1
  rw [Yeg hc];exact exF_wi hS hB hD hfix f i1 i2 i3
theorem YpJ {l:List Schema} {D:List (List Bool)}:MkB (exN0 l) D:=fun i j hj=>by
 unfold exN0 at hj;rw [List.getElem?_map] at hj;cases h:l[i]? with
 | none=>rw [h] at hj;cases hj
 | some s=>
  rw [h] at hj;have hj:(List.replicate s.arguments.length false)[j]?.getD false=true:=hj;rw [List.getElem?_replicate] at hj;split at hj<;>cases hj
theorem YpI {S0:List Atom} (h:expE K d S0=0):schE K d=0/\(expM K d S0).S.length<=4096/\(∀ a∈S0,a∈(expM K d S0).S)/\FitR (schL K d) (expM K d S0).B/\FitR (schL K d) (expM K d S0).D/\Xq K (schL K d) (expM K d S0).S (expM K d S0).B (expM K d S0).D=⟨(expM K d S0).S,(expM K d S0).B,(expM K d S0).D,false⟩:=by
 unfold expE at h;split at h
 ·rename_i h1;exact absurd h h1
 rename_i h1;split at h
 ·cases h
 rename_i h2;obtain ⟨f1,f2,f3,f4⟩:=YgT (K:=K) (l:=schL K d) _ (w:=⟨S0,exN0 (schL K d),exN0 (schL K d),false⟩) (Nat.lt_succ_self _) (Yef _) (Yef _);exact ⟨Classical.not_not.1 h1,by omega,fun a ha=>f1.mem ha,f2,f3,f4.resolve_left h2⟩
theorem YpH {S0 T0 L:List Atom} (h1:Yjg S0 L) (h2:Yjg T0 L) (h:expE K d S0=0):expE K d T0=0:=by
 obtain ⟨e1,e2,e3,e4,e5,e6⟩:=YpI h;have hw:Wi (expM K d S0).S (expM K d T0).S:=exF_wi e2 e4 e5 e6 _ (w:=⟨T0,exN0 (schL K d),exN0 (schL K d),false⟩) ⟨h2.1,fun a ha=>e3 a ((h1.2 a).2 ((h2.2 a).1 ha))⟩ YpJ YpJ;have hl:=Ygm hw.1 hw.2;unfold expE;rw [if_neg (by rw [e1];decide),if_neg Zi]
end Go.Proofs.YtdbfccanbbbjkaaGreatDoor
namespace Go.Proofs.YtdbfccanbbbjkaaGreatDoor
variable {A B:Option Addr} {c n:Nat} {fz:FZ}
theorem texts_q {m d:Nat} {l l':List Bs} (h:Sl strL fz A n c l) (h':Sl strL fz B m d l'):QFn prog 23 [Zc A n c,Zc B m d] fz (Zo (decide (l=l'))):=by
 have ln:=h.len;have lm:=h'.len;have sn:=h.short;refine qF Tryz.func23 Tryz.ntmps23 (fun w0=>?_);refine wC ?_ ?_<;>intro c1
 ·exact wR (h:=by exact Yi (fun e=>by rw [e] at ln;omega))
 refine zW ?_;refine Wn n (fun k=>[(13,Zk k),(12,Zk n),(0,Zc A n c),(1,Zc B m d)]) [] (fun k=>(∀ i,i<k->l[i]?=l'[i]?)) (fun i hi=>absurd hi Zi) ?_;intro k hk hh;refine wC ?_ ?_<;>intro c2
 ·obtain ⟨x,hx⟩:=Ye (l:=l) (k:=k) Zi;obtain ⟨y,hy⟩:=Ye (l:=l') (k:=k) Zi;refine wI h hx (fun p1 hp1=>?_);refine zH hp1 (fun s1=>?_);refine wI h' hy (fun p2 hp2=>?_);refine zH hp2 (fun s2=>?_);refine wC ?_ ?_<;>intro c3
  ·exact wR (h:=by exact Yi (fun e=>c3 (by rw [e,hy] at hx;exact (Option.some.inj hx).symm)))
  refine zW ?_
  (exact Ww ⟨k+1,by omega,rfl,rfl,rfl,rfl,(fun i hi=>by
   rcases Nat.lt_or_ge i k with h1 | h1
   ·exact hh i h1
   have e:i=k:=by omega
   rw [e,hx,hy,c3])⟩ Zi Zw Zb)
 refine zW ?_
 (exact ret1 rfl rfl Zb (Yq (List.ext_getElem? fun i=>by
  rcases Nat.lt_or_ge i k with h1 | h1
  ·exact hh i h1
  rw [List.getElem?_eq_none Zi,List.getElem?_eq_none Zi])))
theorem stp_at {p:Addr} {x:StepM} (h:At Ya4 fz p x):At intL fz (p.add 0) 0:=h.part 0 fun cs hr=>by
 obtain ⟨va,rfl,hs,_⟩:=hr;exact ⟨_,rfl,rfl,XH⟩
theorem stp_nm {p:Addr} {x:StepM} (h:At Ya4 fz p x):At strL fz (p.add 1) x.1:=h.part 1 fun cs hr=>by
 obtain ⟨va,rfl,hs,_⟩:=hr;exact ⟨_,rfl,rfl,hs⟩
theorem Yl0 {p:Addr} {x:StepM} (h:At Ya4 fz p x):At (slL strL) fz (p.add 2) x.2:=h.part 2 fun cs hr=>by
 obtain ⟨va,rfl,_,A,n,c,rfl,hs⟩:=hr;exact ⟨_,rfl,A,n,c,rfl,hs⟩
theorem steps_q {m d:Nat} {l l':List StepM} (h:Sl Ya4 fz A n c l) (h':Sl Ya4 fz B m d l'):QFn prog 10 [Zc A n c,Zc B m d] fz (Zo (decide (l=l'))):=by
 have ln:=h.len;have lm:=h'.len;have sn:=h.short;refine qF Tryz.func10 Tryz.ntmps10 (fun w0=>?_);refine wC ?_ ?_<;>intro c1
 ·exact wR (h:=by exact Yi (fun e=>by rw [e] at ln;omega))
 refine zW ?_;refine Wn n (fun k=>[(5,Zk k),(0,Zc A n c),(1,Zc B m d)]) [] (fun k=>(∀ i,i<k->l[i]?=l'[i]?)) (fun i hi=>absurd hi Zi) ?_;intro k hk hh;refine wC ?_ ?_<;>intro c2
 ·obtain ⟨x,hx⟩:=Ye (l:=l) (k:=k) Zi;obtain ⟨y,hy⟩:=Ye (l:=l') (k:=k) Zi;refine zWN ?_;refine Y0 [] ?_;refine wI h hx (fun p1 hp1=>?_);refine wG ?_;refine Yb3 T Zz Zz Zz (stp_at hp1) (fun z1=>?_);refine wI h' hy (fun p2 hp2=>?_);refine wG ?_;refine Yb3 T Zz Zz Zz (stp_at hp2) (fun z2=>?_);refine zC ?_ ?_<;>intro c9
  ·exact absurd rfl c9
  refine wI h hx (fun p3 hp3=>?_);refine wH (stp_nm hp3) (fun z3=>?_);refine wI h' hy (fun p4 hp4=>?_);refine wH (stp_nm hp4) (fun z4=>?_);refine zC ?_ ?_<;>intro c3
  ·refine zW ?_;refine QK.dz ?_;refine Ch.done ?_;exact wR (h:=by exact Yi (fun e=>c3 (by rw [e,hy] at hx;rw [Option.some.inj hx])))
  refine wI h hx (fun p5 hp5=>?_);refine wG ?_;refine X8 (Yl0 hp5) (fun A5 n5 c5 z5=>?_);refine wI h' hy (fun p6 hp6=>?_);refine wG ?_;refine X8 (Yl0 hp6) (fun A6 n6 c6 z6=>?_);refine pU ?_;refine Ch.qkG Zj ⟨Zd,by intro p hp;cases hp⟩ (XL (texts_q z5 z6) (fun f1=>?_) (fun f1=>?_))
  ·have f1:=Zt f1;refine Ch.qkG Zj ⟨Zd,by intro p hp;cases hp⟩ (YjJ Zz ?_);refine Ch.qk ⟨Zd,by intro p hp;cases hp⟩ (WS Zz Zz ?_);refine Ch.done ?_;refine zW ?_
   (exact Ww ⟨k+1,by omega,rfl,rfl,rfl,rfl,(fun i hi=>by
    rcases Nat.lt_or_ge i k with h1 | h1
    ·exact hh i h1
    have e:i=k:=by omega
    rw [e,hx,hy,show x=y from Prod.ext c3 f1])⟩ Zi Zw Zb)
  have f1:=Zf f1;refine Ch.qkG Zj ⟨Zd,by intro p hp;cases hp⟩ (YjJ Zz ?_);refine Ch.qk ⟨Zd,by intro p hp;cases hp⟩ (WS Zz Zz ?_);refine Ch.done ?_;exact wR (h:=by exact Yi (fun e=>f1 (by rw [e,hy] at hx;rw [Option.some.inj hx])))
 refine zW ?_
 (exact ret1 rfl rfl Zb (Yq (List.ext_getElem? fun i=>by
  rcases Nat.lt_or_ge i k with h1 | h1
  ·exact hh i h1
  rw [List.getElem?_eq_none Zi,List.getElem?_eq_none Zi])))
end Go.Proofs.YtdbfccanbbbjkaaGreatDoor
