/- The texts QLm, QLp, GOpenA, POpenW, QRowIB, laid together. Conditions: none. -/
import Derived.Test.YtbnpeechpebmeaaGreatDoorRAV
import Derived.Lay
import Derived.LaidOnce
import Derived.Carry
import Derived.MakeChecks
import Derived.LaidSub
import Derived.Deep.DeepHandedRow
import Derived.Lib.LaidTab
import Derived.Shelf.Vars
import Derived.Deep.Slices
import Derived.SizedLaws
set_option linter.all false
set_option maxRecDepth 20000
namespace Go.Proofs.YtbnpeechpebmeaaGreatDoor
open Go.Lx Go.RowKit
attribute [local instance 10] Classical.propDecidable
def bD:Bs:=⟨#[100]⟩
def bP:Bs:=⟨#[112]⟩
def bOn:Bs:=⟨#[111,110]⟩
def Wi:Bs:=⟨#[115,101,101,110]⟩
def bKey:Bs:=⟨#[107,101,121]⟩
def Yjm:Bs:=⟨#[108,111,111,107]⟩
def atmF (n:Bs):Formula:=.mk kAtom n [] [] [] []
def addC (k:Int) (n:Bs):Change:=⟨k,[],Xk,n,[],nilE⟩
def YcA:Durative:=⟨Yjm,[],2,Xk,atmF bOn,Xk,[addC 1 bOn],[addC 1 Wi,addC 2 bOn]⟩
def Xn:Domain:=⟨bD,[],[],[⟨bOn,[]⟩,⟨Wi,[]⟩,⟨bKey,[]⟩],[],[],[YcA]⟩
def Yab:Problem:=⟨bP,bD,[],[],[],atmF Wi⟩
theorem nilP {α:Type} {p:α→Prop}:∀ x∈([]:List α),p x:=fun _ h=>by cases h
theorem YkF {s:Bs} (h1:0<s.size) (h2:s.size≤32) (h3:∀ b∈s.data.toList,LetP b.toNat) (h4:s.data.toList ∉ YaI.map (·.data.toList)):Xg s:=by
 refine ⟨fun i hi=>.inl ?_,fun h=>by rw [h] at h1;exact absurd h1 Zh,h2,fun h=>h4 (List.mem_map.2 ⟨s,h,rfl⟩)⟩
 obtain ⟨b,hb,hb2⟩:=YaV (s:=s) (k:=i) hi
 rw [hb2]
 refine h3 b ?_
 have:=Yj0 hi
 rw [getElem?_pos s i hi] at hb
 injection hb with hb
 rw [hb] at this
 exact Zm this
def WrdP (s:Bs):Prop:=0<s.size∧s.size≤32∧(∀ b∈s.data.toList,(97≤(b.toNat:Int)∧(b.toNat:Int)≤122)∨(48≤(b.toNat:Int)∧(b.toNat:Int)≤57)∨b∈SymL)∧¬PreP s Yb4∧¬DigP (Yar s 0)
instance {s:Bs}:Decidable (WrdP s):=inferInstanceAs (Decidable (_∧_))
theorem wd_ok {s:Bs} (h:WrdP s):WordT s:=by
 obtain ⟨h1,h2,h3,h4,h5⟩:=h
 refine ⟨fun h=>by rw [h] at h1;exact absurd h1 Zh,h2,h3,fun hn=>?_⟩
 have h6:=hn.1 0 (by rw [YbX,if_neg h4];exact h1)
 rw [YbX,if_neg h4] at h6
 exact h5 h6
theorem nD:Xg bD:=YkF Zh Zh (by unfold LetP;decide) Zh
theorem nP:Xg bP:=YkF Zh Zh (by unfold LetP;decide) Zh
theorem nOn:Xg bOn:=YkF Zh Zh (by unfold LetP;decide) Zh
theorem nSeen:Xg Wi:=YkF Zh Zh (by unfold LetP;decide) Zh
theorem nKey:Xg bKey:=YkF Zh Zh (by unfold LetP;decide) Zh
theorem nLook:Xg Yjm:=YkF Zh Zh (by unfold LetP;decide) Zh
theorem xl {ks:List Sexpr} (h:∀ k∈ks,XOk k):XOk (YJ ks):=Yaz.2 ⟨.inr (.inr ⟨rfl,rfl,rfl⟩),h⟩
theorem xw {s:Bs} (h:WordT s):XOk (Yh s):=Yaz.2 ⟨.inl ⟨rfl,h,rfl,rfl⟩,by intro k hk;cases hk⟩
theorem xc {k:Sexpr} {r:List Sexpr} (h:XOk k) (h2:∀ j∈r,XOk j):∀ j∈k::r,XOk j:=List.forall_mem_cons.2 ⟨h,h2⟩
theorem x0:∀ j∈([]:List Sexpr),XOk j:=nilP
theorem xk {s:Bs} {r:List Sexpr} (h:WrdP s) (h2:∀ j∈r,XOk j):∀ j∈Yh s::r,XOk j:=xc (xw (wd_ok h)) h2
theorem opA (l:List Formula):(andF l).op=kAnd:=rfl
theorem opT:Xk.op=kAnd:=rfl
theorem opM (n:Bs):(atmF n).op=kAtom:=rfl
theorem YdG:Y6 Xk=YJ []:=by
 rw [Yel]
 have h1:¬kAnd=kAtom:=by decide
 have h2:¬kAnd=kSame:=by decide
 have h3:¬CmpOp kAnd:=by unfold CmpOp;decide
 have h4:¬(kAnd=kForall∨kAnd=kExists):=by decide
 simp [Xk,Formula.op,Formula.kids,h1,h2,h3,h4]
theorem Yb5 (n:Bs):Y6 (atmF n)=XV n []:=by
 rw [Yel,opM,if_pos rfl];rfl
theorem Yic {l:List Formula} (h:l≠ []):Y6 (andF l)=YJ (Yh kAnd::l.map Y6):=by
 rw [Yel]
 have h1:¬kAnd=kAtom:=by decide
 have h2:¬kAnd=kSame:=by decide
 have h3:¬CmpOp kAnd:=by unfold CmpOp;decide
 have h4:¬(kAnd=kForall∨kAnd=kExists):=by decide
 simp [andF,Formula.op,Formula.kids,h1,h2,h3,h4,h]
theorem Yjb {l:List Formula} (h:∀ k∈l,FOk k):FOk (andF l):=by
 have h1:¬kAnd=kAtom:=by decide
 have h2:¬kAnd=kSame:=by decide
 have h3:¬CmpOp kAnd:=by unfold CmpOp;decide
 refine WG.2 ⟨⟨⟨fun h=>absurd h h1,fun h=>absurd h h2,fun h=>absurd h (by rw [opA];decide)⟩,⟨(0,false,l.length),?_,fun _ _=>⟨rfl,rfl⟩,rfl,rfl,fun _=>rfl⟩,nilP⟩,nilP,h⟩
 rw [YaX,opA,if_neg Zh,if_neg h3,if_pos (.inl rfl)];rfl
theorem Ymk {n:Bs} (h:Xg n):FOk (atmF n):=by
 refine WG.2 ⟨⟨⟨fun _=>h,fun h=>absurd h (by rw [opM];decide),fun _=>nilP⟩,⟨(0,false,0),?_,fun h=>absurd rfl h,rfl,rfl,fun _=>rfl⟩,nilP⟩,nilP,nilP⟩
 rw [YaX,opM,if_pos (.inl rfl)]
theorem xOn:XOk (XV bOn []):=xl (xk (by decide+kernel) x0)
theorem xSeen:XOk (XV Wi []):=xl (xk (by decide+kernel) x0)
theorem YdF:FVal Xk:=⟨Yjb (l:=[]) nilP,by rw [YdG];exact ⟨xl x0,by decide,by decide⟩⟩
theorem fv_on:FVal (atmF bOn):=⟨Ymk nOn,by rw [Yb5];exact ⟨xOn,by decide,by decide⟩⟩
theorem fv_seen:FVal (atmF Wi):=⟨Ymk nSeen,by rw [Yb5];exact ⟨xSeen,by decide,by decide⟩⟩
theorem xAnd {r:List Sexpr} (h:∀ j∈r,XOk j):XOk (YJ (Yh kAnd::r)):=xl (xk (by decide+kernel) h)
theorem fv_a1:FVal (andF [Xk]):=⟨Yjb (List.forall_mem_cons.2 ⟨YdF.1,nilP⟩),by
 rw [Yic (by simp)]
 simp only [List.map_cons,List.map_nil,YdG]
 exact ⟨xAnd (xc (xl x0) x0),by decide,by decide⟩⟩
theorem fv_a3:FVal (andF [Xk,atmF bOn,Xk]):=⟨Yjb (List.forall_mem_cons.2 ⟨YdF.1,List.forall_mem_cons.2 ⟨fv_on.1,List.forall_mem_cons.2 ⟨YdF.1,nilP⟩⟩⟩),by
 rw [Yic (by simp)]
 simp only [List.map_cons,List.map_nil,YdG,Yb5]
 exact ⟨xAnd (xc (xl x0) (xc xOn (xc (xl x0) x0))),by decide,by decide⟩⟩
theorem ch_ok {k:Int} {n:Bs} (hk:k=1∨k=2) (hn:Xg n):ChOk (addC k n):=⟨⟨hn,nilP⟩,.inl ⟨hk,rfl⟩,.inl rfl,nilP⟩
theorem lampU_ok:YkR YcA:=⟨nLook,nilP,YdF,fv_on,YdF,List.forall_mem_cons.2 ⟨ch_ok (.inl rfl) nOn,nilP⟩,List.forall_mem_cons.2 ⟨ch_ok (.inl rfl) nSeen,List.forall_mem_cons.2 ⟨ch_ok (.inr rfl) nOn,nilP⟩⟩⟩
theorem lampD_ok:DomOk Xn:=⟨nD,nilP,nilP,List.forall_mem_cons.2 ⟨⟨nOn,nilP⟩,List.forall_mem_cons.2 ⟨⟨nSeen,nilP⟩,List.forall_mem_cons.2 ⟨⟨nKey,nilP⟩,nilP⟩⟩⟩,nilP,nilP,List.forall_mem_cons.2 ⟨lampU_ok,nilP⟩⟩
theorem lampP_ok:PrbOk Yab:=⟨nP,nD,nilP,nilP,nilP⟩
theorem chX_1 (n:Bs):chX (addC 1 n)=XV n []:=by simp [chX,chX2,chX1,addC,Num5]
theorem chX_2 (n:Bs):chX (addC 2 n)=YJ [Yh kNot,XV n []]:=by simp [chX,chX2,chX1,addC,Num5]
theorem atm_ne (n:Bs):¬atmF n=Xk:=fun h=>absurd (congrArg Formula.op h) (by show ¬kAtom=kAnd;decide)
theorem durX_l:durX YcA=YJ [Yh Y4,Yh Yjm,Yh Wv,numE 2,Yh Yh5,XV bOn [],Yh Ycg,YJ [Yh kAnd,XV bOn []],Yh Yh6,YJ [Yh kAnd,XV Wi [],YJ [Yh kNot,XV bOn []]]]:=by
 simp [durX,YcA,opt,effX,chX_1,chX_2,atm_ne,Yb5]
theorem domX_l:domX Xn=YJ [Yh YQ,YJ [Yh Xh,Yh bD],YJ [Yh WJ,YJ [Yh bOn],YJ [Yh Wi],YJ [Yh bKey]],durX YcA]:=by
 simp [domX,Xn,grp,W0,YgH]
theorem Yl7:XVal (domX Xn):=by
 rw [domX_l,durX_l]
 refine ⟨?_,by decide,by decide⟩
 refine xl (xk (by decide+kernel) (xc (xl (xk (by decide+kernel) (xk (by decide+kernel) x0))) (xc (xl (xk (by decide+kernel) (xc xOn (xc xSeen (xc (xl (xk (by decide+kernel) x0)) x0))))) (xc ?_ x0))))
 refine xl (xk (by decide+kernel) (xk (by decide+kernel) (xk (by decide+kernel) (xc ?_ (xk (by decide+kernel) (xc xOn (xk (by decide+kernel) (xc (xAnd (xc xOn x0)) (xk (by decide+kernel) (xc (xAnd (xc xSeen (xc (xl (xk (by decide+kernel) (xc xOn x0))) x0))) x0))))))))))
 exact Yaz.2 ⟨.inr (.inl ⟨rfl,rfl,rfl,by unfold Yde;decide⟩),nilP⟩
theorem prbX_l:prbX Yab=YJ [Yh YQ,YJ [Yh Xy,Yh bP],YJ [Yh YZ,Yh bD],YJ [Yh Ycm,XV Wi []]]:=by
 have h:¬(kAtom=kAnd):=by decide
 simp [prbX,Yab,grp,W0,YkO,atmF,Formula.op,h]
 rw [show Y6 (Formula.mk kAtom Wi [] [] [] [])=_ from Yb5 Wi]
theorem Yl6:XVal (prbX Yab):=by
 rw [prbX_l]
 exact ⟨xl (xk (by decide+kernel) (xc (xl (xk (by decide+kernel) (xk (by decide+kernel) x0))) (xc (xl (xk (by decide+kernel) (xk (by decide+kernel) x0))) (xc (xl (xk (by decide+kernel) (xc xSeen x0))) x0)))),by decide,by decide⟩
theorem e1:¬Wi=bOn:=by decide
theorem e2:¬bKey=bOn:=by decide
theorem e3:¬bKey=Wi:=by decide
theorem l_names:Ya2 Xn []=none:=by simp [Ya2,YeV,YdX,Yf5,Xn,nmd,repM,e1,e2,e3]
theorem l_tw:¬TwP [] (parN []):=fun ⟨k,x,h,_⟩=>by simp [parN] at h
theorem l_ex:ExP [] []:=nilP
theorem l_atom {n:Bs} (h:n=bOn∨n=Wi):atomM Xn [] [] n []=0:=by
 have h1:fstP Xn.predicates n=some ⟨n,[]⟩:=by
  rcases h with rfl | rfl
  ·simp [fstP,Xn]
  ·simp [fstP,Xn,Ne.symm e1]
 rw [atomM,h1]
 simp [Yjn,Xb]
theorem l_true:formM Xn [] [] Xk=0:=by
 have h4:¬(YiE kAnd):=by unfold YiE;decide
 rw [Yem,if_neg Zh,if_neg (by show ¬ownM Xn [] [] kAnd [] []≠0;rw [ownM,if_neg Zh,if_neg h4];decide)]
 rw [if_neg (by show ¬exprML Xn [] _ []≠0;rw [exprML];decide)]
 show formML Xn [] _ []=0
 rw [formML]
theorem l_lit:LitP Xk:=YjT rfl |>.2 nilP
theorem l_atm {n:Bs} (h:n=bOn∨n=Wi):formM Xn [] [] (atmF n)=0:=by rw [Yem,opM,if_pos rfl];exact l_atom h
theorem l_litA (n:Bs):LitP (atmF n):=(YjS (by show ¬kAtom=kNot;decide) (by show ¬kAtom=kAnd;decide)).2 (.inl rfl)
theorem l_ch {k:Int} {n:Bs} (hk:k=1∨k=2) (h:n=bOn∨n=Wi):YaU Xn [] [] (addC k n) true=0:=by
 have hp:Ygl (addC k n):=⟨rfl,rfl⟩
 have hn:¬NumC (addC k n):=fun h=>by rcases hk with rfl | rfl;exact h.1 rfl;exact h.2 rfl
 rw [Ykf (vars:=[]) (fun h=>h.1 hp) l_tw l_ex,if_neg (by show ¬formM Xn [] [] Xk≠0;rw [l_true];decide),if_pos hn]
 exact l_atom h
theorem long_t:¬LongP Xk:=by rw [YcV];simp [Xk,Formula.params,Formula.kids]
theorem long_a (n:Bs):¬LongP (atmF n):=by rw [YcV];simp [atmF,Formula.params,Formula.kids]
theorem YjV:(XQ Xn Yab).2=0:=by
 have ho:objsM Xn Yab=[]:=rfl
 have hl:¬LargeM Xn Yab []:=by
  simp [LargeM,Xn,Yab,YcA,YkZ,YfQ,addC,long_t,long_a]
 have hn:newM Xn.types=0:=by
  show newM []=0
  rw [newM,if_neg l_tw];simp
 have h0:(stepM Xn [] Yab 0).2=0:=by simp [stepM,l_names]
 have h1:(stepM Xn [] Yab 1).2=0:=by simp [stepM,Ybo,Xn,YcA,Xb,l_tw]
 have h2:(stepM Xn [] Yab 2).2=0:=by simp [stepM,Ybo,Xn,YcA,Xb,l_ex]
 have h3:(stepM Xn [] Yab 3).2=0:=rfl
 have h4:(stepM Xn [] Yab 4).2=0:=by simp [stepM,numsL,Xn,YcA,Xb,YfP]
 have h5:(stepM Xn [] Yab 5).2=0:=by
  have a1:X0 Xn [] [] [addC 1 bOn] true=0:=by rw [X0,Yan,if_pos (l_ch (.inl rfl) (.inl rfl)),Yan]
  have a2:X0 Xn [] [] [addC 1 Wi,addC 2 bOn] true=0:=by rw [X0,Yan,if_pos (l_ch (.inl rfl) (.inr rfl)),Yan,if_pos (l_ch (.inr rfl) (.inl rfl)),Yan]
  have a3:W2 Xn [] [] Xk=0:=by rw [W2,if_pos l_lit];exact l_true
  have a4:W2 Xn [] [] (atmF bOn)=0:=by rw [W2,if_pos (l_litA _)];exact l_atm (.inl rfl)
  show (Xb idN (Yay Xn [])).2=0
  have:Yay Xn []=durL Xn [] YcA:=by simp [Yay,Xn]
  rw [this]
  simp only [durL,YcA,a1,a2,a3,a4]
  rfl
 have h6:(stepM Xn [] Yab 6).2=0:=by simp [stepM,WD,Xn,Yab,Yan,Ygq]
 have h7:(stepM Xn [] Yab 7).2=0:=by
  have a:W2 Xn [] [] Yab.goal=0:=by show W2 Xn [] [] (atmF Wi)=0;rw [W2,if_pos (l_litA _)];exact l_atm (.inr rfl)
  have e:(if Xn.duratives=[] then formM Xn [] [] Yab.goal else W2 Xn [] [] Yab.goal)=0:=by rw [if_neg (by simp [Xn])];exact a
  simp only [stepM,Yia,e,ne_eq,not_true_eq_false,if_false]
 rw [XQ,ho,if_neg (fun h=>h ⟨lampD_ok,Yl7⟩),if_neg (fun h=>h ⟨fv_seen,lampP_ok,Yl6⟩),if_neg hl,if_neg (fun h=>h hn)]
 simp only [Yc2,h0,h1,h2,h3,h4,h5,h6,h7,if_true,Nat.zero_add,Nat.reduceAdd]
theorem Yl4:domW Xn≤1300000:=by decide
theorem Yl3:prbW Yab≤1300000:=by decide
theorem YjW:Apt Xn Yab:=apt_of YjV Yl4 Yl3
theorem Yh1:ChkS Xn Yab:=YmF Yl4 Yl3
theorem YeR (l:List Formula):normM true (andF l)=joinF kAnd (l.map (normM true)):=by
 rw [WE,opA,if_neg Zh,if_neg Zh,if_pos rfl];rfl
theorem YlO (n:Bs):normM true (atmF n)=atmF n:=by
 have h:¬QuF kAtom:=by unfold QuF;decide
 rw [WE,opM,if_neg Zh,if_neg Zh,if_neg Zh,if_neg Zh,if_neg h,if_neg Zh,if_neg Zh,if_neg Zh,if_pos rfl]
theorem Ydy:normM true Xk=Xk:=YeR []
theorem norm_0:normV Xk=Xk:=by rw [normV,if_pos YdF,Ydy]
theorem norm_1:normV (andF [Xk])=Xk:=by rw [normV,if_pos fv_a1,YeR];simp only [List.map_cons,List.map_nil,Ydy];simp [joinF,joinL,Xk,Formula.op,Formula.kids]
theorem norm_3:normV (andF [Xk,atmF bOn,Xk])=andF [atmF bOn]:=by
 have h:¬kAtom=kAnd:=by decide
 rw [normV,if_pos fv_a3,YeR];simp only [List.map_cons,List.map_nil,Ydy,YlO];simp [joinF,joinL,Xk,atmF,andF,Formula.op,Formula.kids,h]
def aOn:Atom:=⟨bOn,[]⟩
def Ydb:Atom:=⟨Wi,[]⟩
theorem YgT (K:Kn) (S:List Atom) (E:EnvM):holdsM K S E Xk=true:=by
 rw [Y1,opT,if_neg Zh,if_neg Zh,if_neg Zh,if_pos rfl]
 show allH K S E []=true
 rw [allH]
theorem Yi7 (K:Kn) (S:List Atom) (E:EnvM):holdsM K S E (andF [atmF bOn])=decide (aOn∈S):=by
 rw [Y1,opA,if_neg Zh,if_neg Zh,if_neg Zh,if_pos rfl]
 show allH K S E [atmF bOn]=_
 rw [allH,allH,Bool.and_true,Y1,opM,if_pos rfl]
 rfl
noncomputable def s0:Schema:=⟨Yjm,[],Xk,andF [atmF bOn],normV (andF [atmF bOn]),Xk,[addC 1 bOn],[addC 1 Wi],false,[[]]⟩
theorem sch_l (K:Kn):schL K Xn=[s0]:=by
 have c1:normC [addC 1 bOn]=[addC 1 bOn]:=by simp [normC,addC,norm_0]
 have c2:normC [addC 1 Wi,addC 2 bOn]=[addC 1 Wi]:=by simp [normC,addC,norm_0]
 simp [schL,schB,Xn,YcA,schD,Ybb,c1,c2,norm_1,norm_3,YcG,s0]
variable {E:EnvM} {K:Kn} {S:List Atom}
theorem YmR {n:Bs}:YbU K [addC 1 n] E S=if (⟨n,[]⟩:Atom)∈S then (S,false) else (S++ [⟨n,[]⟩],true):=by
 simp only [YbU,List.foldl_cons,List.foldl_nil,addC,addM,YgT,bndA,List.map_nil]
 by_cases h:(⟨n,[]⟩:Atom)∈S<;>simp [h]
theorem YiR {s:Schema} {b d:Bool} (h:s.arguments=[[]]):XC K [s] S [[b]] [[d]]=⟨(Yam K s [] S b d).S,[[(Yam K s [] S b d).b]],[[(Yam K s [] S b d).d]],(Yam K s [] S b d).n⟩:=by
 simp [XC,rndN,stepW,rowN,Yku,h]
theorem on_ne:¬Ydb=aOn:=fun h=>e1 (congrArg Atom.name h)
theorem inst_1 (K:Kn):Yam K s0 [] [] false false=⟨[aOn],true,false,true⟩:=by
 have e:s0.early=[addC 1 bOn]:=rfl
 have l:s0.late=[addC 1 Wi]:=rfl
 have s:s0.start=Xk:=rfl
 have a:s0.all=andF [atmF bOn]:=rfl
 simp [Yam,e,l,s,a,YgT,Yi7,YmR,aOn]
theorem inst_2 (K:Kn):Yam K s0 [] [aOn] true false=⟨[aOn,Ydb],true,true,true⟩:=by
 have e:s0.early=[addC 1 bOn]:=rfl
 have l:s0.late=[addC 1 Wi]:=rfl
 have s:s0.start=Xk:=rfl
 have a:s0.all=andF [atmF bOn]:=rfl
 have o:=on_ne
 simp only [aOn,Ydb] at o
 simp [Yam,e,l,s,a,YgT,Yi7,YmR,aOn,Ydb,e1]
theorem inst_3 (K:Kn):Yam K s0 [] [aOn,Ydb] true true=⟨[aOn,Ydb],true,true,false⟩:=by
 have e:s0.early=[addC 1 bOn]:=rfl
 have l:s0.late=[addC 1 Wi]:=rfl
 have s:s0.start=Xk:=rfl
 have a:s0.all=andF [atmF bOn]:=rfl
 simp [Yam,e,l,s,a,YgT,Yi7,YmR,aOn,Ydb]
theorem exp_l (K:Kn):expM K Xn []=⟨[aOn,Ydb],[[true]],[[true]],false⟩:=by
 have h0:exN0 [s0]=[[false]]:=rfl
 have r1:=YiR (K:=K) (s:=s0) (S:=[]) (b:=false) (d:=false) rfl
 have r2:=YiR (K:=K) (s:=s0) (S:=[aOn]) (b:=true) (d:=false) rfl
 have r3:=YiR (K:=K) (s:=s0) (S:=[aOn,Ydb]) (b:=true) (d:=true) rfl
 rw [inst_1] at r1
 rw [inst_2] at r2
 rw [inst_3] at r3
 rw [expM,sch_l,h0,exM]
 rw [show meas (totB [s0]) (totB [s0]) ⟨[],[[false]],[[false]],false⟩+1=4097+1+1+1 from rfl]
 rw [Yen (by rw [r1];simp),r1,Yen (by rw [r2];simp),r2,Yjg (.inl (by rw [r3])),r3]
theorem Yl5 {S0:List Atom} (h:YmY S0 (Ye6 Yab.init)):S0=[]:=List.eq_nil_iff_forall_not_mem.2 fun a ha=>by
 have:=Yh9.1 ((h.2 a).1 ha)
 cases this
theorem lamp_E:Ws Xn Yab []=0:=by
 rw [Ws,if_neg (fun h=>h YjV),expE]
 have hs:schE (knM Xn Yab) Xn=0:=by
  rw [schE,sch_l,if_neg (by show ¬4096<1;decide),if_neg]
  rintro ⟨s,h,hb⟩
  rw [List.mem_singleton] at h
  subst h
  exact absurd hb.1 Zh
 rw [if_neg (fun h=>h hs),exp_l,if_neg (by show ¬4096<2;decide)]
theorem lamp_l {l:List Atom} (h:l.Perm (expM K Xn []).S) (hs:Yhg l):l=[aOn,Ydb]:=by
 rw [exp_l] at h
 have hc:cmpA aOn Ydb<0:=by decide+kernel
 have h2:l.length=2:=h.length_eq
 match l,h2 with
 | [a,b],_=>
  have ha:a=aOn∨a=Ydb:=by simpa using h.mem_iff.1 (List.mem_cons_self ..)
  have hd:([aOn,Ydb]:List Atom).Nodup:=by simp;exact fun h=>on_ne h.symm
  have hn:=h.nodup_iff.2 hd
  have hb:b=aOn∨b=Ydb:=by simpa using h.mem_iff.1 (List.mem_cons_of_mem _ (List.mem_cons_self ..))
  rcases ha with rfl | rfl
  ·rcases hb with rfl | rfl
   ·simp at hn
   ·rfl
  ·rcases hb with rfl | rfl
   ·exact absurd hc (hs 0 1 _ _ Zh rfl rfl)
   ·simp at hn
theorem lamp_i (K:Kn):YdD (schL K Xn) (expM K Xn []).D=[(Yjm,[])]:=by rw [sch_l,exp_l];rfl
end Go.Proofs.YtbnpeechpebmeaaGreatDoor
namespace Go.Lx
open Go.RowKit
section
variable {P:Program} {cx:Cx} {n:Nat} {σ:Env} {fz:FZ} {H:HP} {fn:Func} {R:Value→FZ→HP→Prop}
variable {X Y:Ty} {cs:List Value} {g i j k:Nat} {t:TypeId}
theorem Ykx (T:Tab P) {p q:Nat} {t' u u':TypeId} {ds:List Value} {f f':Nat × Nat} (hres:fn.results=#[.cell p t,.cell q u]) (hT:T.inf t=some X) (hU:T.inf u=some Y) (hd:XW X.desc=true) (he:XW Y.desc=true)
 (hv:lk σ p=some (.pointer (some ⟨g,0,none⟩))) (hx:lk σ q=some (.pointer (some ⟨k,0,none⟩))) (hi:H[i]?=some (g,.cells cs.toArray t' f)) (hj:H[j]?=some (k,.cells ds.toArray u' f')) (hsz:X.size=cs.length) (hsy:Y.size=ds.length)
 (h:∀ fz',Le fz fz'→(∀ p∈H,fz' p.1=some p.2)→R (.tuple #[.agg cs.toArray,.agg ds.toArray]) fz' []):retQ P cx n fn R .ret σ fz H:=by
 unfold retQ
 exact ⟨.tuple #[.agg cs.toArray,.agg ds.toArray],fun a w hs hw=>by
  have hc:∀ (g i:Nat) (cs:List Value) (t':TypeId) (f:Nat × Nat),H[i]?=some (g,.cells cs.toArray t' f)→∀ j v,cs[j]?=some v→w.cell? ((⟨g,0,none⟩:Addr).add j)=some v:=fun g i cs t' f hi j v hv=>by
   have hadd:(⟨g,0,none⟩:Addr).add j=⟨g,j,none⟩:=by unfold Addr.add;split<;>simp_all
   rw [hadd,hw.cellOwn hi];simpa using hv
  simp [results,hres,hs.slot p _ hv,hs.slot q _ hx,asAddr,YaH T hT hd hsz (hc g i cs t' f hi),YaH T hU he hsy (hc k j ds u' f' hj)],YeF h⟩
end
end Go.Lx
namespace Go.Proofs.YtbnpeechpebmeaaGreatDoor
open Go.Lx Go.RowKit
attribute [local instance 10] Classical.propDecidable
open Go.Proofs.Tryz (prog)
theorem alw_q {fz:FZ}:QFn prog 6 [] fz Ya8:=by
 refine GFn.quiet ?_
 refine zF Tryz.func6 Tryz.ntmps6 (fun w0=>?_)
 refine zW ?_;intros
 exact X1 T (i:=0) rfl Zz Zz Zz Zz Zz (fun _ hi=>⟨_,[],hi.forget (List.nil_sublist _),rfl⟩)
variable {fz:FZ}
theorem atm_q {s:Bs}:QFn prog 7 [.string s,.slice none 0 0] fz (.agg #[.string kAtom,.string s,.slice none 0 0,.slice none 0 0,.slice none 0 0,.slice none 0 0]):=by
 refine GFn.quiet ?_
 refine zF Tryz.func7 Tryz.ntmps7 (fun w0=>?_)
 refine zW ?_;intros
 exact X1 T (i:=0) rfl Zz Zz Zz Zz Zz (fun _ hi=>⟨_,[],hi.forget (List.nil_sublist _),rfl⟩)
theorem atm_R {s:Bs} (h:s.size≤1000):FormulaR fz (atmF s) (.slice none 0 0) (.slice none 0 0) (.slice none 0 0) (.slice none 0 0):=⟨by show kAtom.size≤_;decide,by show s.size≤_;omega,IsSl.nil,IsSl.nil,IsSl.nil,IsSl.nil⟩
theorem nilE_R:ExprR fz nilE (.slice none 0 0) (.slice none 0 0):=⟨Y5,Y5,XL,IsSl.nil,IsSl.nil⟩
theorem YmS {k:Int} {s:Bs} (hk:I64 k) (h:s.size≤1000):changeL.rep fz (addC k s) [.int .i64 k,.slice none 0 0,.string kAnd,.string ⟨#[]⟩,.slice none 0 0,.slice none 0 0,.slice none 0 0,.slice none 0 0,.string s,.slice none 0 0,.string ⟨#[]⟩,.string ⟨#[]⟩,.int .i64 0,.slice none 0 0,.slice none 0 0]:=
 Ya7 (x:=addC k s) ⟨hk,IsSl.nil,YbE,by show s.size≤_;omega,IsSl.nil,nilE_R⟩
def YkJ (k:Int) (s:Bs):List Value:=[.int .i64 k,.slice none 0 0,.string kAnd,.string ⟨#[]⟩,.slice none 0 0,.slice none 0 0,.slice none 0 0,.slice none 0 0,.string s,.slice none 0 0,.string ⟨#[]⟩,.string ⟨#[]⟩,.int .i64 0,.slice none 0 0,.slice none 0 0]
def lampK (ga ge:Nat):List Value:=[.string Yjm,.slice none 0 0,.int .i64 2,.string kAnd,.string ⟨#[]⟩,.slice none 0 0,.slice none 0 0,.slice none 0 0,.slice none 0 0,.string kAtom,.string bOn,.slice none 0 0,.slice none 0 0,.slice none 0 0,.slice none 0 0,.string kAnd,.string ⟨#[]⟩,.slice none 0 0,.slice none 0 0,.slice none 0 0,.slice none 0 0,.slice (some ⟨ga,0,none⟩) 1 1,.slice (some ⟨ge,0,none⟩) 2 2]
set_option maxHeartbeats 4000000 in
theorem lamp_f:GFn prog 15 [] fz [] (fun r fz' H'=>H'=[]∧∃ v3 v6,r=.tuple #[.agg #[.string bD,.slice none 0 0,.slice none 0 0,v3,.slice none 0 0,.slice none 0 0,v6],.agg #[.string bP,.string bD,.slice none 0 0,.slice none 0 0,.slice none 0 0,.string kAtom,.string Wi,.slice none 0 0,.slice none 0 0,.slice none 0 0,.slice none 0 0]]∧
 DomainR fz' Xn (.slice none 0 0) (.slice none 0 0) v3 (.slice none 0 0) (.slice none 0 0) v6∧ProblemR fz' Yab (.slice none 0 0) (.slice none 0 0) (.slice none 0 0) (.slice none 0 0) (.slice none 0 0) (.slice none 0 0) (.slice none 0 0)):=by
 have ha:=@alw_q
 unfold Ya8 at ha
 refine zF Tryz.func15 Tryz.ntmps15 (fun w0=>?_)
 refine zWN ?_;intros
 refine Ya Zz (Yd T (cs:=[.string bOn,.slice none 0 0,.string Wi,.slice none 0 0,.string bKey,.slice none 0 0]) Zz Zz Zz Zz Zz Zz Zz Zz (fun gp=>?_))
 refine zWN ?_;intros
 refine zc ha ?_
 refine zWN ?_;intros
 refine zc (atm_q (s:=bOn)) ?_
 refine zWN ?_;intros
 refine zc ha ?_
 refine zWN ?_;intros
 refine zc ha ?_
 refine zWN ?_;intros
 refine Ya Zz (Yd T (cs:=YkJ 1 bOn) Zz Zz Zz Zz Zz Zz Zz Zz (fun ga=>?_))
 refine zWN ?_;intros
 refine zc ha ?_
 refine zWN ?_;intros
 refine zc ha ?_
 refine zWN ?_;intros
 refine Ya Zz (Yd T (cs:=YkJ 1 Wi++YkJ 2 bOn) Zz Zz Zz Zz Zz Zz Zz Zz (fun ge=>?_))
 refine zWN ?_;intros
 refine Ya Zz (Yd T (cs:=lampK ga ge) Zz Zz Zz Zz Zz Zz Zz Zz (fun gs=>?_))
 refine zWN ?_;intros
 refine Wp.drawP [2] (Hq:=[_,_,_,_,_,_,_]) T.mixed Zj Zj Zb ?_
 refine zW ?_;intros
 refine zc (atm_q (s:=Wi)) ?_
 refine PK.p Zz (fun fz'=>X2 T Zz Zz Zz Zz Zz rfl) ?_
 refine Yf ?_
 refine Yf ?_
 refine PK.done ⟨by kernel_rfl,?_⟩
 refine Yb Zz Zz ?_
 refine PoS.hard0 Zj (X4 T (pre:=[_,_,_,_,_,_]) Zz Zz Zz rfl Zz Zz Zz ?_)
 refine Yb Zz Zz ?_
 refine PoS.hard0 Zj (X4 T (pre:=[_,_,_,_,_]) Zz Zz Zz rfl Zz Zz Zz ?_)
 refine Po.done ?_
 refine zW ?_;intros
 refine Ykx T (i:=6) (j:=5) rfl Zz Zz Zz Zz Zz Zz Zz Zz Zz Zz (fun fz3 hle3 hf3=>⟨rfl,_,_,rfl,?_,?_⟩)
 ·have h1:=hf3 _ (.tail _ (.tail _ (.tail _ (.tail _ (.head _)))))
  have h2:=hf3 _ (.tail _ (.tail _ (.tail _ (.head _))))
  have h3:=hf3 _ (.tail _ (.tail _ (.head _)))
  have h4:=hf3 _ (.tail _ (.head _))
  have s1:Sl changeL fz3 (some ⟨ga,0,none⟩) 1 1 [addC 1 bOn]:=Xq (ys:=[(addC 1 bOn,YkJ 1 bOn)]) h2 rfl rfl (List.forall_mem_cons.2 ⟨YmS (by unfold I64;omega) Zh,nilP⟩) rfl Zh
  have s2:Sl changeL fz3 (some ⟨ge,0,none⟩) 2 2 [addC 1 Wi,addC 2 bOn]:=Xq (ys:=[(addC 1 Wi,YkJ 1 Wi),(addC 2 bOn,YkJ 2 bOn)]) h3 rfl rfl (List.forall_mem_cons.2 ⟨YmS (by unfold I64;omega) Zh,List.forall_mem_cons.2 ⟨YmS (by unfold I64;omega) Zh,nilP⟩⟩) rfl Zh
  have s3:Sl predicateL fz3 (some ⟨gp,0,none⟩) 3 3 [⟨bOn,[]⟩,⟨Wi,[]⟩,⟨bKey,[]⟩]:=Xq (ys:=[(⟨bOn,[]⟩,[.string bOn,.slice none 0 0]),(⟨Wi,[]⟩,[.string Wi,.slice none 0 0]),(⟨bKey,[]⟩,[.string bKey,.slice none 0 0])]) h1 rfl rfl
   (List.forall_mem_cons.2 ⟨YaM (x:=⟨bOn,[]⟩) ⟨by show bOn.size≤_;decide,IsSl.nil⟩,List.forall_mem_cons.2 ⟨YaM (x:=⟨Wi,[]⟩) ⟨by show Wi.size≤_;decide,IsSl.nil⟩,List.forall_mem_cons.2 ⟨YaM (x:=⟨bKey,[]⟩) ⟨by show bKey.size≤_;decide,IsSl.nil⟩,nilP⟩⟩⟩) rfl Zh
  have s4:Sl durativeL fz3 (some ⟨gs,0,none⟩) 1 1 [YcA]:=Xq (ys:=[(YcA,lampK ga ge)]) h4 (List.append_nil _).symm rfl
   (List.forall_mem_cons.2 ⟨YfO (x:=YcA) ⟨by show Yjm.size≤_;decide,IsSl.nil,by show I64 2;unfold I64;omega,YbE,atm_R Zh,YbE,s1.is,s2.is⟩,nilP⟩) rfl Zh
  exact ⟨by show bD.size≤_;decide,IsSl.nil,IsSl.nil,s3.is,IsSl.nil,IsSl.nil,s4.is⟩
 ·exact ⟨by show bP.size≤_;decide,by show bD.size≤_;decide,IsSl.nil,IsSl.nil,IsSl.nil,atm_R Zh⟩
theorem step_nm {p:Addr} {x:StepM} (h:At Yln fz p x):At strL fz (p.add 1) x.1:=h.part 1 fun cs hr=>by
 obtain ⟨va,rfl,hs,_⟩:=hr
 exact ⟨_,rfl,rfl,hs⟩
set_option maxHeartbeats 4000000 in
theorem YmM (hM:MaxF fz):QFn prog 5 [] fz (.bool true):=by
 refine GFn.quiet ?_
 refine zF Tryz.func5 Tryz.ntmps5 (fun w0=>?_)
 refine zW ?_;intros
 refine Ya Zz (Yn [] _ Zz Zz Zz lamp_f (fun v1 fz1 H1 hle1 hR1=>?_))
 obtain ⟨rfl,v3,v6,rfl,hD,hP⟩:=hR1
 obtain ⟨A3,n3,b3,rfl,_⟩:=id hD.predicates
 obtain ⟨A6,n6,b6,rfl,_⟩:=id hD.duratives
 refine zW ?_;intros
 rename_i gd gp
 refine Ya Zz (Yn [] _ Zz Zz Zz (YmN (hM.mono hle1) hD hP Yh1 (fun _=>YjW)) (fun v4 fz4 H4 hle4 hR4=>?_))
 obtain ⟨rfl,S0,hS0,v,rfl,_,hz⟩:=hR4
 have e0:=Yl5 hS0
 subst e0
 rw [lamp_E] at hz ⊢
 obtain ⟨l,hl,hp,hs⟩:=hz rfl
 have el:=lamp_l hp hs
 subst el
 obtain ⟨A,n,c,rfl,hsl⟩:=hl
 have hn:=hsl.len
 rw [show errV 0=.nilIface from rfl]
 refine zW ?_;intros
 refine Ya Zz (Yn [] _ Zz Zz Zz (insts_f (hM.mono (hle1.trans hle4)) (hD.mono hle4) (hP.mono hle4) Yh1 (fun _=>YjW)) (fun v5 fz5 H5 hle5 hR5=>?_))
 obtain ⟨S1,hS1,v,rfl,_,hy⟩:=hR5
 have e1:=Yl5 hS1
 subst e1
 rw [lamp_E] at hy ⊢
 obtain ⟨m,hG⟩:=hy rfl
 rw [lamp_i] at hG
 obtain ⟨A5,c5,rfl,_,_⟩:=hG.form
 have hm:=hG.len
 simp at hm hn
 subst hm;subst hn
 refine Seq.freezeAll (H1:=[_,_]) (H2:=H5) Zq (fun fz6 hle6 hf6=>?_)
 obtain ⟨B5,d5,e5,hS5⟩:=hG.sl hle6 hf6 Zi
 injection e5 with e51 e52 e53
 subst e51;subst e53
 have hx:=hsl.mono (hle5.trans hle6)
 rw [show errV 0=.nilIface from rfl]
 refine zV ?_;intros
 refine zC (fun c1=>?_) (fun c1=>?_)
 rotate_left 1
 ·exact absurd rfl c1
 refine zV ?_;intros
 refine zI hx rfl (fun p1 hp1=>?_)
 refine zV ?_;intros
 refine zH hp1.Atom_name (fun hs1=>?_)
 refine zV ?_;intros
 refine zC (fun c2=>?_) (fun c2=>?_)
 rotate_left 1
 ·exact absurd rfl c2
 refine zV ?_;intros
 refine zC (fun c3=>?_) (fun c3=>?_)
 rotate_left 1
 ·exact absurd rfl c3
 refine zV ?_;intros
 refine zI hS5 rfl (fun p2 hp2=>?_)
 refine zV ?_;intros
 refine zH (step_nm hp2) (fun hs2=>?_)
 refine zV ?_;intros
 refine zC (fun c4=>?_) (fun c4=>?_)
 rotate_left 1
 ·exact absurd rfl c4
 refine zV ?_;intros
 exact zR (h:=rfl)
end Go.Proofs.YtbnpeechpebmeaaGreatDoor
namespace Go.Lx
open Go.RowKit Go.ChangeShapes Go.WideShapes Go.Deep
theorem YlY {α:Type} {p:Nat→α→Prop}:∀ {n:Nat},(∀ i,i<n→∃ d,p i d)→∃ ds:List α,ds.length=n∧∀ i d,ds[i]?=some d→p i d
 | 0,_=>⟨[],rfl,by simp⟩
 | n+1,h=>by
  obtain ⟨ds,h1,h2⟩:=YlY (n:=n) (fun i hi=>h i Zi)
  obtain ⟨d,hd⟩:=h n Zi
  refine ⟨ds++ [d],by simp [h1],fun i e he=>?_⟩
  by_cases hi:i<ds.length
  ·rw [List.getElem?_append_left hi] at he;exact h2 i e he
  ·have hl:=(Zg he).1
   simp at hl
   have:i=n:=by omega
   subst this
   rw [List.getElem?_append_right Zi,h1] at he
   simp at he
   subst he
   exact hd
section
variable {H:Type} {enc:TypeId × Value→H} {P:Program} {w:World} {base:Nat} {spare:Nat→Bool} {held:Bool}
variable {fz:FZ} {v:Value}
theorem XA {α:Type} {L:Lay α} {xs:List α} (h:(slL L).rep fz xs [v]):IsSl L fz v xs:=by
 obtain ⟨A,n,c,e,hs⟩:=h
 injection e with e
 exact ⟨A,n,c,e,hs⟩
theorem YaG {s:Bs} (h:strL.rep fz s [v]):v=.string s∧Short s:=by
 obtain ⟨e,hs⟩:=h
 injection e with e
 exact ⟨e,hs⟩
theorem Ye4 {n:Int} (h:intL.rep fz n [v]):v=.int .i64 n∧I64 n:=by
 obtain ⟨e,hs⟩:=h
 injection e with e
 exact ⟨e,hs⟩
end
end Go.Lx
set_option maxRecDepth 100000
namespace Go.Proofs.YtbnpeechpebmeaaGreatDoor
open Go.Lx Go.RowKit Go.ChangeShapes Go.WideShapes Go.Deep
open Go.Proofs.Tryz (prog)
theorem Yhc {H:Type} (d:DataW H):1≤Rows.uptoBulk d:=by
 cases d with
 | lit l=>cases l<;>simp [Rows.uptoBulk]
 | nil=>simp [Rows.uptoBulk]
 | ptr d=>simp [Rows.uptoBulk]
 | slice elems spare=>simp [Rows.uptoBulk]
 | agg parts=>simp [Rows.uptoBulk]
 | iface t d=>simp [Rows.uptoBulk]
 | map entries=>simp [Rows.uptoBulk]
 | held h=>simp [Rows.uptoBulk]
theorem Yft {H:Type} {d:DataW H}:∀ {l:List (DataW H)},d∈l→Rows.uptoBulk d≤Rows.uptoBulkAll l
 | [],h=>by cases h
 | x::r,h=>by
  simp only [Rows.uptoBulkAll]
  rcases List.mem_cons.1 h with rfl | h
  ·omega
  ·have:=Yft h;omega
theorem Yki {H:Type}:∀ (l:List (DataW H)),l.length≤Rows.uptoBulkAll l
 | []=>by simp [Rows.uptoBulkAll]
 | x::r=>by have:=Yhc x;have:=Yki r;simp only [Rows.uptoBulkAll,List.length_cons];omega
theorem Ykh {H α:Type} {wt:α→Nat}:∀ {l:List (DataW H)} {ds:List α},ds.length=l.length→(∀ (i:Nat) (d:α) (x:DataW H),ds[i]?=some d→l[i]?=some x→wt d≤Rows.uptoBulk x)→(ds.map wt).sum≤Rows.uptoBulkAll l
 | [],ds,h,_=>by
  have:ds=[]:=List.eq_nil_of_length_eq_zero (by simpa using h)
  subst this;simp
 | x::r,ds,h,hh=>by
  cases ds with
  | nil=>simp at h
  | cons d ds=>
   have h1:=hh 0 d x rfl rfl
   have h2:=Ykh (l:=r) (ds:=ds) (wt:=wt) (by simpa using h) (fun i e y he hy=>hh (i+1) e y (by simpa using he) (by simpa using hy))
   simp only [List.map_cons,List.sum_cons,Rows.uptoBulkAll];omega
section
variable {H:Type} {enc:TypeId × Value→H} {P:Program} {w:World} {base:Nat} {spare:Nat→Bool} {held:Bool}
def XY (enc:TypeId × Value→H) (P:Program) (w:World) (base:Nat) (spare:Nat→Bool) (held:Bool) {α:Type} (L:Lay α) (wt:α→Nat) (t:TypeId) (fuel:Nat):Prop:=
 ∀ cs x,DataW.trod enc P w base spare held fuel t cs=some x→Rows.uptoBulk x.1≤1048576→∃ d,L.rep (fzOf w) d cs∧wt d≤Rows.uptoBulk x.1
variable {t:TypeId}
theorem Xu {α:Type} {L:Lay α} {wt:α→Nat} {e:TypeId} {fuel:Nat} (ht:P.underlying t=some (.slice e)) (hc:P.cellsOf e=L.size) (he:∀ n,n<fuel→XY enc P w base spare held L wt e n):XY enc P w base spare held (slL L) (fun l=>(l.map wt).sum) t fuel:=fun cs x h hq=>by
 rcases DataW.trod_slice ht h with ⟨rfl,_⟩ | ⟨a,len,cap,elems,rest,n,hfu,rfl,rfl,_,hl,hm,hlen,hel,_,_⟩
 ·exact ⟨[],⟨none,0,0,rfl,Sl.nil Zi⟩,by simp⟩
 ·have hbd:Rows.uptoBulkAll (elems.map (·.1))+1≤Rows.uptoBulk (.slice (elems.map (·.1)) (rest.map (·.1)):DataW H):=by simp only [Rows.uptoBulk];omega
  have hbl:=Yki (elems.map (·.1))
  rw [List.length_map] at hbl
  obtain ⟨ds,h1,h2⟩:=YlY (p:=fun i d=>At L (fzOf w) (a.add (i*L.size)) d∧∀ y,elems[i]?=some y→wt d≤Rows.uptoBulk y.1) (n:=len) (fun i hil=>by
   have hx:elems[i]?=some (elems[i]'Zi):=List.getElem?_eq_getElem _
   have h3:=hel i hil
   rw [hx] at h3
   cases hcs:w.cells? base (a.add (i*P.cellsOf e)) (P.cellsOf e) with
   | none=>rw [hcs] at h3;cases h3
   | some cs'=>
    rw [hcs] at h3
    have hpt:=Yft (d:=(elems[i]'Zi).1) (l:=elems.map (·.1)) (List.mem_map.2 ⟨_,Zm hx,rfl⟩)
    have hq':Rows.uptoBulk (.slice (elems.map (·.1)) (rest.map (·.1)):DataW H)≤1048576:=hq
    obtain ⟨d,hd,hw⟩:=he n Zi _ _ h3 Zi
    obtain ⟨_,hlen,hat⟩:=World.cells?_some hcs
    refine ⟨d,⟨cs',hd,fun j u hu=>?_⟩,fun y hy=>by rw [hx] at hy;injection hy with hy;subst hy;exact hw⟩
    have hj:j<cs'.length:=(Zg hu).1
    rw [← hc]
    exact Ykg ((hat j Zi).trans hu))
  have hq':Rows.uptoBulk (.slice (elems.map (·.1)) (rest.map (·.1)):DataW H)≤1048576:=hq
  refine ⟨ds,⟨some a,len,cap,rfl,h1,hl,by simpa [maxLen] using hm,by omega,.inr ⟨a,rfl,fun i d hd=>(h2 i d hd).1⟩⟩,?_⟩
  have:=Ykh (wt:=wt) (ds:=ds) (l:=elems.map (·.1)) (by rw [List.length_map];omega) (fun i d x hd hx=>by
   rw [List.getElem?_map] at hx
   cases hy:elems[i]? with
   | none=>rw [hy] at hx;cases hx
   | some y=>rw [hy] at hx;injection hx with hx;subst hx;exact (h2 i d hd).2 y hy)
  exact Nat.le_trans (Nat.le_trans this (Nat.le_succ _)) hbd
variable {cs:List Value} {i k n:Nat}
theorem Yq {α:Type} {L:Lay α} {wt:α→Nat} {fs:Array Field} {xs:List (DataW H × List MemPlace)} (hf:∀ (i:Nat) (f:Field),fs[i]?=some f→DataW.trod enc P w base spare held n f.type ((cs.drop f.offset).take (P.cellsOf f.type))=xs[i]?)
 (hq:Rows.uptoBulkAll (xs.map (·.1))≤1048576) {f:Field} {y:DataW H × List MemPlace} (hi:fs[i]?=some f) (hy:xs[i]?=some y) (he:XY enc P w base spare held L wt f.type n) (hc:P.cellsOf f.type=k) {cs':List Value} (hv:(cs.drop f.offset).take k=cs'):
 ∃ d,L.rep (fzOf w) d cs'∧wt d≤Rows.uptoBulk y.1:=by
 have h1:=hf i f hi
 rw [hc,hy,hv] at h1
 have:=Yft (d:=y.1) (l:=xs.map (·.1)) (List.mem_map.2 ⟨_,Zm hy,rfl⟩)
 exact he _ _ h1 Zi
end
section
variable {H:Type} {enc:TypeId × Value→H} {w:World} {base:Nat} {spare:Nat→Bool} {held:Bool}
theorem YbJ {fuel:Nat}:XY enc prog w base spare held intL (fun _=>1) 3 fuel:=fun cs x h _=>by
 obtain ⟨n,h1,_,h2⟩:=DataW.trod_int Tryz.underlying3 h
 exact ⟨n,⟨h1,by simp [Lit.wf,IntKind.min,IntKind.max,IntKind.signed,IntKind.bits] at h2;unfold I64;omega⟩,Yhc _⟩
theorem XZ {fuel:Nat}:XY enc prog w base spare held strL strW 9 fuel:=fun cs x h _=>by
 obtain ⟨s,h1,_,h2⟩:=DataW.trod_string Tryz.underlying9 h
 exact ⟨s,⟨h1,by simpa [maxLen] using h2⟩,Yhc _⟩
theorem YcS {fuel:Nat}:XY enc prog w base spare held (slL strL) (fun l=>(l.map strW).sum) 24 fuel:=Xu Tryz.underlying24 Zj (fun _ _=>XZ)
theorem YhP {fuel:Nat}:XY enc prog w base spare held paramL parW 136 fuel:=fun cs x h hq0=>by
 obtain ⟨xs,n,hfu,rfl,hcl,hxl,hf⟩:=DataW.trod_struct Tryz.underlying136 h
 have hc:prog.cellsOf 136=2:=by kernel_rfl
 rw [hc] at hcl
 have hq:Rows.uptoBulkAll (xs.map (·.1))≤1048576:=by simp only [Rows.uptoBulk] at hq0;omega
 match cs,hcl,xs,hxl,hf,hq with
 | [v0,v1],_,[x0,x1],_,hf,hq=>
  obtain ⟨d0,r0,b0⟩:=(Yq hf hq (i:=0) (k:=1) (y:=x0) (cs':=[v0]) rfl rfl XZ Zj rfl)
  obtain ⟨rfl,k0⟩:=YaG r0
  obtain ⟨d1,r1,b1⟩:=(Yq hf hq (i:=1) (k:=1) (y:=x1) (cs':=[v1]) rfl rfl XZ Zj rfl)
  obtain ⟨rfl,k1⟩:=YaG r1
  refine ⟨⟨d0,d1⟩,⟨rfl,⟨k0,k1⟩⟩,?_⟩
  simp only [List.map_cons,List.map_nil,Rows.uptoBulk,Rows.uptoBulkAll,parW]
  simp only [Wx,Wy] at*
  omega
theorem XG {fuel:Nat}:XY enc prog w base spare held (slL paramL) (fun l=>(l.map parW).sum) 25 fuel:=Xu Tryz.underlying25 Zj (fun _ _=>YhP)
theorem YeP {fuel:Nat}:XY enc prog w base spare held atomL YdP 48 fuel:=fun cs x h hq0=>by
 obtain ⟨xs,n,hfu,rfl,hcl,hxl,hf⟩:=DataW.trod_struct Tryz.underlying48 h
 have hc:prog.cellsOf 48=2:=by kernel_rfl
 rw [hc] at hcl
 have hq:Rows.uptoBulkAll (xs.map (·.1))≤1048576:=by simp only [Rows.uptoBulk] at hq0;omega
 match cs,hcl,xs,hxl,hf,hq with
 | [v0,v1],_,[x0,x1],_,hf,hq=>
  obtain ⟨d0,r0,b0⟩:=(Yq hf hq (i:=0) (k:=1) (y:=x0) (cs':=[v0]) rfl rfl XZ Zj rfl)
  obtain ⟨rfl,k0⟩:=YaG r0
  obtain ⟨d1,r1,b1⟩:=(Yq hf hq (i:=1) (k:=1) (y:=x1) (cs':=[v1]) rfl rfl YcS Zj rfl)
  have k1:=XA r1
  refine ⟨⟨d0,d1⟩,⟨_,rfl,⟨k0,k1⟩⟩,?_⟩
  simp only [List.map_cons,List.map_nil,Rows.uptoBulk,Rows.uptoBulkAll,YdP]
  simp only [Wx,Wy] at*
  omega
theorem YhR {fuel:Nat}:XY enc prog w base spare held (slL atomL) (fun l=>(l.map YdP).sum) 49 fuel:=Xu Tryz.underlying49 Zj (fun _ _=>YeP)
theorem YhO {fuel:Nat}:XY enc prog w base spare held valueL YdS 133 fuel:=fun cs x h hq0=>by
 obtain ⟨xs,n,hfu,rfl,hcl,hxl,hf⟩:=DataW.trod_struct Tryz.underlying133 h
 have hc:prog.cellsOf 133=3:=by kernel_rfl
 rw [hc] at hcl
 have hq:Rows.uptoBulkAll (xs.map (·.1))≤1048576:=by simp only [Rows.uptoBulk] at hq0;omega
 match cs,hcl,xs,hxl,hf,hq with
 | [v0,v1,v2],_,[x0,x1],_,hf,hq=>
  obtain ⟨d0,r0,b0⟩:=(Yq hf hq (i:=0) (k:=2) (y:=x0) (cs':=[v0,v1]) rfl rfl YeP Zj rfl)
  obtain ⟨y0_0,e0,k0⟩:=X6 r0
  simp only [List.cons.injEq,and_true] at e0
  obtain ⟨rfl,rfl⟩:=e0
  obtain ⟨d1,r1,b1⟩:=(Yq hf hq (i:=1) (k:=1) (y:=x1) (cs':=[v2]) rfl rfl YbJ Zj rfl)
  obtain ⟨rfl,k1⟩:=Ye4 r1
  refine ⟨⟨d0,d1⟩,⟨_,rfl,⟨k0,k1⟩⟩,?_⟩
  simp only [List.map_cons,List.map_nil,Rows.uptoBulk,Rows.uptoBulkAll,YdS]
  simp only [Wx,Wy] at*
  omega
theorem YgJ {fuel:Nat}:XY enc prog w base spare held (slL valueL) (fun l=>(l.map YdS).sum) 50 fuel:=Xu Tryz.underlying50 Zj (fun _ _=>YhO)
theorem YeN:∀ fuel:Nat,XY enc prog w base spare held exprL eW 36 fuel:=fun fuel=>by
 induction fuel using Nat.strongRecOn with
 | _ fuel ih=>
  intro cs x h hq0
  obtain ⟨xs,n,hfu,rfl,hcl,hxl,hf⟩:=DataW.trod_struct Tryz.underlying36 h
  have hc:prog.cellsOf 36=5:=by kernel_rfl
  rw [hc] at hcl
  have hq:Rows.uptoBulkAll (xs.map (·.1))≤1048576:=by simp only [Rows.uptoBulk] at hq0;omega
  match cs,hcl,xs,hxl,hf,hq with
  | [v0,v1,v2,v3,v4],_,[x0,x1,x2,x3,x4],_,hf,hq=>
   obtain ⟨d0,r0,b0⟩:=(Yq hf hq (i:=0) (k:=1) (y:=x0) (cs':=[v0]) rfl rfl XZ Zj rfl)
   obtain ⟨rfl,k0⟩:=YaG r0
   obtain ⟨d1,r1,b1⟩:=(Yq hf hq (i:=1) (k:=1) (y:=x1) (cs':=[v1]) rfl rfl XZ Zj rfl)
   obtain ⟨rfl,k1⟩:=YaG r1
   obtain ⟨d2,r2,b2⟩:=(Yq hf hq (i:=2) (k:=1) (y:=x2) (cs':=[v2]) rfl rfl YbJ Zj rfl)
   obtain ⟨rfl,k2⟩:=Ye4 r2
   obtain ⟨d3,r3,b3⟩:=(Yq hf hq (i:=3) (k:=1) (y:=x3) (cs':=[v3]) rfl rfl YcS Zj rfl)
   have k3:=XA r3
   obtain ⟨d4,r4,b4⟩:=(Yq hf hq (i:=4) (k:=1) (y:=x4) (cs':=[v4]) rfl rfl (Xu (L:=exprL) Tryz.underlying26 Zj (fun m hm=>ih m Zi)) Zj rfl)
   have k4:=XA r4
   refine ⟨.mk d0 d1 d2 d3 d4,WO (x:=.mk d0 d1 d2 d3 d4) ⟨k0,k1,k2,k3,k4⟩,?_⟩
   simp only [List.map_cons,List.map_nil,Rows.uptoBulk,Rows.uptoBulkAll,eW_eq,Expr.args,Expr.kids]
   simp only [Wx,Wy] at*
   omega
theorem YhQ {fuel:Nat}:XY enc prog w base spare held (slL exprL) (fun l=>(l.map eW).sum) 26 fuel:=Xu Tryz.underlying26 Zj (fun _ _=>YeN _)
theorem Wd:∀ fuel:Nat,XY enc prog w base spare held formulaL fW 29 fuel:=fun fuel=>by
 induction fuel using Nat.strongRecOn with
 | _ fuel ih=>
  intro cs x h hq0
  obtain ⟨xs,n,hfu,rfl,hcl,hxl,hf⟩:=DataW.trod_struct Tryz.underlying29 h
  have hc:prog.cellsOf 29=6:=by kernel_rfl
  rw [hc] at hcl
  have hq:Rows.uptoBulkAll (xs.map (·.1))≤1048576:=by simp only [Rows.uptoBulk] at hq0;omega
  match cs,hcl,xs,hxl,hf,hq with
  | [v0,v1,v2,v3,v4,v5],_,[x0,x1,x2,x3,x4,x5],_,hf,hq=>
   obtain ⟨d0,r0,b0⟩:=(Yq hf hq (i:=0) (k:=1) (y:=x0) (cs':=[v0]) rfl rfl XZ Zj rfl)
   obtain ⟨rfl,k0⟩:=YaG r0
   obtain ⟨d1,r1,b1⟩:=(Yq hf hq (i:=1) (k:=1) (y:=x1) (cs':=[v1]) rfl rfl XZ Zj rfl)
   obtain ⟨rfl,k1⟩:=YaG r1
   obtain ⟨d2,r2,b2⟩:=(Yq hf hq (i:=2) (k:=1) (y:=x2) (cs':=[v2]) rfl rfl YcS Zj rfl)
   have k2:=XA r2
   obtain ⟨d3,r3,b3⟩:=(Yq hf hq (i:=3) (k:=1) (y:=x3) (cs':=[v3]) rfl rfl XG Zj rfl)
   have k3:=XA r3
   obtain ⟨d4,r4,b4⟩:=(Yq hf hq (i:=4) (k:=1) (y:=x4) (cs':=[v4]) rfl rfl YhQ Zj rfl)
   have k4:=XA r4
   obtain ⟨d5,r5,b5⟩:=(Yq hf hq (i:=5) (k:=1) (y:=x5) (cs':=[v5]) rfl rfl (Xu (L:=formulaL) Tryz.underlying27 Zj (fun m hm=>ih m Zi)) Zj rfl)
   have k5:=XA r5
   refine ⟨.mk d0 d1 d2 d3 d4 d5,YT (x:=.mk d0 d1 d2 d3 d4 d5) ⟨k0,k1,k2,k3,k4,k5⟩,?_⟩
   simp only [List.map_cons,List.map_nil,Rows.uptoBulk,Rows.uptoBulkAll,Yc5,Formula.args,Formula.params,Formula.exprs,Formula.kids]
   simp only [Wx,Wy] at*
   omega
theorem YgL {fuel:Nat}:XY enc prog w base spare held changeL Y7 38 fuel:=fun cs x h hq0=>by
 obtain ⟨xs,n,hfu,rfl,hcl,hxl,hf⟩:=DataW.trod_struct Tryz.underlying38 h
 have hc:prog.cellsOf 38=15:=by kernel_rfl
 rw [hc] at hcl
 have hq:Rows.uptoBulkAll (xs.map (·.1))≤1048576:=by simp only [Rows.uptoBulk] at hq0;omega
 match cs,hcl,xs,hxl,hf,hq with
 | [v0,v1,v2,v3,v4,v5,v6,v7,v8,v9,v10,v11,v12,v13,v14],_,[x0,x1,x2,x3,x4,x5],_,hf,hq=>
  obtain ⟨d0,r0,b0⟩:=(Yq hf hq (i:=0) (k:=1) (y:=x0) (cs':=[v0]) rfl rfl YbJ Zj rfl)
  obtain ⟨rfl,k0⟩:=Ye4 r0
  obtain ⟨d1,r1,b1⟩:=(Yq hf hq (i:=1) (k:=1) (y:=x1) (cs':=[v1]) rfl rfl XG Zj rfl)
  have k1:=XA r1
  obtain ⟨d2,r2,b2⟩:=(Yq hf hq (i:=2) (k:=6) (y:=x2) (cs':=[v2,v3,v4,v5,v6,v7]) rfl rfl (Wd _) Zj rfl)
  obtain ⟨y2_0,y2_1,y2_2,y2_3,e2,k2⟩:=YA r2
  simp only [List.cons.injEq,and_true] at e2
  obtain ⟨rfl,rfl,rfl,rfl,rfl,rfl⟩:=e2
  obtain ⟨d3,r3,b3⟩:=(Yq hf hq (i:=3) (k:=1) (y:=x3) (cs':=[v8]) rfl rfl XZ Zj rfl)
  obtain ⟨rfl,k3⟩:=YaG r3
  obtain ⟨d4,r4,b4⟩:=(Yq hf hq (i:=4) (k:=1) (y:=x4) (cs':=[v9]) rfl rfl YcS Zj rfl)
  have k4:=XA r4
  obtain ⟨d5,r5,b5⟩:=(Yq hf hq (i:=5) (k:=5) (y:=x5) (cs':=[v10,v11,v12,v13,v14]) rfl rfl (YeN _) Zj rfl)
  obtain ⟨y5_0,y5_1,e5,k5⟩:=YK r5
  simp only [List.cons.injEq,and_true] at e5
  obtain ⟨rfl,rfl,rfl,rfl,rfl⟩:=e5
  refine ⟨⟨d0,d1,d2,d3,d4,d5⟩,⟨_,_,_,_,_,_,_,_,rfl,⟨k0,k1,k2,k3,k4,k5⟩⟩,?_⟩
  simp only [List.map_cons,List.map_nil,Rows.uptoBulk,Rows.uptoBulkAll,Y7]
  simp only [Wx,Wy] at*
  omega
theorem Ybe {fuel:Nat}:XY enc prog w base spare held (slL changeL) (fun l=>(l.map Y7).sum) 39 fuel:=Xu Tryz.underlying39 Zj (fun _ _=>YgL)
theorem Yd7 {fuel:Nat}:XY enc prog w base spare held predicateL YhK 33 fuel:=fun cs x h hq0=>by
 obtain ⟨xs,n,hfu,rfl,hcl,hxl,hf⟩:=DataW.trod_struct Tryz.underlying33 h
 have hc:prog.cellsOf 33=2:=by kernel_rfl
 rw [hc] at hcl
 have hq:Rows.uptoBulkAll (xs.map (·.1))≤1048576:=by simp only [Rows.uptoBulk] at hq0;omega
 match cs,hcl,xs,hxl,hf,hq with
 | [v0,v1],_,[x0,x1],_,hf,hq=>
  obtain ⟨d0,r0,b0⟩:=(Yq hf hq (i:=0) (k:=1) (y:=x0) (cs':=[v0]) rfl rfl XZ Zj rfl)
  obtain ⟨rfl,k0⟩:=YaG r0
  obtain ⟨d1,r1,b1⟩:=(Yq hf hq (i:=1) (k:=1) (y:=x1) (cs':=[v1]) rfl rfl XG Zj rfl)
  have k1:=XA r1
  refine ⟨⟨d0,d1⟩,⟨_,rfl,⟨k0,k1⟩⟩,?_⟩
  simp only [List.map_cons,List.map_nil,Rows.uptoBulk,Rows.uptoBulkAll,YhK]
  simp only [Wx,Wy] at*
  omega
theorem Ydx {fuel:Nat}:XY enc prog w base spare held (slL predicateL) (fun l=>(l.map YhK).sum) 34 fuel:=Xu Tryz.underlying34 Zj (fun _ _=>Yd7)
theorem YeM {fuel:Nat}:XY enc prog w base spare held functionL funW 123 fuel:=fun cs x h hq0=>by
 obtain ⟨xs,n,hfu,rfl,hcl,hxl,hf⟩:=DataW.trod_struct Tryz.underlying123 h
 have hc:prog.cellsOf 123=4:=by kernel_rfl
 rw [hc] at hcl
 have hq:Rows.uptoBulkAll (xs.map (·.1))≤1048576:=by simp only [Rows.uptoBulk] at hq0;omega
 match cs,hcl,xs,hxl,hf,hq with
 | [v0,v1,v2,v3],_,[x0,x1,x2,x3],_,hf,hq=>
  obtain ⟨d0,r0,b0⟩:=(Yq hf hq (i:=0) (k:=1) (y:=x0) (cs':=[v0]) rfl rfl XZ Zj rfl)
  obtain ⟨rfl,k0⟩:=YaG r0
  obtain ⟨d1,r1,b1⟩:=(Yq hf hq (i:=1) (k:=1) (y:=x1) (cs':=[v1]) rfl rfl XG Zj rfl)
  have k1:=XA r1
  obtain ⟨d2,r2,b2⟩:=(Yq hf hq (i:=2) (k:=1) (y:=x2) (cs':=[v2]) rfl rfl YbJ Zj rfl)
  obtain ⟨rfl,k2⟩:=Ye4 r2
  obtain ⟨d3,r3,b3⟩:=(Yq hf hq (i:=3) (k:=1) (y:=x3) (cs':=[v3]) rfl rfl YbJ Zj rfl)
  obtain ⟨rfl,k3⟩:=Ye4 r3
  refine ⟨⟨d0,d1,d2,d3⟩,⟨_,rfl,⟨k0,k1,k2,k3⟩⟩,?_⟩
  simp only [List.map_cons,List.map_nil,Rows.uptoBulk,Rows.uptoBulkAll,funW]
  simp only [Wx,Wy] at*
  omega
theorem Yd8 {fuel:Nat}:XY enc prog w base spare held (slL functionL) (fun l=>(l.map funW).sum) 43 fuel:=Xu Tryz.underlying43 Zj (fun _ _=>YeM)
theorem YgM {fuel:Nat}:XY enc prog w base spare held actionL actW 41 fuel:=fun cs x h hq0=>by
 obtain ⟨xs,n,hfu,rfl,hcl,hxl,hf⟩:=DataW.trod_struct Tryz.underlying41 h
 have hc:prog.cellsOf 41=10:=by kernel_rfl
 rw [hc] at hcl
 have hq:Rows.uptoBulkAll (xs.map (·.1))≤1048576:=by simp only [Rows.uptoBulk] at hq0;omega
 match cs,hcl,xs,hxl,hf,hq with
 | [v0,v1,v2,v3,v4,v5,v6,v7,v8,v9],_,[x0,x1,x2,x3,x4],_,hf,hq=>
  obtain ⟨d0,r0,b0⟩:=(Yq hf hq (i:=0) (k:=1) (y:=x0) (cs':=[v0]) rfl rfl XZ Zj rfl)
  obtain ⟨rfl,k0⟩:=YaG r0
  obtain ⟨d1,r1,b1⟩:=(Yq hf hq (i:=1) (k:=1) (y:=x1) (cs':=[v1]) rfl rfl XG Zj rfl)
  have k1:=XA r1
  obtain ⟨d2,r2,b2⟩:=(Yq hf hq (i:=2) (k:=1) (y:=x2) (cs':=[v2]) rfl rfl YbJ Zj rfl)
  obtain ⟨rfl,k2⟩:=Ye4 r2
  obtain ⟨d3,r3,b3⟩:=(Yq hf hq (i:=3) (k:=6) (y:=x3) (cs':=[v3,v4,v5,v6,v7,v8]) rfl rfl (Wd _) Zj rfl)
  obtain ⟨y3_0,y3_1,y3_2,y3_3,e3,k3⟩:=YA r3
  simp only [List.cons.injEq,and_true] at e3
  obtain ⟨rfl,rfl,rfl,rfl,rfl,rfl⟩:=e3
  obtain ⟨d4,r4,b4⟩:=(Yq hf hq (i:=4) (k:=1) (y:=x4) (cs':=[v9]) rfl rfl Ybe Zj rfl)
  have k4:=XA r4
  refine ⟨⟨d0,d1,d2,d3,d4⟩,⟨_,_,_,_,_,_,rfl,⟨k0,k1,k2,k3,k4⟩⟩,?_⟩
  simp only [List.map_cons,List.map_nil,Rows.uptoBulk,Rows.uptoBulkAll,actW]
  simp only [Wx,Wy] at*
  omega
theorem YfE {fuel:Nat}:XY enc prog w base spare held (slL actionL) (fun l=>(l.map actW).sum) 42 fuel:=Xu Tryz.underlying42 Zj (fun _ _=>YgM)
theorem YeO {fuel:Nat}:XY enc prog w base spare held durativeL durW 106 fuel:=fun cs x h hq0=>by
 obtain ⟨xs,n,hfu,rfl,hcl,hxl,hf⟩:=DataW.trod_struct Tryz.underlying106 h
 have hc:prog.cellsOf 106=23:=by kernel_rfl
 rw [hc] at hcl
 have hq:Rows.uptoBulkAll (xs.map (·.1))≤1048576:=by simp only [Rows.uptoBulk] at hq0;omega
 match cs,hcl,xs,hxl,hf,hq with
 | [v0,v1,v2,v3,v4,v5,v6,v7,v8,v9,v10,v11,v12,v13,v14,v15,v16,v17,v18,v19,v20,v21,v22],_,[x0,x1,x2,x3,x4,x5,x6,x7],_,hf,hq=>
  obtain ⟨d0,r0,b0⟩:=(Yq hf hq (i:=0) (k:=1) (y:=x0) (cs':=[v0]) rfl rfl XZ Zj rfl)
  obtain ⟨rfl,k0⟩:=YaG r0
  obtain ⟨d1,r1,b1⟩:=(Yq hf hq (i:=1) (k:=1) (y:=x1) (cs':=[v1]) rfl rfl XG Zj rfl)
  have k1:=XA r1
  obtain ⟨d2,r2,b2⟩:=(Yq hf hq (i:=2) (k:=1) (y:=x2) (cs':=[v2]) rfl rfl YbJ Zj rfl)
  obtain ⟨rfl,k2⟩:=Ye4 r2
  obtain ⟨d3,r3,b3⟩:=(Yq hf hq (i:=3) (k:=6) (y:=x3) (cs':=[v3,v4,v5,v6,v7,v8]) rfl rfl (Wd _) Zj rfl)
  obtain ⟨y3_0,y3_1,y3_2,y3_3,e3,k3⟩:=YA r3
  simp only [List.cons.injEq,and_true] at e3
  obtain ⟨rfl,rfl,rfl,rfl,rfl,rfl⟩:=e3
  obtain ⟨d4,r4,b4⟩:=(Yq hf hq (i:=4) (k:=6) (y:=x4) (cs':=[v9,v10,v11,v12,v13,v14]) rfl rfl (Wd _) Zj rfl)
  obtain ⟨y4_0,y4_1,y4_2,y4_3,e4,k4⟩:=YA r4
  simp only [List.cons.injEq,and_true] at e4
  obtain ⟨rfl,rfl,rfl,rfl,rfl,rfl⟩:=e4
  obtain ⟨d5,r5,b5⟩:=(Yq hf hq (i:=5) (k:=6) (y:=x5) (cs':=[v15,v16,v17,v18,v19,v20]) rfl rfl (Wd _) Zj rfl)
  obtain ⟨y5_0,y5_1,y5_2,y5_3,e5,k5⟩:=YA r5
  simp only [List.cons.injEq,and_true] at e5
  obtain ⟨rfl,rfl,rfl,rfl,rfl,rfl⟩:=e5
  obtain ⟨d6,r6,b6⟩:=(Yq hf hq (i:=6) (k:=1) (y:=x6) (cs':=[v21]) rfl rfl Ybe Zj rfl)
  have k6:=XA r6
  obtain ⟨d7,r7,b7⟩:=(Yq hf hq (i:=7) (k:=1) (y:=x7) (cs':=[v22]) rfl rfl Ybe Zj rfl)
  have k7:=XA r7
  refine ⟨⟨d0,d1,d2,d3,d4,d5,d6,d7⟩,⟨_,_,_,_,_,_,_,_,_,_,_,_,_,_,_,rfl,⟨k0,k1,k2,k3,k4,k5,k6,k7⟩⟩,?_⟩
  simp only [List.map_cons,List.map_nil,Rows.uptoBulk,Rows.uptoBulkAll,durW]
  simp only [Wx,Wy] at*
  omega
theorem Yd9 {fuel:Nat}:XY enc prog w base spare held (slL durativeL) (fun l=>(l.map durW).sum) 44 fuel:=Xu Tryz.underlying44 Zj (fun _ _=>YeO)
theorem YgK {fuel:Nat}:XY enc prog w base spare held domainL domW 46 fuel:=fun cs x h hq0=>by
 obtain ⟨xs,n,hfu,rfl,hcl,hxl,hf⟩:=DataW.trod_struct Tryz.underlying46 h
 have hc:prog.cellsOf 46=7:=by kernel_rfl
 rw [hc] at hcl
 have hq:Rows.uptoBulkAll (xs.map (·.1))≤1048576:=by simp only [Rows.uptoBulk] at hq0;omega
 match cs,hcl,xs,hxl,hf,hq with
 | [v0,v1,v2,v3,v4,v5,v6],_,[x0,x1,x2,x3,x4,x5,x6],_,hf,hq=>
  obtain ⟨d0,r0,b0⟩:=(Yq hf hq (i:=0) (k:=1) (y:=x0) (cs':=[v0]) rfl rfl XZ Zj rfl)
  obtain ⟨rfl,k0⟩:=YaG r0
  obtain ⟨d1,r1,b1⟩:=(Yq hf hq (i:=1) (k:=1) (y:=x1) (cs':=[v1]) rfl rfl XG Zj rfl)
  have k1:=XA r1
  obtain ⟨d2,r2,b2⟩:=(Yq hf hq (i:=2) (k:=1) (y:=x2) (cs':=[v2]) rfl rfl XG Zj rfl)
  have k2:=XA r2
  obtain ⟨d3,r3,b3⟩:=(Yq hf hq (i:=3) (k:=1) (y:=x3) (cs':=[v3]) rfl rfl Ydx Zj rfl)
  have k3:=XA r3
  obtain ⟨d4,r4,b4⟩:=(Yq hf hq (i:=4) (k:=1) (y:=x4) (cs':=[v4]) rfl rfl Yd8 Zj rfl)
  have k4:=XA r4
  obtain ⟨d5,r5,b5⟩:=(Yq hf hq (i:=5) (k:=1) (y:=x5) (cs':=[v5]) rfl rfl YfE Zj rfl)
  have k5:=XA r5
  obtain ⟨d6,r6,b6⟩:=(Yq hf hq (i:=6) (k:=1) (y:=x6) (cs':=[v6]) rfl rfl Yd9 Zj rfl)
  have k6:=XA r6
  refine ⟨⟨d0,d1,d2,d3,d4,d5,d6⟩,⟨_,_,_,_,_,_,rfl,⟨k0,k1,k2,k3,k4,k5,k6⟩⟩,?_⟩
  simp only [List.map_cons,List.map_nil,Rows.uptoBulk,Rows.uptoBulkAll,domW]
  simp only [Wx,Wy] at*
  omega
theorem YfD {fuel:Nat}:XY enc prog w base spare held problemL prbW 52 fuel:=fun cs x h hq0=>by
 obtain ⟨xs,n,hfu,rfl,hcl,hxl,hf⟩:=DataW.trod_struct Tryz.underlying52 h
 have hc:prog.cellsOf 52=11:=by kernel_rfl
 rw [hc] at hcl
 have hq:Rows.uptoBulkAll (xs.map (·.1))≤1048576:=by simp only [Rows.uptoBulk] at hq0;omega
 match cs,hcl,xs,hxl,hf,hq with
 | [v0,v1,v2,v3,v4,v5,v6,v7,v8,v9,v10],_,[x0,x1,x2,x3,x4,x5],_,hf,hq=>
  obtain ⟨d0,r0,b0⟩:=(Yq hf hq (i:=0) (k:=1) (y:=x0) (cs':=[v0]) rfl rfl XZ Zj rfl)
  obtain ⟨rfl,k0⟩:=YaG r0
  obtain ⟨d1,r1,b1⟩:=(Yq hf hq (i:=1) (k:=1) (y:=x1) (cs':=[v1]) rfl rfl XZ Zj rfl)
  obtain ⟨rfl,k1⟩:=YaG r1
  obtain ⟨d2,r2,b2⟩:=(Yq hf hq (i:=2) (k:=1) (y:=x2) (cs':=[v2]) rfl rfl XG Zj rfl)
  have k2:=XA r2
  obtain ⟨d3,r3,b3⟩:=(Yq hf hq (i:=3) (k:=1) (y:=x3) (cs':=[v3]) rfl rfl YhR Zj rfl)
  have k3:=XA r3
  obtain ⟨d4,r4,b4⟩:=(Yq hf hq (i:=4) (k:=1) (y:=x4) (cs':=[v4]) rfl rfl YgJ Zj rfl)
  have k4:=XA r4
  obtain ⟨d5,r5,b5⟩:=(Yq hf hq (i:=5) (k:=6) (y:=x5) (cs':=[v5,v6,v7,v8,v9,v10]) rfl rfl (Wd _) Zj rfl)
  obtain ⟨y5_0,y5_1,y5_2,y5_3,e5,k5⟩:=YA r5
  simp only [List.cons.injEq,and_true] at e5
  obtain ⟨rfl,rfl,rfl,rfl,rfl,rfl⟩:=e5
  refine ⟨⟨d0,d1,d2,d3,d4,d5⟩,⟨_,_,_,_,_,_,_,rfl,⟨k0,k1,k2,k3,k4,k5⟩⟩,?_⟩
  simp only [List.map_cons,List.map_nil,Rows.uptoBulk,Rows.uptoBulkAll,prbW]
  simp only [Wx,Wy] at*
  omega
variable {t:TypeId} {v:Value}
theorem YdW {α:Type} {L:Lay α} {wt:α→Nat} {fs:Array Field} {r:Reach} {b0:Nat} {d:DataW H} {p:List MemPlace} (hu:prog.underlying t=some (.struct fs)) (ho:∀ fuel,XY enc prog w base spare held L wt t fuel) (hv:Value.okWide prog w r b0 t v) (h:DataW.Trod enc prog w base spare held t v d p) (hq:Rows.uptoBulk d≤1048576):
 ∃ x cs,v=.agg (List.toArray cs)∧L.rep (fzOf w) x cs∧wt x≤1048576:=by
 obtain ⟨cs,rfl,hsz⟩:=okWide_struct hu hv
 obtain ⟨l⟩:=cs
 obtain ⟨fuel,hf⟩:=h
 obtain ⟨x,hx,hw⟩:=ho fuel _ _ hf hq
 exact ⟨x,l,rfl,hx,Nat.le_trans hw hq⟩
end
end Go.Proofs.YtbnpeechpebmeaaGreatDoor
namespace Go.Proofs.YtbnpeechpebmeaaGreatDoor
open Go.ChangeShapes Go.WideShapes Go.ChangeAt Go.RowKit Go.Lx
theorem Ydw:ownKnob Tryz.prog.godebug=none:=by kernel_rfl
theorem Ybp:laidOutB Tryz.prog=true:=by kernel_rfl
theorem YhW {W:World} (h:W.ShapedOpen Tryz.prog):MaxF (fzOf W):=by
 obtain ⟨m,hm⟩:=cell_of_shapedOpen_int (P:=Tryz.prog) (g:=0) (t:=3) (zero:=#[.int .i64 0]) h (of_decide_eq_true Zj) Zj rfl Zj Zj Tryz.underlying3
 exact ⟨m,Ykg hm⟩
theorem YfB (os:Os) {H:Type} (enc:TypeId × Value→H):∃ places,DataW.whole enc Tryz.prog ((World.laidAll Tryz.prog os Rows.reachInitialUptoRow.laid).forCall (fun _ _=>0) ⟨#[],#[.agg #[.string ⟨#[]⟩,.slice none 0 0,.slice none 0 0,.slice none 0 0,.slice none 0 0,.slice none 0 0,.slice none 0 0],.agg #[.string ⟨#[]⟩,.string ⟨#[]⟩,.slice none 0 0,.slice none 0 0,.slice none 0 0,.string ⟨#[]⟩,.string ⟨#[]⟩,.slice none 0 0,.slice none 0 0,.slice none 0 0,.slice none 0 0]],[]⟩).memory Tryz.f4.params.toList (Rows.OpenSpec.upto Rows.reachInitialSpec).vars false (#[.agg #[.string ⟨#[]⟩,.slice none 0 0,.slice none 0 0,.slice none 0 0,.slice none 0 0,.slice none 0 0,.slice none 0 0],.agg #[.string ⟨#[]⟩,.string ⟨#[]⟩,.slice none 0 0,.slice none 0 0,.slice none 0 0,.string ⟨#[]⟩,.string ⟨#[]⟩,.slice none 0 0,.slice none 0 0,.slice none 0 0,.slice none 0 0]]:Array Value).toList 8=some ([.agg [.lit (.string []),.nil,.nil,.nil,.nil,.nil,.nil],.agg [.lit (.string []),.lit (.string []),.nil,.nil,.nil,.agg [.lit (.string []),.lit (.string []),.nil,.nil,.nil,.nil]]],[],places):=⟨[],by kernel_rfl⟩
set_option maxRecDepth 100000 in
set_option maxHeartbeats 4000000 in
theorem YeH (os:Os) (started:os.Started) (H:Type) (enc:TypeId × Value→H) (F:Stop.Interp):
 ReturnsInHanded {} Tryz.checked os 4 .any ((Rows.OpenSpec.upto Rows.reachInitialSpec).preRow enc Tryz.prog Tryz.f4 Rows.reachInitialUptoRow.domain false Rows.reachInitialUptoRow.laid) (((Rows.OpenSpec.upto Rows.reachInitialSpec).at F).post enc Tryz.prog Tryz.f4 false true false false):=by
 obtain ⟨places,hx⟩:=YfB os enc
 refine returnsInHanded_of_row (C:=Tryz.checked) (s:=Rows.OpenSpec.upto Rows.reachInitialSpec) Ydw started Zj Tryz.func4
  ⟨World.laidAll Tryz.prog os Rows.reachInitialUptoRow.laid,fun _ _=>0,⟨#[],#[.agg #[.string ⟨#[]⟩,.slice none 0 0,.slice none 0 0,.slice none 0 0,.slice none 0 0,.slice none 0 0,.slice none 0 0],.agg #[.string ⟨#[]⟩,.string ⟨#[]⟩,.slice none 0 0,.slice none 0 0,.slice none 0 0,.string ⟨#[]⟩,.string ⟨#[]⟩,.slice none 0 0,.slice none 0 0,.slice none 0 0,.slice none 0 0]],[]⟩,World.laidAll_os _ _ _,World.shaped_of_ZipB Zj Zj,rfl,(Input.okWide_of_okWideB Zj).2,
   OpenSpec.preRow_of_cond 8 hx Zj (fun k hk=>by cases hk;kernel_rfl) Zj (by rw [MakeChecks.laidMetH_plain _ _ _ Zj];exact laidMet_laidAll _ Zj Zj),
   by simp only [Assume.holds];exact ⟨by simp,by simp,fun _=>Modest.zero,by simp,by simp⟩⟩ ?_
 intro W base args ds gs before hval0 hW _ hcond _ _ hsh _
 have hval:∀ (j:Nat) t v,Tryz.f4.params[j]?=some t→args[j]?=some v→Value.okWide Tryz.prog W .any base t v:=hval0
 have hbk:Rows.uptoSmall H (ds++gs)=true:=hcond _ rfl
 have hW':DataW.Whole enc Tryz.prog Tryz.f4.params.toList Rows.reachInitialSpec.vars false W args.toList ds gs before:=hW
 obtain ⟨p,q,hA0,hV,rfl,_,_⟩:=hW
 have hA:DataW.TrodAll enc Tryz.prog W 0 (fun _=>true) true Tryz.f4.params.toList args.toList ds p:=hA0
 rw [Tryz.params4] at hA hval
 obtain ⟨v0,v1,d0,d1,p0,p1,rfl,rfl,rfl,h0,h1⟩:=trodAll_two hA
 obtain ⟨rfl,rfl⟩:=trodVars_none hV
 clear hA0 hval0
 simp only [List.append_nil] at hW'
 have hlt:∀ x∈p0++p1,x.block<W.heap.size:=fun x hx=>hW'.lt x hx
 have hq:Rows.uptoBulk d0≤1048576∧Rows.uptoBulk d1≤1048576:=by
  have h9:=of_decide_eq_true hbk
  simp only [List.append_nil,Rows.uptoBulkAll] at h9
  omega
 obtain ⟨x,cs,rfl,⟨u1,u2,u3,u4,u5,u6,rfl,hg⟩,hw⟩:=YdW Tryz.underlying46 (fun _=>YgK) (hval 0 46 v0 rfl rfl) h0 hq.1
 obtain ⟨y,cs,rfl,⟨z1,z2,z3,z4,z5,z6,z7,rfl,hp⟩,hw2⟩:=YdW Tryz.underlying52 (fun _=>YfD) (hval 1 52 v1 rfl rfl) h1 hq.2
 refine ((linit_q (YhW hsh) hg hp Zi Zi (fun _ h=>YmM h)).calls (hp_of W)).mono fun e W' ⟨he1,hfr⟩=>?_
 have hb:=below_of hfr
 have k0:=Below.trod Ybp Zj (of_decide_eq_true Zj) h0 hb (fun x hx=>hlt x (by simp [hx]))
 have k1:=Below.trod Ybp Zj (of_decide_eq_true Zj) h1 hb (fun x hx=>hlt x (by simp [hx]))
 show ∃ v,e=.returned v∧Rows.reachInitialSpec.post enc Tryz.prog Tryz.f4 false true false false W _ v W'
 exact ⟨_,he1,[d0,d1],[],_,[],_,[],hW',trodAll_mk1 (shut_bool Tryz.underlying4 true),trodAll_mk2 k0 k1,rfl,hb.frame _,fun h=>by cases h⟩
end Go.Proofs.YtbnpeechpebmeaaGreatDoor
