/- The texts EwI, laid together. Conditions: none. -/
import Derived.Test.YtaaanbkahfeknaaGreatDoorCNS
set_option linter.all false
namespace Go.Proofs.YtaaanbkahfeknaaGreatDoor
open Go.Lx Go.Ev Go.RowKit
open Go.Proofs.Tryz (prog)
variable {n:Nat}
theorem idx_of {n:Nat} (hn:n<256):∀ l:List Nat,l.all (fun n=>Nat.blt n 256)=true->Lib.indexByte (l.map UInt8.ofNat) (UInt8.ofNat n)=(l.findIdx? (Nat.beq n)).elim (-1) fun i=>(i:Int)
 | [],_=>rfl
 | x::r,h=>by
  simp only [List.all_cons,Bool.and_eq_true,Nat.blt_eq] at h;have ih:=idx_of hn r h.2;simp only [List.map_cons,Lib.indexByte,List.findIdx?_cons];by_cases hx:n=x
  ·subst hx;simp
  have h1:Nat.beq n x=false:=Xa hx;have h2:(UInt8.ofNat x==UInt8.ofNat n)=false:=by
   rw [Bool.eq_false_iff];intro hc;rw [beq_iff_eq] at hc;exact hx (Ydv h.1 hn hc).symm
  rw [h1,h2,ih];cases hf:r.findIdx? (Nat.beq n) with
  | none=>simp
  | some i=>
   have:¬((i:Int)= -1):=by omega
   simp [this]
theorem u8_of:((n:Int).toNat).toUInt8=UInt8.ofNat n:=by simp [Nat.toUInt8]
set_option maxRecDepth 100000 in
theorem ibs_ok:Go.Ev.FOk prog tT.get 296 .ibs:=fun fz l n hl hn=>by
 refine GFn.quiet (YbW (n:=8) Tryz.func296 rfl rfl rfl Zj fun w0=>?_);refine Yy (Xg (Seq.q rfl (XM (v:=Zk 0) ?_ (hx:=rfl))));refine WD (Yy (Xg (Seq.q rfl (Yz (v:=.string (bs l)) ?_ (hx:=rfl)))));refine Seq.q rfl (Yz (v:=.int .u8 n) ?_ (hx:=rfl));refine Seq.q rfl (DoesQ.of (v:=Zk (Lib.indexByte (bs l).data.toList ((n:Int).toNat).toUInt8)) ?_ fun ρ w hr hi=>?_)
 ·refine Seq.q rfl (XM (v:=Zk (Lib.indexByte (bs l).data.toList ((n:Int).toNat).toUInt8)) ?_ (hx:=rfl));refine WD (Yby (ret1 (v:=Zk (Lib.indexByte (bs l).data.toList ((n:Int).toNat).toUInt8)) rfl rfl (List.Sublist.refl _) ?_));have e:(bs l).data.toList=l.map UInt8.ofNat:=by simp [bs]
  rw [e,u8_of,idx_of hn l hl]
 have h5:ρ (.tmp 5)=.string (bs l):=hr _ _ rfl;have h6:ρ (.tmp 6)=.int .u8 n:=hr _ _ rfl;have h7:ρ (.func 325)=.func (.func 325) #[] #[]:=hr _ _ rfl;have hrun:=run_callFunc_indexByte (P:=prog) Tryz.func325 Zj rfl (by rfl) (by rfl) #[.string (bs l),.int .u8 n] w;rw [Lib.run_indexByteString] at hrun;simp only [execOp,resolve,Deferred.ofValue,invoke,List.map_toArray,List.map_cons,List.map_nil,h5,h6,h7,Sem.run_bind,Sem.run_pure,Result.andThen_ok] at hrun ⊢;simp only [Array.empty_append,Array.append_empty];rw [hrun];exact ⟨rfl,Fr.refl _ _⟩
end Go.Proofs.YtaaanbkahfeknaaGreatDoor
