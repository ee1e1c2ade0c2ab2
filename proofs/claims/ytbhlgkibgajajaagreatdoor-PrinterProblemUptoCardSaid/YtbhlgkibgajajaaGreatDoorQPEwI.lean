/- The texts EwI, laid together. Conditions: none. -/
import Derived.Test.YtbhlgkibgajajaaGreatDoorQPQ
import Derived.Test.YtbhlgkibgajajaaGreatDoorQPR
import Derived.Test.YtbhlgkibgajajaaGreatDoorQPS
import Derived.Test.YtbhlgkibgajajaaGreatDoorQPP
import Derived.Test.YtbhlgkibgajajaaGreatDoorQPT
import Derived.Test.YtbhlgkibgajajaaGreatDoorQPB
import Derived.Test.YtbhlgkibgajajaaGreatDoorQPC
import Derived.Test.YtbhlgkibgajajaaGreatDoorQPE
import Derived.Test.YtbhlgkibgajajaaGreatDoorQPU
import Derived.Laws.StandIn
import Derived.Lib.Bytealg
namespace Go.Proofs.YtbhlgkibgajajaaGreatDoor
open Go.Lx Go.Ev Go.RowKit
theorem idx_of {n:Nat} (hn:n<256):∀ l:List Nat,l.all (fun n=>Nat.blt n 256)=true→Lib.indexByte (l.map UInt8.ofNat) (UInt8.ofNat n)=(l.findIdx? (Nat.beq n)).elim (-1) fun i=>(i:Int)
 | [],_=>rfl
 | x::r,h=>by
  simp only [List.all_cons,Bool.and_eq_true,Nat.blt_eq] at h
  have ih:=idx_of hn r h.2
  simp only [List.map_cons,Lib.indexByte,List.findIdx?_cons]
  by_cases hx:n=x
  ·subst hx
   simp
  ·have h1:Nat.beq n x=false:=XC hx
   have h2:(UInt8.ofNat x==UInt8.ofNat n)=false:=by
    rw [Bool.eq_false_iff]
    intro hc
    rw [beq_iff_eq] at hc
    exact hx (YdP h.1 hn hc).symm
   rw [h1,h2,ih]
   cases hf:r.findIdx? (Nat.beq n) with
   | none=>simp
   | some i=>
    have:¬((i:Int)= -1):=by omega
    simp [this]
theorem u8_of {n:Nat}:((n:Int).toNat).toUInt8=UInt8.ofNat n:=by simp [Nat.toUInt8]
set_option maxRecDepth 100000 in
theorem ibs_ok:Go.Ev.FOk Tryz.prog tT.get 244 .ibs:=fun fz l n hl hn=>by
 refine GFn.quiet (GFn.of_wp (n:=8) Tryz.func244 rfl rfl rfl Zj fun w0=>?_)
 refine Yr (Yp (Seq.q rfl (Xk (v:=.int .i64 0) rfl ?_)))
 refine Wg (Yr (Yp (Seq.q rfl (Yah (v:=.string (bs l)) rfl ?_))))
 refine Seq.q rfl (Yah (v:=.int .u8 n) rfl ?_)
 refine Seq.q rfl (DoesQ.of (v:=.int .i64 (Lib.indexByte (bs l).data.toList ((n:Int).toNat).toUInt8)) ?_ fun ρ w hr hi=>?_)
 ·refine Seq.q rfl (Xk (v:=.int .i64 (Lib.indexByte (bs l).data.toList ((n:Int).toNat).toUInt8)) rfl ?_)
  refine Wg (YbD (ret1 (v:=.int .i64 (Lib.indexByte (bs l).data.toList ((n:Int).toNat).toUInt8)) rfl rfl (List.Sublist.refl _) ?_))
  have e:(bs l).data.toList=l.map UInt8.ofNat:=by simp [bs]
  rw [e,u8_of,idx_of hn l hl]
 ·have h5:ρ (.tmp 5)=.string (bs l):=hr _ _ rfl
  have h6:ρ (.tmp 6)=.int .u8 n:=hr _ _ rfl
  have h7:ρ (.func 270)=.func (.func 270) #[] #[]:=hr _ _ rfl
  have hrun:=run_callFunc_indexByte (P:=Tryz.prog) Tryz.func270 Zj rfl (by rfl) (by rfl) #[.string (bs l),.int .u8 n] w
  rw [Lib.run_indexByteString] at hrun
  simp only [execOp,resolve,Deferred.ofValue,invoke,List.map_toArray,List.map_cons,List.map_nil,h5,h6,h7,Sem.run_bind,Sem.run_pure,Result.andThen_ok] at hrun ⊢
  simp only [Array.empty_append,Array.append_empty]
  rw [hrun]
  exact ⟨rfl,Fr.refl _ _⟩
end Go.Proofs.YtbhlgkibgajajaaGreatDoor
