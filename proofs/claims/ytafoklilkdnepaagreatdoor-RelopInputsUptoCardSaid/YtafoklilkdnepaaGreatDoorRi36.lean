/- Part 36 of the texts of this proof, one behind the other. No condition beyond those that its theorems state. -/
import Derived.Test.YtafoklilkdnepaaGreatDoorRi35
import Derived.Test.YtafoklilkdnepaaGreatDoorRows
import Derived.Deep.DeepHandedRow
import Derived.Lib.LaidTab
import Derived.Lib.LaidIn
import GoSem.PinnedTables
set_option maxRecDepth 40000
set_option maxHeartbeats 25600000
namespace Go.Proofs.YtafoklilkdnepaaGreatDoor
section
open Go.ChangeShapes Go.WideShapes Go.ChangeAt Go.RowKit
theorem gNd:Tryz.prog.globalNamed "bywash/relop.needs" = some 0:=by kernel_rfl
theorem gNdType:(Tryz.prog.globals[0]?).map (·.type)=some 124:=by kernel_rfl
theorem cellsN:Tryz.prog.cellsOf 124=10:=by kernel_rfl
theorem cellsI:Tryz.prog.cellsOf 3=1:=by kernel_rfl
theorem needs_at {W:World} (h:laidMetH Tryz.prog [("math/bits.deBruijn32tab",Rows.laid_math_bits_deBruijn32tab),("math/bits.deBruijn64tab",Rows.laid_math_bits_deBruijn64tab),("internal/strconv.uint64pow10",Rows.laid_internal_strconv_uint64pow10),("bywash/relop.needs",Rows.laid_bywash_relop_needs)] W):NeedsAt W:=by
 have h':laidMet Tryz.prog [("math/bits.deBruijn32tab",Rows.laid_math_bits_deBruijn32tab),("math/bits.deBruijn64tab",Rows.laid_math_bits_deBruijn64tab),("internal/strconv.uint64pow10",Rows.laid_internal_strconv_uint64pow10),("bywash/relop.needs",Rows.laid_bywash_relop_needs)] W:=h
 obtain ⟨ps,⟨g0,t0,cs0,fuel0,p0,q0,_,_,_,_,⟨g1,t1,cs1,fuel1,p1,q1,_,_,_,_,⟨g2,t2,cs2,fuel2,p2,q2,_,_,_,_,⟨g3,t3,cs3,fuel3,p3,q3,hg,hty,hvar,hd,_⟩,_⟩,_⟩,_⟩,_⟩:=h'
 obtain rfl:=Option.some.inj (gNd.symm.trans hg)
 obtain rfl:=Option.some.inj (gNdType.symm.trans hty)
 have hc:=Lib.cells_of_tab (k:=.i64) (zs:=[0,0,1,1,2,2,1,2,1,1]) Tryz.underlying124 Tryz.underlying3 cellsI cellsN hd
 have hcell:=World.var?_cell gNd hvar
 intro k hk
 rw [hcell]
 have hc':cs3[k]?=(([0,0,1,1,2,2,1,2,1,1]:List Int).map fun z=>Value.int .i64 z)[k]?:=by rw [<- hc];simp
 have hk':k=0\/k=1\/k=2\/k=3\/k=4\/k=5\/k=6\/k=7\/k=8\/k=9:=by omega
 rcases hk' with rfl | rfl | rfl | rfl | rfl | rfl | rfl | rfl | rfl | rfl <;> simpa [needV] using hc'
def cellsOfData:DataW Unit->List Value
 | .agg l=>l.flatMap fun d=>match d with
  | .lit (.int k z)=>[.int k z]
  | _=>[]
 | _=>[]
def setRow (h:Array Obj) (g:Nat) (cs:List Value):Array Obj:=h.modify g fun o=>match o with
 | .cells _ t frozen=>.cells cs.toArray t frozen
 | o=>o
noncomputable def laidWorld (os:Os):World :=
 { World.holding Tryz.prog os ⟨#[],#[],[]⟩ with
  heap:=setRow (setRow (setRow (setRow (World.holding Tryz.prog os ⟨#[],#[],[]⟩).heap 3 (cellsOfData Rows.laid_math_bits_deBruijn32tab)) 4 (cellsOfData Rows.laid_math_bits_deBruijn64tab)) 2 (cellsOfData Rows.laid_internal_strconv_uint64pow10)) 0 (cellsOfData Rows.laid_bywash_relop_needs) }
end
section
open Go.ChangeShapes Go.WideShapes Go.ChangeAt Go.RowKit
theorem gPw:Tryz.prog.globalNamed "internal/strconv.uint64pow10" = some 2:=by kernel_rfl
theorem gPwType:(Tryz.prog.globals[2]?).map (·.type)=some 267:=by kernel_rfl
theorem cellsP:Tryz.prog.cellsOf 267=20:=by kernel_rfl
theorem cellsU:Tryz.prog.cellsOf 184=1:=by kernel_rfl
theorem pow_data {H:Type}:(Rows.laid_internal_strconv_uint64pow10:DataW H)=Lib.tabData .u64 Lib.pow10Tab:=by rfl
theorem pow_at {W:World} (h:laidMetH Tryz.prog [("math/bits.deBruijn32tab",Rows.laid_math_bits_deBruijn32tab),("math/bits.deBruijn64tab",Rows.laid_math_bits_deBruijn64tab),("internal/strconv.uint64pow10",Rows.laid_internal_strconv_uint64pow10),("bywash/relop.needs",Rows.laid_bywash_relop_needs)] W):PowAt W:=by
 have h':laidMet Tryz.prog [("math/bits.deBruijn32tab",Rows.laid_math_bits_deBruijn32tab),("math/bits.deBruijn64tab",Rows.laid_math_bits_deBruijn64tab),("internal/strconv.uint64pow10",Rows.laid_internal_strconv_uint64pow10),("bywash/relop.needs",Rows.laid_bywash_relop_needs)] W:=h
 obtain ⟨ps,⟨g0,t0,cs0,fuel0,p0,q0,_,_,_,_,⟨g1,t1,cs1,fuel1,p1,q1,_,_,_,_,⟨g2,t2,cs2,fuel2,p2,q2,hg,hty,hvar,hd,_⟩,_⟩,_⟩,_⟩:=h'
 obtain rfl:=Option.some.inj (gPw.symm.trans hg)
 obtain rfl:=Option.some.inj (gPwType.symm.trans hty)
 rw [pow_data] at hd
 have hc:=Lib.cells_of_tab (k:=.u64) (zs:=Lib.pow10Tab) Tryz.underlying267 Tryz.underlying184 cellsU cellsP hd
 show W.var? _ _=_
 rw [hvar,<- hc]
end
end Go.Proofs.YtafoklilkdnepaaGreatDoor
