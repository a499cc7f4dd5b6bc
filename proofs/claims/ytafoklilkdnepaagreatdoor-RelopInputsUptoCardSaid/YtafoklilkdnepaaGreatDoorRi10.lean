/- Part 10 of the texts of this proof, one behind the other. No condition beyond those that its theorems state. -/
import Derived.Test.YtafoklilkdnepaaGreatDoorRi9
import Derived.Shelf.Small.Bits
import Derived.Shelf.Small.Strs
import Derived.Shelf.Small.Wraps
import Derived.Shelf.Strconv.Itoa0
import Derived.Shelf.Strconv.Itoa1
import Derived.Shelf.LaysM
import Derived.Shelf.Strconv.Itoa2
import Derived.Shelf.Strconv.Itoa3
import Derived.Shelf.Strings.Search1
import Derived.Shelf.Sort.Plain
import Derived.Shelf.Slices.Turned
import Derived.Shelf.Slices.Equal
import Derived.Shelf.Slices.CompactS
import Derived.Ground.Names2Prog
import Derived.Shelf.Slices.SearchI
import Derived.Shelf.Slices.Cells
import Derived.Shelf.Slices.In.SortNone
import Derived.Shelf.Slices.Empties2
import Derived.Shelf.SlGeneric
import Derived.Ground.SlsfProg
import Derived.Shelf.SlSortCmp.NoneTotal
import Derived.Test.YtafoklilkdnepaaGreatDoorProg
import Derived.Lib.ItoaLen
set_option maxRecDepth 40000
set_option maxHeartbeats 25600000
namespace Go.Proofs.YtafoklilkdnepaaGreatDoor
end Go.Proofs.YtafoklilkdnepaaGreatDoor
namespace Go.Proofs
open Go.Shelf
def Tryz.lays190_ren:Go.Shelf.Ren:=⟨fun | 190=>60 | 125=>85 | 258=>84 | 128=>124 | 129=>125 | 302=>115 | 303=>116 | 304=>117 | 305=>118 | 306=>119 | 307=>120 | 308=>121 | 309=>122 | 310=>123 | 333=>158 | 329=>159 | 330=>160 | 334=>161 | 335=>162 | 336=>163 | 344=>191 | n=>n,fun | 31=>45 | 9=>9 | 3=>3 | 46=>149 | 0=>0 | 51=>182 | 53=>184 | 4=>4 | 183=>175 | 182=>174 | 131=>137 | 5=>5 | 218=>216 | 222=>220 | 228=>245 | 229=>246 | n=>n,fun | n=>n⟩
theorem Tryz.lays190:Go.Proofs.Lays.n190 Tryz.prog Tryz.lays190_ren:={
 mixed:=by kernel_rfl
 f125:=Tryz.func85.trans (congrArg some (by kernel_rfl))
 f128:=Tryz.func124.trans (congrArg some (by kernel_rfl))
 f129:=Tryz.func125.trans (congrArg some (by kernel_rfl))
 f190:=Tryz.func60.trans (congrArg some (by kernel_rfl))
 f258:=Tryz.func84.trans (congrArg some (by kernel_rfl))
 f302:=Tryz.func115.trans (congrArg some (by kernel_rfl))
 f303:=Tryz.func116.trans (congrArg some (by kernel_rfl))
 f304:=Tryz.func117.trans (congrArg some (by kernel_rfl))
 f305:=Tryz.func118.trans (congrArg some (by kernel_rfl))
 f306:=Tryz.func119.trans (congrArg some (by kernel_rfl))
 f307:=Tryz.func120.trans (congrArg some (by kernel_rfl))
 f308:=Tryz.func121.trans (congrArg some (by kernel_rfl))
 f309:=Tryz.func122.trans (congrArg some (by kernel_rfl))
 f310:=Tryz.func123.trans (congrArg some (by kernel_rfl))
 f329:=Tryz.func159.trans (congrArg some (by kernel_rfl))
 f330:=Tryz.func160.trans (congrArg some (by kernel_rfl))
 f333:=Tryz.func158.trans (congrArg some (by kernel_rfl))
 f334:=Tryz.func161.trans (congrArg some (by kernel_rfl))
 f335:=Tryz.func162.trans (congrArg some (by kernel_rfl))
 f336:=Tryz.func163.trans (congrArg some (by kernel_rfl))
 f344:=Tryz.func191.trans (congrArg some (by kernel_rfl))
 t0:=Tryz.underlying0
 a0:=Tryz.isAgg0
 z0:=Tryz.sizeOf0
 v0:=Tryz.zeroValue0
 t3:=Tryz.underlying3
 a3:=Tryz.isAgg3
 z3:=Tryz.sizeOf3
 v3:=Tryz.zeroValue3
 t4:=Tryz.underlying4
 a4:=Tryz.isAgg4
 z4:=Tryz.sizeOf4
 v4:=Tryz.zeroValue4
 t5:=Tryz.underlying5
 a5:=Tryz.isAgg5
 z5:=Tryz.sizeOf5
 v5:=Tryz.zeroValue5
 t9:=Tryz.underlying9
 a9:=Tryz.isAgg9
 z9:=Tryz.sizeOf9
 v9:=Tryz.zeroValue9
 t31:=Tryz.underlying45
 a31:=Tryz.isAgg45
 z31:=Tryz.sizeOf45
 v31:=Tryz.zeroValue45
 t46:=Tryz.underlying149
 a46:=Tryz.isAgg149
 z46:=Tryz.sizeOf149
 v46:=Tryz.zeroValue149
 t51:=Tryz.underlying182
 a51:=Tryz.isAgg182
 z51:=Tryz.sizeOf182
 v51:=Tryz.zeroValue182
 t53:=Tryz.underlying184
 a53:=Tryz.isAgg184
 z53:=Tryz.sizeOf184
 v53:=Tryz.zeroValue184
 t131:=Tryz.underlying137
 a131:=Tryz.isAgg137
 z131:=Tryz.sizeOf137
 v131:=Tryz.zeroValue137
 t182:=Tryz.underlying174
 a182:=Tryz.isAgg174
 z182:=Tryz.sizeOf174
 v182:=Tryz.zeroValue174
 t183:=Tryz.underlying175
 a183:=Tryz.isAgg175
 z183:=Tryz.sizeOf175
 v183:=Tryz.zeroValue175
 t218:=Tryz.underlying216
 a218:=Tryz.isAgg216
 z218:=Tryz.sizeOf216
 v218:=Tryz.zeroValue216
 t222:=Tryz.underlying220
 a222:=Tryz.isAgg220
 z222:=Tryz.sizeOf220
 v222:=Tryz.zeroValue220
 t228:=Tryz.underlying245
 a228:=Tryz.isAgg245
 z228:=Tryz.sizeOf245
 v228:=Tryz.zeroValue245
 t229:=Tryz.underlying246
 a229:=Tryz.isAgg246
 z229:=Tryz.sizeOf246
 v229:=Tryz.zeroValue246 }
open Go.Sort Go.RowKit in
theorem Tryz.slices_Sort_string (blk off cap:Nat) (ss:List (List UInt8)) (w:World) (hH:Holds encStr w blk off ss.toArray) (hblk:blk < w.heap.size) (hsz:ss.length < 4611686018427387904) :
  Calls Tryz.prog 60 #[.slice (some ⟨blk,off,none⟩) ss.length cap] w fun e w' =>
   e=.returned (.tuple #[])/\∃ n os,w'=grow (putRow encStr (Sort.ahead w n) blk off (ss.mergeSort fun x y=>decide (x<=y)).toArray) os:=Any.slices_Sort_string Tryz.lays190 blk off cap ss w hH hblk hsz
def Tryz.lays194_ren:Go.Shelf.Ren:=⟨fun | 194=>61 | n=>n,fun | 31=>45 | 9=>9 | 3=>3 | 4=>4 | 0=>0 | n=>n,fun | n=>n⟩
theorem Tryz.lays194:Go.Proofs.Lays.n194 Tryz.prog Tryz.lays194_ren:={
 mixed:=by kernel_rfl
 f194:=Tryz.func61.trans (congrArg some (by kernel_rfl))
 t0:=Tryz.underlying0
 a0:=Tryz.isAgg0
 z0:=Tryz.sizeOf0
 v0:=Tryz.zeroValue0
 t3:=Tryz.underlying3
 a3:=Tryz.isAgg3
 z3:=Tryz.sizeOf3
 v3:=Tryz.zeroValue3
 t4:=Tryz.underlying4
 a4:=Tryz.isAgg4
 z4:=Tryz.sizeOf4
 v4:=Tryz.zeroValue4
 t9:=Tryz.underlying9
 a9:=Tryz.isAgg9
 z9:=Tryz.sizeOf9
 v9:=Tryz.zeroValue9
 t31:=Tryz.underlying45
 a31:=Tryz.isAgg45
 z31:=Tryz.sizeOf45
 v31:=Tryz.zeroValue45 }
open Go.RowKit Go.Lib Go.Sort in
theorem Tryz.slices_Compact_string (blk off cap:Nat) (zs:List (List UInt8)) (w:World) (hH:Holds encStr w blk off zs.toArray) (hsz:zs.length<=9223372036854775807) (hcap:zs.length<=cap) :
  Calls Tryz.prog 61 #[.slice (some ⟨blk,off,none⟩) zs.length cap] w fun e w'=>e=.returned (.slice (some ⟨blk,off,none⟩) (Lib.compact zs).length cap)/\∃ q,w'=putRow encStr (Sort.ahead w q) blk off (Lib.compact zs++List.replicate (zs.length-(Lib.compact zs).length) []).toArray:=Any.slices_Compact_string Tryz.lays194 blk off cap zs w hH hsz hcap
open Go.RowKit Go.Lib Go.Sort in
theorem Tryz.slices_Compact_string_empty (a:Option Addr) (cap:Nat) (w:World) :
  Calls Tryz.prog 61 #[.slice a 0 cap] w fun e w'=>e=.returned (.slice a 0 cap)/\w'=w:=Any.slices_Compact_string_empty Tryz.lays194 a cap w
open Go.RowKit Go.Sort in
theorem Tryz.slices_Sort_string_none (p:Option Addr) (cap:Nat) (w:World) :
  Calls Tryz.prog 60 #[.slice p 0 cap] w fun e w'=>e=.returned (.tuple #[])/\w'=w:=Any.slices_Sort_string_none Tryz.lays190 p cap w
def Tryz.layPdqR_ren:Go.Shelf.Ren:=⟨fun | 14=>172 | 20=>177 | 21=>195 | 22=>196 | 23=>197 | 24=>198 | 25=>199 | 26=>200 | 27=>201 | 46=>208 | 47=>159 | 48=>160 | 49=>209 | 50=>210 | 15=>85 | 57=>214 | 28=>124 | 29=>125 | n=>n,fun | 24=>33 | 22=>25 | 3=>3 | 25=>143 | 4=>4 | 0=>0 | 46=>175 | 45=>174 | 50=>137 | 66=>216 | 39=>149 | 55=>184 | 70=>220 | 76=>245 | 77=>246 | 53=>182 | 5=>5 | 9=>9 | n=>n,fun | n=>n⟩
theorem Tryz.layPdqR:Go.Proofs.SlLaysF.n14 Tryz.prog Tryz.layPdqR_ren:={
 mixed:=by kernel_rfl
 f14:=⟨Tryz.f172.name,by decide,Tryz.func172.trans (congrArg some (by kernel_rfl))⟩
 f15:=Tryz.func85.trans (congrArg some (by kernel_rfl))
 f20:=⟨Tryz.f177.name,by decide,Tryz.func177.trans (congrArg some (by kernel_rfl))⟩
 f21:=⟨Tryz.f195.name,by decide,Tryz.func195.trans (congrArg some (by kernel_rfl))⟩
 f22:=⟨Tryz.f196.name,by decide,Tryz.func196.trans (congrArg some (by kernel_rfl))⟩
 f23:=⟨Tryz.f197.name,by decide,Tryz.func197.trans (congrArg some (by kernel_rfl))⟩
 f24:=⟨Tryz.f198.name,by decide,Tryz.func198.trans (congrArg some (by kernel_rfl))⟩
 f25:=⟨Tryz.f199.name,by decide,Tryz.func199.trans (congrArg some (by kernel_rfl))⟩
 f26:=⟨Tryz.f200.name,by decide,Tryz.func200.trans (congrArg some (by kernel_rfl))⟩
 f27:=⟨Tryz.f201.name,by decide,Tryz.func201.trans (congrArg some (by kernel_rfl))⟩
 f28:=Tryz.func124.trans (congrArg some (by kernel_rfl))
 f29:=Tryz.func125.trans (congrArg some (by kernel_rfl))
 f46:=⟨Tryz.f208.name,by decide,Tryz.func208.trans (congrArg some (by kernel_rfl))⟩
 f47:=Tryz.func159.trans (congrArg some (by kernel_rfl))
 f48:=Tryz.func160.trans (congrArg some (by kernel_rfl))
 f49:=⟨Tryz.f209.name,by decide,Tryz.func209.trans (congrArg some (by kernel_rfl))⟩
 f50:=⟨Tryz.f210.name,by decide,Tryz.func210.trans (congrArg some (by kernel_rfl))⟩
 f57:=⟨Tryz.f214.name,by decide,Tryz.func214.trans (congrArg some (by kernel_rfl))⟩
 t0:=Tryz.underlying0
 a0:=Tryz.isAgg0
 z0:=Tryz.sizeOf0
 v0:=Tryz.zeroValue0
 t3:=Tryz.underlying3
 a3:=Tryz.isAgg3
 z3:=Tryz.sizeOf3
 v3:=Tryz.zeroValue3
 t4:=Tryz.underlying4
 a4:=Tryz.isAgg4
 z4:=Tryz.sizeOf4
 v4:=Tryz.zeroValue4
 t5:=Tryz.underlying5
 a5:=Tryz.isAgg5
 z5:=Tryz.sizeOf5
 v5:=Tryz.zeroValue5
 t9:=Tryz.underlying9
 a9:=Tryz.isAgg9
 z9:=Tryz.sizeOf9
 v9:=Tryz.zeroValue9
 t22:=Tryz.underlying25
 a22:=Tryz.isAgg25
 z22:=Tryz.sizeOf25
 v22:=Tryz.zeroValue25
 a24:=Tryz.isAgg33
 z24:=Tryz.sizeOf33
 t25:=Tryz.underlying143
 a25:=Tryz.isAgg143
 z25:=Tryz.sizeOf143
 v25:=Tryz.zeroValue143
 t39:=Tryz.underlying149
 a39:=Tryz.isAgg149
 z39:=Tryz.sizeOf149
 v39:=Tryz.zeroValue149
 t45:=Tryz.underlying174
 a45:=Tryz.isAgg174
 z45:=Tryz.sizeOf174
 v45:=Tryz.zeroValue174
 t46:=Tryz.underlying175
 a46:=Tryz.isAgg175
 z46:=Tryz.sizeOf175
 v46:=Tryz.zeroValue175
 t50:=Tryz.underlying137
 a50:=Tryz.isAgg137
 z50:=Tryz.sizeOf137
 v50:=Tryz.zeroValue137
 t53:=Tryz.underlying182
 a53:=Tryz.isAgg182
 z53:=Tryz.sizeOf182
 v53:=Tryz.zeroValue182
 t55:=Tryz.underlying184
 a55:=Tryz.isAgg184
 z55:=Tryz.sizeOf184
 v55:=Tryz.zeroValue184
 t66:=Tryz.underlying216
 a66:=Tryz.isAgg216
 z66:=Tryz.sizeOf216
 v66:=Tryz.zeroValue216
 t70:=Tryz.underlying220
 a70:=Tryz.isAgg220
 z70:=Tryz.sizeOf220
 v70:=Tryz.zeroValue220
 t76:=Tryz.underlying245
 a76:=Tryz.isAgg245
 z76:=Tryz.sizeOf245
 v76:=Tryz.zeroValue245
 t77:=Tryz.underlying246
 a77:=Tryz.isAgg246
 z77:=Tryz.sizeOf246
 v77:=Tryz.zeroValue246 }
end Go.Proofs
namespace Go.Proofs.YtafoklilkdnepaaGreatDoor
section
open Go.RowKit Go.Sort
theorem touch_grow (w:World) (os:Array Obj):Touch [] w (grow w os):=⟨rfl,rfl,rfl,by simp,fun k hk _=>heap_grow_old w os hk⟩
theorem touch_putRow {α:Type} [Inhabited α] (enc:α->Value) (w:World) (n g off:Nat) (d:Array α):Touch [g] w (putRow enc (Sort.ahead w n) g off d) :=
 ⟨rfl,rfl,rfl,by simp,fun k _ hn=>by
  have:¬ g=k:=fun e=>hn (by simp [e])
  simp [putRow,mapBlock,Array.getElem?_modify,this,Sort.ahead]⟩
theorem flat_btE (xs:List ByteArray) (j:Nat) (hj:j < xs.length):(xs.flatMap btE)[j]?=some (.string xs[j]):=by
 have:=flat_get btE 1 btE_length xs j 0 hj (by omega)
 simpa [btE] using this
theorem flat_btE_lt {xs:List ByteArray} {j:Nat} {u:Value} (h:(xs.flatMap btE)[j]?=some u):j < xs.length:=by
 have:=(List.getElem?_eq_some_iff.1 h).1
 rw [flat_length btE 1 btE_length] at this;omega
theorem OwnK.holdsS {t:TypeId} {w:World} {g c:Nat} {xs:List ByteArray} (h:OwnK t 1 btE w (some ⟨g,0,none⟩) c xs):Holds encStr w g 0 (xs.map (·.data.toList)).toArray:=by
 intro j hj
 have hj':j < xs.length:=by simpa using hj
 have hc:=World.ownsRow.cells h (g:=g) rfl j _ (flat_btE xs j hj')
 have e1:(⟨g,0,none⟩:Addr).add j=⟨g,0+j,none⟩:=by unfold Addr.add;split <;> simp_all
 rw [e1] at hc
 refine ⟨by rw [hc];simp [hj',encStr], ?_⟩
 rcases h.2 with ⟨hv,_⟩ | ⟨g',cap,cur,hv,_,hg,_⟩
 ·injection hv with hA _ _;cases hA
 ·injection hv with hA _ _
  injection hA with hA
  injection hA with hA
  subst hA
  simp [World.frozen?,hg]
def mkS (l:List UInt8):ByteArray:=⟨l.toArray⟩
theorem rdK_of_holds {w:World} {g:Nat} {zs:List (List UInt8)} (h:Holds encStr w g 0 zs.toArray):RdK btE w (some ⟨g,0,none⟩) (zs.map mkS):=fun _ =>
 ⟨_,rfl,fun j u hu=>by
  have hj:=flat_btE_lt hu
  have hj':j < zs.length:=by simpa using hj
  rw [flat_btE _ j hj] at hu
  injection hu with hu
  subst hu
  have e1:(⟨g,0,none⟩:Addr).add j=⟨g,0+j,none⟩:=by unfold Addr.add;split <;> simp_all
  rw [e1,(h j (by simpa using hj')).1]
  simp [hj',mkS,encStr]⟩
theorem holds_head {w:World} {g:Nat} {zs ys:List (List UInt8)} (h:Holds encStr w g 0 (zs++ys).toArray):Holds encStr w g 0 zs.toArray:=fun j hj=>by
 have hj':j < zs.length:=by simpa using hj
 have:=h j (by simp;omega)
 simpa [hj',List.getElem?_append_left hj'] using this
def sortS (xs:List ByteArray):List (List UInt8):=(xs.map (·.data.toList)).mergeSort fun x y=>decide (x<=y)
theorem sortS_length (xs:List ByteArray):(sortS xs).length=xs.length:=by simp [sortS,List.length_mergeSort]
theorem sort_own {w:World} {A:Option Addr} {c:Nat} {xs:List ByteArray} (h:OwnK 9 1 btE w A c xs) (hl:xs.length < 4611686018427387904) :
  Calls Tryz.prog 60 #[.slice A xs.length c] w fun e w'=>e=.returned (.tuple #[])/\(∀ g,A=some ⟨g,0,none⟩->Holds encStr w' g 0 (sortS xs).toArray)/\Touch (fpo A) w w':=by
 by_cases h0:xs=[]
 ·subst h0
  refine (Tryz.slices_Sort_string_none A c w).mono ?_
  rintro e w' ⟨rfl,rfl⟩
  exact ⟨rfl,fun g hg j hj=>absurd hj (by simp [sortS]),Touch.refl _ _⟩
 ·rcases h.head with ⟨_,h1,_⟩ | ⟨g,rfl⟩
  ·exact absurd h1 h0
  ·have hg:=h.lt g (by simp [fpo])
   have:=Tryz.slices_Sort_string g 0 c (xs.map (·.data.toList)) w h.holdsS hg (by simpa using hl)
   rw [List.length_map] at this
   refine this.mono ?_
   rintro e w' ⟨rfl,n,os,rfl⟩
   refine ⟨rfl,fun g' hg' => ?_, ?_⟩
   ·injection hg' with hg'
    injection hg' with hg'
    subst hg'
    refine holds_grow _ _ _ _ _ _ (by simpa using hg) (holds_putRow encStr _ g 0 _ _ (holds_ahead encStr w n g 0 _ h.holdsS) ?_)
    simp [List.length_mergeSort]
   ·exact (touch_putRow encStr w n g 0 _).trans (touch_grow _ os) (by simp)
theorem compact_own {w:World} {A:Option Addr} {c:Nat} {zs:List (List UInt8)} (hA:zs=[]\/∃ g,A=some ⟨g,0,none⟩) (h:∀ g,A=some ⟨g,0,none⟩->Holds encStr w g 0 zs.toArray) (hl:zs.length<=100000) (hc:zs.length<=c) :
  Calls Tryz.prog 61 #[.slice A zs.length c] w fun e w'=>e=.returned (.slice A (Lib.compact zs).length c)/\RdK btE w' A ((Lib.compact zs).map mkS)/\Touch (fpo A) w w':=by
 rcases hA with rfl | ⟨g,rfl⟩
 ·refine (Tryz.slices_Compact_string_empty A c w).mono ?_
  rintro e w' ⟨rfl,rfl⟩
  exact ⟨rfl,fun h=>absurd h (by simp [Lib.compact,Lib.compactUpTo]),Touch.refl _ _⟩
 ·refine (Tryz.slices_Compact_string g 0 c zs w (h g rfl) (by omega) hc).mono ?_
  rintro e w' ⟨rfl,q,rfl⟩
  have hle:=Lib.compact_length_le zs
  exact ⟨rfl,rdK_of_holds (holds_head (holds_putRow encStr _ g 0 _ _ (holds_ahead encStr w q g 0 _ (h g rfl)) (by simp;omega))),touch_putRow encStr w q g 0 _⟩
def colsL (xs:List ByteArray):List ByteArray:=(Lib.compact (sortS xs)).map mkS
theorem compact_le (xs:List ByteArray):(Lib.compact (sortS xs)).length<=xs.length:=by
 have:=Lib.compact_length_le (sortS xs)
 rwa [sortS_length] at this
theorem inputs_any (x:PC) (N:List ByteArray) (w:World) (hN:NamesC w x N) (hNl:N.length<=100000) :
  Calls Tryz.prog 28 #[x.val] w fun e w'=>∃ A c,e=.returned (.slice A (colsL N).length c)/\RdK btE w' A (colsL N)/\(∀ b∈fpo A,w.heap.size<=b)/\Touch [] w w':=by
 obtain ⟨k0,k1,⟨A2,n2,c2'⟩,⟨⟨ck,cn,⟨cvk,cvn,cvt⟩,cop⟩,CA,cnn,cc⟩,⟨NA,nn,nc⟩,⟨EA,en,ec⟩,⟨OA,ol,oc⟩,⟨GA,gn,gc⟩,⟨BA,bn,bc⟩,count⟩:=x
 simp only [PC.val]
 have t0:=(Touch.refl [] w).alloc (.cells #[.int .i64 k0,.string k1,.slice A2 n2 c2',.int .i64 ck,.string cn,.int .i64 cvk,.int .i64 cvn,.string cvt,.string cop,.slice CA cnn cc,.slice NA nn nc,.slice EA en ec,.slice OA ol oc,.slice GA gn gc,.slice BA bn bc,.int .i64 count] 49)
 have hw:=hN _ t0
 simp only [PC.val] at hw
 have Hw:=lh hw
 have Ht0:=lh t0
 clear hw t0 hN
 go_enter Tryz.func28,Tryz.ntmps28
 go_wp2_with fail
 refine Hw.out.mono ?_
 rintro r w1 ⟨A,c,rfl,hM⟩
 have HM:=lh hM
 have Hs:=lh (sort_own hM.own (by omega))
 clear hM
 go_wp2_with fail
 refine Hs.out.mono ?_
 rintro r w2 ⟨rfl,hh,t2⟩
 have hC:=compact_own (w:=w2) (A:=A) (c:=c) (zs:=sortS N) (by
  rcases HM.out.own.head with ⟨_,h1,_⟩ | h
  ·left;simp [h1,sortS]
  ·exact .inr h) hh (by rw [sortS_length];omega) (by rw [sortS_length];exact HM.out.own.le)
 rw [sortS_length] at hC
 have HC:=lh hC
 have T2:=lh t2
 clear hC hh t2
 go_wp2_with fail
 refine HC.out.mono ?_
 rintro r w3 ⟨rfl,hrd,t3⟩
 have H3:=lh (And.intro hrd t3)
 clear hrd t3
 go_wp2_with fail
 go_ret
 refine ⟨A,c, ?_,H3.out.1,fun b hb=>Nat.le_trans Ht0.out.size (HM.out.f b hb),((Ht0.out.trans0 HM.out.t).trans T2.out (fun b hb=>.inr (Nat.le_trans Ht0.out.size (HM.out.f b hb)))).trans H3.out.2 (fun b hb=>.inr (Nat.le_trans Ht0.out.size (HM.out.f b hb)))⟩
 unfold colsL
 rw [List.length_map]
 rfl
end
section
open Go.RowKit
def quotL (s:List UInt8):List UInt8:=34 :: (s.flatMap (fun c=>if c=34\/c=92 then [92,c] else [c])++[34])
def showL (v:VD):List UInt8:=if v.right=false then [] else if v.kind=0 then [110,117,108,108] else if v.kind=1 then Lib.itoa v.num else quotL v.text.data.toList
theorem quot_le (s:List UInt8):(quotL s).length<=2*s.length+2:=by
 have:(s.flatMap (fun c=>if c=34\/c=92 then [92,c] else [c])).length<=2*s.length:=by
  induction s with
  | nil=>simp
  | cons a s ih =>
   rw [List.flatMap_cons,List.length_append,List.length_cons]
   split
   ·rw [show ([92,a]:List UInt8).length=2 from rfl];omega
   ·rw [show ([a]:List UInt8).length=1 from rfl];omega
 unfold quotL
 rw [List.length_cons,List.length_append,List.length_singleton];omega
theorem show_le (v:VD) (hn : -9223372036854775808<=v.num/\v.num<=9223372036854775807):(showL v).length<=200:=by
 unfold showL
 split
 ·simp
 ·split
  ·simp
  ·split
   ·have:=Lib.itoa_length_le v.num (by omega) (by omega)
    omega
   ·rename_i h1 h2 h3
    have hr:v.right=true:=by simpa using h1
    have hp:v.text.data.toList.length<=64:=by
     unfold VD.right at hr
     rw [if_neg h2,if_neg h3] at hr
     split at hr
     ·have:=(Bool.and_eq_true_iff.1 hr).2
      unfold plainV at this
      exact of_decide_eq_true (Bool.and_eq_true_iff.1 this).2
     ·cases hr
    have:=quot_le v.text.data.toList
    omega
def keyL (l:List VD):List UInt8:=l.flatMap fun v=>showL v++[10]
def ShowAt (w:World) (v:VD):Prop:=∀ w',Touch [] w w'->Calls Tryz.prog 170 #[v.val] w' fun e w''=>e=.returned (.string (S (showL v)))/\Touch [] w' w''
theorem ShowAt.touch0 {w w':World} {v:VD} (h:ShowAt w v) (ht:Touch [] w w'):ShowAt w' v:=fun w'' t=>h w'' (ht.trans0 t)
theorem S_app' (a b:List UInt8):S a++S b=S (a++b):=by
 apply bs_eq
 simp [S]
theorem keyOf_any (A:Option Addr) (c m:Nat) (l:List VD) (hm:l.length=m) (w:World) (hv:ValsAt w A l) (hl2:m<=1000000) (hs:∀ v∈l,ShowAt w v) (hn:∀ v∈l,v.Ok 140737000000000) :
  Calls Tryz.prog 136 #[.slice A m c] w fun e w'=>e=.returned (.string (S (keyL l)))/\Touch [] w w':=by
 subst hm
 have HS:=lh hs
 have HN:=lh hn
 have HV:=lh hv
 clear hs hn hv
 go_enter Tryz.func136,Tryz.ntmps136
 go_wp2_with fail
 go_loopw [3,8] (fun o i wr=>∃ (k:Nat) (acc:ByteArray),k<=l.length/\acc.size<=201*k/\i=.int .i64 k/\o=.string acc/\Hid (acc=S (keyL (l.take k)))/\Hid (Touch [] w wr)) (fun _ i _=>l.length-(intOf i).toNat)
 case atStart=>exact ⟨0,⟨#[]⟩,by omega,Nat.le_refl 0,rfl,rfl,lh rfl,lh (Touch.refl _ _)⟩
 case round =>
  obtain ⟨k,acc,hk,hac,rfl,rfl,HA,HT⟩:=hrel
  by_cases hlt:k < l.length
  ·obtain ⟨ad,b,off,rfl,hadd,c0,c1,c2⟩:=(HV.out.touch0 HT.out).at_ k hlt
   have htk:=List.take_succ_eq_append_getElem hlt
   have hmem:=List.getElem_mem hlt
   obtain ⟨v,hve⟩:∃ v,v=l[k]:=⟨_,rfl⟩
   rw [<- hve] at c0 c1 c2 htk hmem
   have hsh:=HS.out v hmem
   have hle:=show_le v (HN.out v hmem).n
   have hnx:S (keyL (l.take (k+1)))=acc++(S (showL v)++⟨#[10]⟩):=by
    rw [htk];unfold keyL
    rw [List.flatMap_append,HA.out,show (⟨#[10]⟩:ByteArray)=S [10] from rfl,S_app',S_app']
    simp [keyL]
   have ta:=(Touch.refl [] wr).alloc (.cells #[.int .i64 v.kind,.int .i64 v.num,.string v.text] 31)
   have hsv:=hsh _ (HT.out.trans0 ta)
   have hsz:(S (showL v)).size=(showL v).length:=S_size _
   obtain ⟨sv,hsve⟩:∃ sv,sv=S (showL v):=⟨_,rfl⟩
   rw [<- hsve] at hsv hsz hnx
   have hz3:(sv++⟨#[10]⟩:ByteArray).size=sv.size+1:=by rw [ByteArray.size_append];rfl
   have hz4:(acc++(sv++⟨#[10]⟩):ByteArray).size<=201*(k+1):=by rw [ByteArray.size_append,hz3];omega
   have hz1:¬ 9223372036854775807 < sv.size+1:=by omega
   have hz2:¬ 9223372036854775807 < acc.size+(sv++⟨#[10]⟩:ByteArray).size:=by omega
   have hz5:¬ 9223372036854775807 < acc.size+(sv.size+1):=by omega
   have Hnx:=lh hnx
   have HTa:=lh ta
   have Hz4:=lh hz4
   have hkn:(k:Int) < (l.length:Int):=by omega
   clear hnx htk hve hmem hsh hle ta hsz hsve hz4 hz3
   obtain ⟨vk,vn,vt⟩:=v
   dsimp only [VD.val] at c0 c1 c2 hsv
   have Hsv:=lh hsv
   clear hsv
   go_wp2_with fail
   refine Hsv.out.mono ?_
   rintro e w1 ⟨rfl,t1⟩
   have HT1:=lh ((HT.out.trans0 HTa.out).trans0 t1)
   clear t1
   go_wp2_with fail
   go_roundw
   case rel=>exact ⟨k+1,_,by omega,Hz4.out,by go_num,rfl,lh Hnx.out.symm,HT1⟩
   case measure=>simp [intOf];omega
  ·obtain rfl:k=l.length:=by omega
   have hA:=HA.out
   rw [List.take_length] at hA
   have HA2:=lh hA
   clear hA HA
   go_wp2
   go_ret
   exact ⟨by rw [<- HA2.out];rfl,HT.out⟩
end
section
open Go.RowKit Go.Maps Go.ChangeMaps
structure EN where
 key:List UInt8
 A:Option Addr
 c:Nat
 ix:List Nat
def EN.kv (e:EN):Value × Value:=(.string (S e.key),.slice e.A e.ix.length e.c)
def slAt (sl:List SL) (i:Nat):SL:=sl.getD i ⟨none,0,0⟩
structure IdxAt (sl:List SL) (g0:Nat) (w:World) (b:Nat) (es:List EN):Prop where
 mp:MapAt Tryz.prog 193 w b (es.map EN.kv)
 own:∀ e∈es,OwnK 33 1 slE w e.A e.c (e.ix.map (slAt sl))
 low:∀ e∈es,∀ a∈fpo e.A,g0<=a/\a≠b
 apart:es.Pairwise fun e f=>∀ a∈fpo e.A,a∉fpo f.A
 base:g0<=b
theorem key_law:Keyed Tryz.prog 193:=string_keyed Tryz.underlying193
theorem key_of (l:List UInt8) (h:l.length<=1000000000):keyOf Tryz.prog 193 (.string (S l))=some (.string (S l).data.toList) :=
 Go.WideMaps.keyOf_string_mk Tryz.underlying193 (s:=S l) (by rw [S_size];unfold maxLen;omega)
theorem IdxAt.touch0 {sl:List SL} {g0:Nat} {w w':World} {b:Nat} {es:List EN} (h:IdxAt sl g0 w b es) (ht:Touch [] w w'):IdxAt sl g0 w' b es :=
 ⟨h.mp.touch ht (by simp),fun e he=>(h.own e he).touch0 ht,h.low,h.apart,h.base⟩
theorem IdxAt.made (sl:List SL) (w:World):IdxAt sl w.heap.size (w.alloc (.map #[] 0)) w.heap.size [] :=
 ⟨MapAt.made _,by simp,by simp,.nil,Nat.le_refl _⟩
theorem kv_ne {es:List EN} {K:List UInt8} (h:∀ e∈es,e.key≠K):∀ p∈es.map EN.kv,p.1≠Value.string (S K):=by
 intro p hp e
 obtain ⟨x,hx,rfl⟩:=List.mem_map.1 hp
 have e:Value.string (S x.key)=Value.string (S K):=e
 exact h x hx (S_inj (by injection e))
theorem zeroRows (w:World):(zeroValue 25).run Tryz.prog w=.ok (.slice none 0 0) w:=by kernel_rfl
theorem IdxAt.miss {sl:List SL} {g0:Nat} {w:World} {b:Nat} {es:List EN} (h:IdxAt sl g0 w b es) (K:List UInt8) (hK:K.length<=1000000000) (hn:∀ e∈es,e.key≠K) (c:Bool) :
  (Instr.lookup 191 (.map (some b)) (.string (S K)) c).run Tryz.prog w=.ok (if c then .tuple #[.slice none 0 0,.bool false] else .slice none 0 0) w :=
 h.mp.miss key_law Tryz.underlying191 (key_of K hK) (kv_ne hn) (.slice none 0 0) (zeroRows w) c
theorem IdxAt.hit {sl:List SL} {g0:Nat} {w:World} {b:Nat} {es:List EN} (h:IdxAt sl g0 w b es) (e:EN) (he:e∈es) (hK:e.key.length<=1000000000) (c:Bool) :
  (Instr.lookup 191 (.map (some b)) (.string (S e.key)) c).run Tryz.prog w=.ok (if c then .tuple #[.slice e.A e.ix.length e.c,.bool true] else .slice e.A e.ix.length e.c) w :=
 h.mp.hit key_law Tryz.underlying191 (key_of e.key hK) (List.mem_map.2 ⟨e,he,rfl⟩) c
theorem IdxAt.put_new {sl:List SL} {g0:Nat} {w w':World} {b:Nat} {es:List EN} (h:IdxAt sl g0 w b es) (K:List UInt8) (hK:K.length<=1000000000) (hn:∀ e∈es,e.key≠K) (i:Nat) (A':Option Addr) (c':Nat)
  (hown:OwnK 33 1 slE w' A' c' [slAt sl i]) (ht:Touch [] w w') (hf:∀ a∈fpo A',w.heap.size<=a) (hg:g0<=w.heap.size) :
  ∃ w'',(Instr.mapUpdate 191 (.map (some b)) (.string (S K)) (.slice A' 1 c')).run Tryz.prog w'=.ok () w''/\IdxAt sl g0 w'' b (es++[⟨K,A',c',[i]⟩])/\Touch [b] w' w'':=by
 obtain ⟨w'',hrun,hm,t2⟩:=(h.mp.touch ht (by simp)).put_new key_law Tryz.underlying191 (key_of K hK) (kv_ne hn) (.slice A' 1 c')
 have hbl:=h.mp.lt
 have hnew:∀ a∈fpo A',a≠b:=fun a ha e=>by have:=hf a ha;omega
 refine ⟨w'',hrun,⟨by rw [List.map_append];exact hm,fun e he => ?_,fun e he a ha => ?_, ?_,h.base⟩,t2⟩
 ·rcases List.mem_append.1 he with q | q
  ·exact ((h.own e q).touch0 ht).touch t2 (fun a ha hm=>(h.low e q a ha).2 (by simpa using hm))
  ·simp only [List.mem_singleton] at q
   subst q
   exact hown.touch t2 (fun a ha hm=>hnew a ha (by simpa using hm))
 ·rcases List.mem_append.1 he with q | q
  ·exact h.low e q a ha
  ·simp only [List.mem_singleton] at q
   subst q
   exact ⟨by have:=hf a ha;omega,hnew a ha⟩
 ·rw [List.pairwise_append]
  refine ⟨h.apart,by simp,fun e he f hf' a ha hm => ?_⟩
  simp only [List.mem_singleton] at hf'
  subst hf'
  have:=(h.own e he).lt a ha
  have:=hf a hm
  omega
theorem IdxAt.put_old {sl:List SL} {g0:Nat} {w w':World} {b:Nat} {l1 l2:List EN} {e0:EN} (h:IdxAt sl g0 w b (l1++e0 :: l2)) (hK:e0.key.length<=1000000000) (i:Nat) (A':Option Addr) (c':Nat)
  (hown:OwnK 33 1 slE w' A' c' ((e0.ix++[i]).map (slAt sl))) (ht:Touch (fpo e0.A) w w') (hf:∀ a∈fpo A',a∈fpo e0.A\/w.heap.size<=a) (hg:g0<=w.heap.size) :
  ∃ w'',(Instr.mapUpdate 191 (.map (some b)) (.string (S e0.key)) (.slice A' (e0.ix.length+1) c')).run Tryz.prog w'=.ok () w''/\IdxAt sl g0 w'' b (l1++⟨e0.key,A',c',e0.ix++[i]⟩ :: l2)/\Touch [b] w' w'':=by
 have hm0:=h.mp
 rw [List.map_append,List.map_cons] at hm0
 have h0m:e0∈l1++e0 :: l2:=by simp
 have hb0:b∉fpo e0.A:=fun q=>(h.low e0 h0m b q).2 rfl
 obtain ⟨w'',hrun,hm,t2⟩:=(hm0.touch ht hb0).put_old key_law Tryz.underlying191 (key_of e0.key hK) (.slice A' (e0.ix.length+1) c')
 have hbl:=h.mp.lt
 have hnew:∀ a∈fpo A',a≠b:=fun a ha e=>by
  rcases hf a ha with q | q
  ·exact hb0 (e ▸ q)
  ·omega
 have hap:=h.apart
 rw [List.pairwise_append,List.pairwise_cons] at hap
 have hoth:∀ e,e∈l1\/e∈l2->∀ a∈fpo e.A,a∉fpo e0.A:=fun e he a ha hm=>by
  rcases he with q | q
  ·exact hap.2.2 e q e0 (by simp) a ha hm
  ·exact hap.2.1.1 e q a hm ha
 have hmem:∀ e,e∈l1\/e∈l2->e∈l1++e0 :: l2:=fun e he=>by rcases he with q | q <;> simp [q]
 have hothn:∀ e,e∈l1\/e∈l2->∀ a∈fpo e.A,a∉fpo A':=fun e he a ha hm=>by
  rcases hf a hm with q | q
  ·exact hoth e he a ha q
  ·have:=(h.own e (hmem e he)).lt a ha;omega
 have hsplit:∀ e,e∈l1++(⟨e0.key,A',c',e0.ix++[i]⟩:EN) :: l2->(e∈l1\/e∈l2)\/e=⟨e0.key,A',c',e0.ix++[i]⟩:=fun e he=>by
  rcases List.mem_append.1 he with q | q
  ·exact .inl (.inl q)
  ·rcases List.mem_cons.1 q with q | q
   ·exact .inr q
   ·exact .inl (.inr q)
 refine ⟨w'',hrun,⟨?_,fun e he => ?_,fun e he a ha => ?_, ?_,h.base⟩,t2⟩
 ·rw [List.map_append,List.map_cons]
  have e:(EN.kv ⟨e0.key,A',c',e0.ix++[i]⟩)=(Value.string (S e0.key),Value.slice A' (e0.ix.length+1) c'):=by
   unfold EN.kv;simp
  rw [e];exact hm
 ·rcases hsplit e he with q | rfl
  ·exact ((h.own e (hmem e q)).touch ht (hoth e q)).touch t2 (fun a ha hm=>(h.low e (hmem e q) a ha).2 (by simpa using hm))
  ·exact hown.touch t2 (fun a ha hm=>hnew a ha (by simpa using hm))
 ·rcases hsplit e he with q | rfl
  ·exact h.low e (hmem e q) a ha
  ·refine ⟨?_,hnew a ha⟩
   rcases hf a ha with q | q
   ·exact (h.low e0 h0m a q).1
   ·omega
 ·rw [List.pairwise_append,List.pairwise_cons]
  refine ⟨hap.1,⟨fun f hf' a ha hm=>hothn f (.inr hf') a hm ha,hap.2.1.2⟩,fun e he f hf' a ha hm => ?_⟩
  rcases List.mem_cons.1 hf' with rfl | q
  ·exact hothn e (.inl he) a ha hm
  ·exact hap.2.2 e he f (List.mem_cons_of_mem _ q) a ha hm
def selK (okI:Nat->Bool) (keyI:Nat->List UInt8) (k:Nat) (K:List UInt8):List Nat:=(List.range k).filter fun i=>okI i&&decide (keyI i=K)
theorem selK_succ (okI:Nat->Bool) (keyI:Nat->List UInt8) (k:Nat) (K:List UInt8):selK okI keyI (k+1) K=selK okI keyI k K++if (okI k&&decide (keyI k=K))=true then [k] else []:=by
 unfold selK
 rw [List.range_succ,List.filter_append]
 congr 1
 by_cases h:(okI k&&decide (keyI k=K))=true
 ·rw [if_pos h,List.filter_cons,if_pos h];rfl
 ·rw [if_neg h,List.filter_cons,if_neg h];rfl
structure IdxIs (okI:Nat->Bool) (keyI:Nat->List UInt8) (k:Nat) (es:List EN):Prop where
 ix:∀ e∈es,e.ix=selK okI keyI k e.key
 all:∀ i,i < k->okI i=true->∃ e∈es,e.key=keyI i
 ne:es.Pairwise fun e f=>e.key≠f.key
 some:∀ e∈es,e.ix≠[]
theorem IdxIs.zero (okI:Nat->Bool) (keyI:Nat->List UInt8):IdxIs okI keyI 0 []:=⟨by simp,fun i h=>absurd h (by omega),.nil,by simp⟩
theorem IdxIs.skip {okI:Nat->Bool} {keyI:Nat->List UInt8} {k:Nat} {es:List EN} (h:IdxIs okI keyI k es) (hk:okI k=false):IdxIs okI keyI (k+1) es :=
 ⟨fun e he=>by rw [selK_succ,hk];simpa using h.ix e he,fun i hi ho=>by
  by_cases e:i=k
  ·subst e;rw [hk] at ho;cases ho
  ·exact h.all i (by omega) ho,h.ne,h.some⟩
theorem IdxIs.none_ {okI:Nat->Bool} {keyI:Nat->List UInt8} {k:Nat} {es:List EN} (h:IdxIs okI keyI k es) {K:List UInt8} (hn:∀ e∈es,e.key≠K):selK okI keyI k K=[]:=by
 unfold selK
 rw [List.filter_eq_nil_iff]
 intro i hi hp
 rw [Bool.and_eq_true_iff] at hp
 obtain ⟨e,he,hk⟩:=h.all i (List.mem_range.1 hi) hp.1
 exact hn e he (hk.trans (of_decide_eq_true hp.2))
theorem IdxIs.put_new {okI:Nat->Bool} {keyI:Nat->List UInt8} {k:Nat} {es:List EN} (h:IdxIs okI keyI k es) (hk:okI k=true) (hn:∀ e∈es,e.key≠keyI k) (A:Option Addr) (c:Nat):IdxIs okI keyI (k+1) (es++[⟨keyI k,A,c,[k]⟩]):=by
 refine ⟨fun e he => ?_,fun i hi ho => ?_, ?_,fun e he=>by
  rcases List.mem_append.1 he with q | q
  ·exact h.some e q
  ·simp only [List.mem_singleton] at q
   subst q;simp⟩
 ·rw [selK_succ,hk]
  rcases List.mem_append.1 he with q | q
  ·have:¬ keyI k=e.key:=fun z=>hn e q z.symm
   simp [this,h.ix e q]
  ·simp only [List.mem_singleton] at q
   subst q
   dsimp only
   rw [h.none_ hn];simp
 ·by_cases e:i=k
  ·subst e;exact ⟨⟨keyI i,A,c,[i]⟩,by simp,rfl⟩
  ·obtain ⟨x,hx,hy⟩:=h.all i (by omega) ho
   exact ⟨x,by simp [hx],hy⟩
 ·rw [List.pairwise_append]
  refine ⟨h.ne,by simp,fun e he f hf => ?_⟩
  simp only [List.mem_singleton] at hf
  subst hf
  exact hn e he
theorem IdxIs.put_old {okI:Nat->Bool} {keyI:Nat->List UInt8} {k:Nat} {l1 l2:List EN} {e0:EN} (h:IdxIs okI keyI k (l1++e0 :: l2)) (hk:okI k=true) (he0:e0.key=keyI k) (A:Option Addr) (c:Nat):IdxIs okI keyI (k+1) (l1++⟨e0.key,A,c,e0.ix++[k]⟩ :: l2):=by
 have hne:=h.ne
 rw [List.pairwise_append,List.pairwise_cons] at hne
 have hoth:∀ e,e∈l1\/e∈l2->e.key≠e0.key:=fun e he=>by
  rcases he with q | q
  ·exact hne.2.2 e q e0 (by simp)
  ·exact fun z=>hne.2.1.1 e q z.symm
 refine ⟨fun e he => ?_,fun i hi ho => ?_, ?_,fun e he=>by
  rcases List.mem_append.1 he with q | q
  ·exact h.some e (by simp [q])
  ·rcases List.mem_cons.1 q with rfl | q
   ·simp
   ·exact h.some e (by simp [q])⟩
 ·rw [selK_succ,hk]
  have hcase:(e∈l1\/e∈l2)\/e=⟨e0.key,A,c,e0.ix++[k]⟩:=by
   rcases List.mem_append.1 he with q | q
   ·exact .inl (.inl q)
   ·rcases List.mem_cons.1 q with q | q
    ·exact .inr q
    ·exact .inl (.inr q)
  rcases hcase with q | rfl
  ·have h1:¬ keyI k=e.key:=fun z=>hoth e q (z.symm.trans he0.symm)
   have h2:e∈l1++e0 :: l2:=by rcases q with q | q <;> simp [q]
   simp [h1,h.ix e h2]
  ·dsimp only
   rw [<- h.ix e0 (by simp),he0];simp
 ·by_cases e:i=k
  ·subst e;exact ⟨⟨e0.key,A,c,e0.ix++[i]⟩,by simp,he0⟩
  ·obtain ⟨x,hx,hy⟩:=h.all i (by omega) ho
   rcases List.mem_append.1 hx with q | q
   ·exact ⟨x,by simp [q],hy⟩
   ·rcases List.mem_cons.1 q with rfl | q
    ·exact ⟨⟨x.key,A,c,x.ix++[k]⟩,by simp,hy⟩
    ·exact ⟨x,by simp [q],hy⟩
 ·rw [List.pairwise_append,List.pairwise_cons]
  refine ⟨hne.1,⟨fun f hf=>hne.2.1.1 f hf,hne.2.1.2⟩,fun e he f hf => ?_⟩
  rcases List.mem_cons.1 hf with rfl | q
  ·exact hne.2.2 e he e0 (by simp)
  ·exact hne.2.2 e he f (List.mem_cons_of_mem _ q)
theorem SlsAt.pick {w:World} {sl:List SL} {rows:List (List VD)} (h:SlsAt w sl rows) (ix:List Nat) (hix:∀ i∈ix,i < rows.length):SlsAt w (ix.map (slAt sl)) (ix.map fun i=>rows.getD i []):=by
 refine ⟨by simp,fun i a b => ?_⟩
 have hi:i < ix.length:=by simpa using a
 have h2:=hix _ (List.getElem_mem hi)
 have h1:ix[i] < sl.length:=by rw [h.1];exact h2
 have:=h.2 ix[i] h1 h2
 simp only [List.getElem_map,slAt]
 simpa [h1,h2] using this
theorem selK_lt {okI:Nat->Bool} {keyI:Nat->List UInt8} {k:Nat} {K:List UInt8}:∀ i∈selK okI keyI k K,i < k:=fun _i hi=>List.mem_range.1 (List.mem_filter.1 hi).1
end
end Go.Proofs.YtafoklilkdnepaaGreatDoor
namespace Go.Proofs
open Go.Shelf
def Tryz.lays125_ren:Go.Shelf.Ren:=⟨fun | 125=>85 | 128=>124 | 129=>125 | n=>n,fun | 46=>149 | 3=>3 | 51=>182 | 53=>184 | 4=>4 | 5=>5 | 9=>9 | n=>n,fun | n=>n⟩
theorem Tryz.lays125:Go.Proofs.Lays.n125 Tryz.prog Tryz.lays125_ren:={
 mixed:=by kernel_rfl
 f125:=Tryz.func85.trans (congrArg some (by kernel_rfl))
 f128:=Tryz.func124.trans (congrArg some (by kernel_rfl))
 f129:=Tryz.func125.trans (congrArg some (by kernel_rfl))
 t3:=Tryz.underlying3
 a3:=Tryz.isAgg3
 z3:=Tryz.sizeOf3
 v3:=Tryz.zeroValue3
 t4:=Tryz.underlying4
 a4:=Tryz.isAgg4
 z4:=Tryz.sizeOf4
 v4:=Tryz.zeroValue4
 t5:=Tryz.underlying5
 a5:=Tryz.isAgg5
 z5:=Tryz.sizeOf5
 v5:=Tryz.zeroValue5
 t9:=Tryz.underlying9
 a9:=Tryz.isAgg9
 z9:=Tryz.sizeOf9
 v9:=Tryz.zeroValue9
 t46:=Tryz.underlying149
 a46:=Tryz.isAgg149
 z46:=Tryz.sizeOf149
 v46:=Tryz.zeroValue149
 t51:=Tryz.underlying182
 a51:=Tryz.isAgg182
 z51:=Tryz.sizeOf182
 v51:=Tryz.zeroValue182
 t53:=Tryz.underlying184
 a53:=Tryz.isAgg184
 z53:=Tryz.sizeOf184
 v53:=Tryz.zeroValue184 }
theorem Tryz.bits_Len (x:Int) (w:World) (h0:0<=x) (h1:x<=18446744073709551615) :
  Calls Tryz.prog 85 #[.int .u64 x] w fun e w'=>e=.returned (.int .i64 (Lib.bitLen x.toNat))/\w'=w:=Any.bits_Len Tryz.lays125 x w h0 h1
def Tryz.laysM171_ren:Go.Shelf.Ren:=⟨fun | 171=>193 | 243=>207 | 246=>213 | 283=>215 | 284=>216 | 285=>217 | 286=>218 | 129=>125 | 317=>219 | 318=>220 | 319=>221 | 320=>222 | 337=>223 | 338=>224 | n=>n,fun | 3=>3 | 9=>9 | 2=>2 | 4=>4 | 171=>262 | 0=>0 | 53=>184 | 37=>165 | 5=>5 | 173=>264 | 212=>267 | 51=>182 | 20=>20 | 213=>268 | 46=>149 | 232=>269 | 233=>270 | n=>n,fun | 17=>2 | 18=>3 | 19=>4 | n=>n⟩
theorem Tryz.laysM171:Go.Proofs.LaysM.n171 Tryz.prog Tryz.laysM171_ren:={
 mixed:=by kernel_rfl
 f129:=Tryz.func125.trans (congrArg some (by kernel_rfl))
 f171:=Tryz.func193.trans (congrArg some (by kernel_rfl))
 f243:=Tryz.func207.trans (congrArg some (by kernel_rfl))
 f246:=Tryz.func213.trans (congrArg some (by kernel_rfl))
 f283:=Tryz.func215.trans (congrArg some (by kernel_rfl))
 f284:=Tryz.func216.trans (congrArg some (by kernel_rfl))
 f285:=Tryz.func217.trans (congrArg some (by kernel_rfl))
 f286:=Tryz.func218.trans (congrArg some (by kernel_rfl))
 f317:=Tryz.func219.trans (congrArg some (by kernel_rfl))
 f318:=Tryz.func220.trans (congrArg some (by kernel_rfl))
 f319:=Tryz.func221.trans (congrArg some (by kernel_rfl))
 f320:=Tryz.func222.trans (congrArg some (by kernel_rfl))
 f337:=Tryz.func223.trans (congrArg some (by kernel_rfl))
 f338:=Tryz.func224.trans (congrArg some (by kernel_rfl))
 t0:=Tryz.underlying0
 a0:=Tryz.isAgg0
 z0:=Tryz.sizeOf0
 v0:=Tryz.zeroValue0
 t2:=Tryz.underlying2
 a2:=Tryz.isAgg2
 z2:=Tryz.sizeOf2
 v2:=Tryz.zeroValue2
 t3:=Tryz.underlying3
 a3:=Tryz.isAgg3
 z3:=Tryz.sizeOf3
 v3:=Tryz.zeroValue3
 t4:=Tryz.underlying4
 a4:=Tryz.isAgg4
 z4:=Tryz.sizeOf4
 v4:=Tryz.zeroValue4
 t5:=Tryz.underlying5
 a5:=Tryz.isAgg5
 z5:=Tryz.sizeOf5
 v5:=Tryz.zeroValue5
 t9:=Tryz.underlying9
 a9:=Tryz.isAgg9
 z9:=Tryz.sizeOf9
 v9:=Tryz.zeroValue9
 t20:=Tryz.underlying20
 a20:=Tryz.isAgg20
 z20:=Tryz.sizeOf20
 v20:=Tryz.zeroValue20
 t37:=Tryz.underlying165
 a37:=Tryz.isAgg165
 z37:=Tryz.sizeOf165
 v37:=Tryz.zeroValue165
 t46:=Tryz.underlying149
 a46:=Tryz.isAgg149
 z46:=Tryz.sizeOf149
 v46:=Tryz.zeroValue149
 t51:=Tryz.underlying182
 a51:=Tryz.isAgg182
 z51:=Tryz.sizeOf182
 v51:=Tryz.zeroValue182
 t53:=Tryz.underlying184
 a53:=Tryz.isAgg184
 z53:=Tryz.sizeOf184
 v53:=Tryz.zeroValue184
 t171:=Tryz.underlying262
 a171:=Tryz.isAgg262
 z171:=Tryz.sizeOf262
 v171:=Tryz.zeroValue262
 t173:=Tryz.underlying264
 a173:=Tryz.isAgg264
 z173:=Tryz.sizeOf264
 v173:=Tryz.zeroValue264
 t212:=Tryz.underlying267
 a212:=Tryz.isAgg267
 z212:=Tryz.sizeOf267
 v212:=Tryz.zeroValue267
 t213:=Tryz.underlying268
 a213:=Tryz.isAgg268
 z213:=Tryz.sizeOf268
 t232:=Tryz.underlying269
 a232:=Tryz.isAgg269
 z232:=Tryz.sizeOf269
 v232:=Tryz.zeroValue269
 t233:=Tryz.underlying270
 a233:=Tryz.isAgg270
 z233:=Tryz.sizeOf270
 v233:=Tryz.zeroValue270
 g17:=by kernel_rfl
 g18:=by kernel_rfl
 g19:=by kernel_rfl
 i0:=by kernel_rfl
 i2:=by kernel_rfl
 i3:=by kernel_rfl
 i4:=by kernel_rfl
 i5:=by kernel_rfl
 i9:=by kernel_rfl
 i20:=by kernel_rfl
 i37:=by kernel_rfl
 i46:=by kernel_rfl
 i51:=by kernel_rfl
 i53:=by kernel_rfl
 i171:=by kernel_rfl
 i173:=by kernel_rfl
 i212:=by kernel_rfl
 i232:=by kernel_rfl
 i233:=by kernel_rfl
 m17:=by kernel_rfl
 m18:=by kernel_rfl
 m19:=by kernel_rfl }
open Go.RowKit Go.Sort Go.Lib in
theorem Tryz.strconv_Itoa (n:Int) (h0 : -9223372036854775808<=n) (h1:n<=9223372036854775807) (w:World) (htab:Lib.TabIs Tryz.prog w "internal/strconv.uint64pow10" .u64 Lib.pow10Tab) :
  Calls Tryz.prog 193 #[.int .i64 n] w fun e w'=>e=.returned (.string ⟨(Lib.itoa n).toArray⟩)/\∃ k os,w'=grow (w.drewN k) os:=Any.strconv_Itoa Tryz.laysM171 n h0 h1 w htab
end Go.Proofs
namespace Go.Proofs.YtafoklilkdnepaaGreatDoor
end Go.Proofs.YtafoklilkdnepaaGreatDoor
