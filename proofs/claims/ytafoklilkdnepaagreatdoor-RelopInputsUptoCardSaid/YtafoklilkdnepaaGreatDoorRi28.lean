/- Part 28 of the texts of this proof, one behind the other. No condition beyond those that its theorems state. -/
import Derived.Test.YtafoklilkdnepaaGreatDoorRi27
set_option maxRecDepth 40000
set_option maxHeartbeats 25600000
namespace Go.Proofs.YtafoklilkdnepaaGreatDoor
section
open Go.RowKit
def eqV (a b:VD):Bool:=decide (a.kind=b.kind)&&(decide (a.num=b.num)&&decide (a.text=b.text))
theorem eqV_iff (a b:VD):eqV a b=true ↔ a=b:=by
 obtain ⟨ak,an,at_⟩:=a
 obtain ⟨bk,bn,bt⟩:=b
 simp [eqV]
theorem eqIn_val (a b:VD) (w:World):(Op.equalIn 10000 31 (.agg #[.int .i64 a.kind,.int .i64 a.num,.string a.text]) (.agg #[.int .i64 b.kind,.int .i64 b.num,.string b.text])).run Tryz.prog w=.ok (eqV a b) w:=by
 have hS:Tryz.prog.underlying 31=some (.struct (Tryz.prog.fieldsOf 31)):=by kernel_rfl
 have hp:Tryz.prog.stoodInHeld 31=false:=by kernel_rfl
 rw [show (10000:Nat)=9999+1 from rfl,run_equalIn_agg w 9999 31 _ _ hS hp]
 simp only [Program.fieldsOf,Tryz.underlying31]
 have hs:=bs_beq a.text b.text
 go_simp
 by_cases h1:a.kind=b.kind <;> by_cases h2:a.num=b.num <;> by_cases h3:a.text=b.text <;> simp [eqV,h1,h2,h3]
theorem guard_val (op:BinOp) (x y:Operand) (a b:Array Value) (w:World):(eqGuard op 31 x y (.agg a) (.agg b)).run Tryz.prog w=.ok () w:=run_eqGuard_agg w op _ x y _ _ (by kernel_rfl)
def eqVs:List VD->List VD->Bool
 | [],[]=>true
 | a :: r,b :: s=>eqV a b&&eqVs r s
 | _,_=>false
theorem eqVs_iff (l r:List VD):eqVs l r=true ↔ l=r:=by
 induction l generalizing r with
 | nil=>cases r <;> simp [eqVs]
 | cons a l ih=>cases r with
  | nil=>simp [eqVs]
  | cons b r=>simp [eqVs,ih,eqV_iff]
theorem equalV_any (A B:Option Addr) (c1 c2 n m:Nat) (l r:List VD) (hn:l.length=n) (hm:r.length=m) (w:World) (h:ValsAt w A l) (h2:ValsAt w B r) (hl:n<=140737000000000) (hl2:m<=140737000000000) :
  Calls Tryz.prog 54 #[.slice A n c1,.slice B m c2] w fun e w'=>e=.returned (.bool (eqVs l r))/\Touch [] w w':=by
 subst hn hm
 by_cases hlen:l.length=r.length
 ·have Hlen:=lh hlen
  have hq:((l.length:Int)==(r.length:Int))=true:=by rw [beq_iff_eq];omega
  have hq':((l.length:Int) != (r.length:Int))=false:=by rw [bne,hq];rfl
  clear hlen
  go_enter Tryz.func54,Tryz.ntmps54
  go_wp2
  clear hq hq'
  go_loopw [13] (fun i wr=>∃ k:Nat,k<=l.length/\i=.int .i64 k/\Hid (eqVs l r=eqVs (l.drop k) (r.drop k))/\Touch [] w wr) (fun i _=>l.length-(intOf i).toNat)
  case atStart=>exact ⟨0,by omega,rfl,lh rfl,Touch.refl _ _⟩
  case round =>
   obtain ⟨k,hk,rfl,He,ht⟩:=hrel
   by_cases hlt:k < l.length
   ·have hlt2:k < r.length:=by have:=Hlen.out;omega
    obtain ⟨ad,b,off,rfl,hadd,c0,c1,c2'⟩:=(h.touch0 ht).at_ k hlt
    obtain ⟨bd,b2,off2,rfl,hadd2,d0,d1,d2⟩:=(h2.touch0 ht).at_ k hlt2
    have hst:eqVs l r=(eqV l[k] r[k]&&eqVs (l.drop (k+1)) (r.drop (k+1))):=by
     rw [He.out,List.drop_eq_getElem_cons hlt,List.drop_eq_getElem_cons hlt2];rfl
    have heq:=eqIn_val l[k] r[k]
    obtain ⟨x,hx⟩:∃ x,x=l[k]:=⟨_,rfl⟩
    obtain ⟨y,hy⟩:∃ y,y=r[k]:=⟨_,rfl⟩
    rw [<- hx,<- hy] at hst heq
    rw [<- hx] at c0 c1 c2'
    rw [<- hy] at d0 d1 d2
    have Hst:=lh hst
    have hgd:=guard_val
    have g0:=TW.cell c0
    have g1:=TW.cell c1
    have g2:=TW.cell d0
    have g3:=TW.cell d1
    have g4:=TW.cell c2'
    have g5:=TW.cell d2
    have hkI0:(0:Int)<=(k:Int):=by omega
    have hkI:(k:Int) < (l.length:Int):=by omega
    have hkI2:(k:Int) < (r.length:Int):=by omega
    clear hst hx hy He c0 c1 d0 d1 c2' d2
    rcases hxy:eqV x y with _ | _
    ·have Hf:=lh (show eqVs l r=false by rw [Hst.out,hxy];rfl)
     rw [hxy] at heq
     clear hxy
     go_wp2
     refine wp_region_tw wr (Touch.refl _ _) (by kernel_rfl) (by kernel_rfl) ?_
     repeat (go_big_quiet_step (fail))
     refine wpQuiet_nil ?_
     rintro _ ⟨x2,rfl⟩
     go_wp2
     go_ret
     exact ⟨ret_bool (by rw [Hf.out]),ht.trans0 x2.t⟩
    ·have Hf:=lh (show eqVs l r=eqVs (l.drop (k+1)) (r.drop (k+1)) by rw [Hst.out,hxy];rfl)
     rw [hxy] at heq
     clear hxy
     go_wp2
     refine wp_region_tw wr (Touch.refl _ _) (by kernel_rfl) (by kernel_rfl) ?_
     repeat (go_big_quiet_step (fail))
     refine wpQuiet_nil ?_
     rintro _ ⟨x2,rfl⟩
     go_wp2
     go_roundw
     case rel=>exact ⟨k+1,by omega,by go_num,Hf,ht.trans0 x2.t⟩
     case measure=>simp [intOf];omega
   ·obtain rfl:k=l.length:=by omega
    have Hf:=lh (show eqVs l r=true by rw [He.out,List.drop_length,List.drop_of_length_le (by have:=Hlen.out;omega)];rfl)
    go_wp2
    go_ret
    exact ⟨ret_bool (by rw [Hf.out]),ht⟩
 ·have Hf:=lh (show eqVs l r=false by
   rw [Bool.eq_false_iff]
   intro h
   rw [eqVs_iff] at h
   exact hlen (by rw [h]))
  have hq:((l.length:Int)==(r.length:Int))=false:=by rw [beq_eq_false_iff_ne];omega
  have hq':((l.length:Int) != (r.length:Int))=true:=by rw [bne,hq];rfl
  clear hlen
  go_enter Tryz.func54,Tryz.ntmps54
  go_wp2
  go_ret
  exact ⟨ret_bool (by rw [Hf.out]),Touch.refl _ _⟩
end
section
open Go.RowKit
def zeroX:XC:=⟨⟨0,⟨#[]⟩,⟨0,0,⟨#[]⟩⟩,⟨#[]⟩⟩,none,0,0⟩
def noS:SL:=⟨none,0,0⟩
def scanC (s:ByteArray):PC:=⟨1,s,noS,zeroX,noS,noS,noS,noS,noS,0⟩
def awkC (ga gp:Nat):PC:=⟨6,⟨#[]⟩,⟨some ⟨gp,0,none⟩,1,1⟩,zeroX,noS,noS,noS,⟨some ⟨ga,0,none⟩,1,1⟩,noS,0⟩
def awkL:List SrcD:=[⟨⟨#[120]⟩,[⟨⟨#[97]⟩,1⟩],[]⟩]
theorem awk_scanV:scanV awkL ⟨#[120]⟩=(0,[⟨⟨#[97]⟩,1⟩]):=by
 have h1:srcI awkL ⟨#[120]⟩=some 0:=srcI_some (l:=awkL) (k:=0) (by simp [awkL]) rfl (fun j hj=>absurd hj (by omega))
 unfold scanV
 rw [h1]
 have h2:checkT [⟨⟨#[97]⟩,1⟩] []=0:=by decide +kernel
 simp only [awkL,List.getElem?_cons_zero]
 exact if_pos h2
theorem awk_group:groupV [⟨⟨#[97]⟩,1⟩] [] [⟨⟨#[99,111,117,110,116]⟩,⟨#[]⟩,⟨#[110]⟩⟩]=(0,[⟨⟨#[110]⟩,1⟩]):=by
 have h:aggV [⟨⟨#[97]⟩,1⟩] ⟨⟨#[99,111,117,110,116]⟩,⟨#[]⟩,⟨#[110]⟩⟩=(1,0):=by
  unfold aggV
  rw [if_neg (by decide +kernel),if_pos rfl]
  exact if_pos rfl
 unfold groupV
 simp only [gnL,gaL,h]
 rfl
theorem fitC_num (c:CD) (n:Int) (h:c.typ=1):fitC c ⟨1,n,⟨#[]⟩⟩=true:=by
 have hr:VD.right ⟨1,n,⟨#[]⟩⟩=true:=by unfold VD.right;rw [toList_B];rfl
 unfold fitC
 rw [hr,h];rfl
theorem nodeV_ok {vs:List (Int × List CD)} {v:Int × List CD} (h1:errL vs=0) (h2:v.1=0) (h3:checkV v.2=0):nodeV vs v=(0,v.2):=by
 unfold nodeV
 rw [if_pos h1,if_pos h2,if_pos h3]
theorem nodeE_ok {vs:List (Int × List CD × List (List VD))} {cs:List CD} {rv:Int × List (List VD)} (h1:errL (vs.map fun v=>(v.1,v.2.1))=0) (h2:rv.1=0) (h3:fitV cs rv.2=0):nodeE vs cs rv=(0,cs,sortR rv.2):=by
 unfold nodeE
 rw [if_pos h1,if_pos h2,if_pos h3]
theorem awk_check:checkV [⟨⟨#[110]⟩,1⟩]=0:=by decide +kernel
theorem awk_fit:fitV [⟨⟨#[110]⟩,1⟩] [[⟨1,0,⟨#[]⟩⟩]]=0:=by
 unfold fitV
 rw [if_pos awk_check,if_neg (by simp)]
 have:[[(⟨1,0,⟨#[]⟩⟩:VD)]].all (fitR [⟨⟨#[110]⟩,1⟩])=true:=by
  have h:=fitC_num ⟨⟨#[110]⟩,1⟩ 0 rfl
  unfold fitR
  simp [h]
 rw [if_pos this]
theorem awake5_any (w:World) (hG:NeedsAt w):Calls Tryz.prog 9 #[] w fun e w'=>e=.returned (.bool true)/\Touch [] w w':=by
 obtain ⟨W,hW⟩:∃ W,W=(((((w.alloc (.cells #[.string ⟨#[97]⟩,.int .i64 1] 29)).alloc (.cells #[.string ⟨#[120]⟩,.slice (some ⟨w.heap.size,0,none⟩) 1 1,.slice none 0 0] 36)).alloc (.cells #[.string ⟨#[99,111,117,110,116]⟩,.string ⟨#[]⟩,.string ⟨#[110]⟩] 79)).alloc (.cells #[.int .i64 1,.string ⟨#[120]⟩,.slice none 0 0,.int .i64 0,.string ⟨#[]⟩,.int .i64 0,.int .i64 0,.string ⟨#[]⟩,.string ⟨#[]⟩,.slice none 0 0,.slice none 0 0,.slice none 0 0,.slice none 0 0,.slice none 0 0,.slice none 0 0,.int .i64 0] 49)).alloc (.cells #[.int .i64 6,.string ⟨#[]⟩,.slice (some ⟨w.heap.size+1+1+1,0,none⟩) 1 1,.int .i64 0,.string ⟨#[]⟩,.int .i64 0,.int .i64 0,.string ⟨#[]⟩,.string ⟨#[]⟩,.slice none 0 0,.slice none 0 0,.slice none 0 0,.slice none 0 0,.slice (some ⟨w.heap.size+1+1,0,none⟩) 1 1,.slice none 0 0,.int .i64 0] 49)):=⟨_,rfl⟩
 have t0:Touch [] w W:=hW ▸ (((((Touch.refl [] w).alloc _).alloc _).alloc _).alloc _).alloc _
 have hc:ColsAt W (some ⟨w.heap.size,0,none⟩) [⟨⟨#[97]⟩,1⟩]:=hW ▸ RdK.touch0 (RdK.one (enc:=cdE) w 29 ⟨⟨#[97]⟩,1⟩ _ rfl) (((((Touch.refl [] _).alloc _).alloc _).alloc _).alloc _)
 have hs:RdK srE W (some ⟨w.heap.size+1,0,none⟩) [⟨⟨#[120]⟩,⟨some ⟨w.heap.size,0,none⟩,1,1⟩,noS⟩]:=by
  have h1:=RdK.touch0 (RdK.one (enc:=srE) (w.alloc (.cells #[.string ⟨#[97]⟩,.int .i64 1] 29)) 36 ⟨⟨#[120]⟩,⟨some ⟨w.heap.size,0,none⟩,1,1⟩,noS⟩ #[.string ⟨#[120]⟩,.slice (some ⟨w.heap.size,0,none⟩) 1 1,.slice none 0 0] rfl) ((((Touch.refl [] _).alloc (.cells #[.string ⟨#[99,111,117,110,116]⟩,.string ⟨#[]⟩,.string ⟨#[110]⟩] 79)).alloc (.cells #[.int .i64 1,.string ⟨#[120]⟩,.slice none 0 0,.int .i64 0,.string ⟨#[]⟩,.int .i64 0,.int .i64 0,.string ⟨#[]⟩,.string ⟨#[]⟩,.slice none 0 0,.slice none 0 0,.slice none 0 0,.slice none 0 0,.slice none 0 0,.slice none 0 0,.int .i64 0] 49)).alloc (.cells #[.int .i64 6,.string ⟨#[]⟩,.slice (some ⟨w.heap.size+1+1+1,0,none⟩) 1 1,.int .i64 0,.string ⟨#[]⟩,.int .i64 0,.int .i64 0,.string ⟨#[]⟩,.string ⟨#[]⟩,.slice none 0 0,.slice none 0 0,.slice none 0 0,.slice none 0 0,.slice (some ⟨w.heap.size+1+1,0,none⟩) 1 1,.slice none 0 0,.int .i64 0] 49))
  rw [World.size_alloc] at h1
  exact hW ▸ h1
 have ha:RdK agE W (some ⟨w.heap.size+1+1,0,none⟩) [⟨⟨#[99,111,117,110,116]⟩,⟨#[]⟩,⟨#[110]⟩⟩]:=by
  have h1:=RdK.touch0 (RdK.one (enc:=agE) ((w.alloc (.cells #[.string ⟨#[97]⟩,.int .i64 1] 29)).alloc (.cells #[.string ⟨#[120]⟩,.slice (some ⟨w.heap.size,0,none⟩) 1 1,.slice none 0 0] 36)) 79 ⟨⟨#[99,111,117,110,116]⟩,⟨#[]⟩,⟨#[110]⟩⟩ #[.string ⟨#[99,111,117,110,116]⟩,.string ⟨#[]⟩,.string ⟨#[110]⟩] rfl) (((Touch.refl [] _).alloc (.cells #[.int .i64 1,.string ⟨#[120]⟩,.slice none 0 0,.int .i64 0,.string ⟨#[]⟩,.int .i64 0,.int .i64 0,.string ⟨#[]⟩,.string ⟨#[]⟩,.slice none 0 0,.slice none 0 0,.slice none 0 0,.slice none 0 0,.slice none 0 0,.slice none 0 0,.int .i64 0] 49)).alloc (.cells #[.int .i64 6,.string ⟨#[]⟩,.slice (some ⟨w.heap.size+1+1+1,0,none⟩) 1 1,.int .i64 0,.string ⟨#[]⟩,.int .i64 0,.int .i64 0,.string ⟨#[]⟩,.string ⟨#[]⟩,.slice none 0 0,.slice none 0 0,.slice none 0 0,.slice none 0 0,.slice (some ⟨w.heap.size+1+1,0,none⟩) 1 1,.slice none 0 0,.int .i64 0] 49))
  rw [World.size_alloc,World.size_alloc] at h1
  exact hW ▸ h1
 have hp:RdK pcE W (some ⟨w.heap.size+1+1+1,0,none⟩) [scanC ⟨#[120]⟩]:=by
  have h1:=RdK.touch0 (RdK.one (enc:=pcE) (((w.alloc (.cells #[.string ⟨#[97]⟩,.int .i64 1] 29)).alloc (.cells #[.string ⟨#[120]⟩,.slice (some ⟨w.heap.size,0,none⟩) 1 1,.slice none 0 0] 36)).alloc (.cells #[.string ⟨#[99,111,117,110,116]⟩,.string ⟨#[]⟩,.string ⟨#[110]⟩] 79)) 49 (scanC ⟨#[120]⟩) #[.int .i64 1,.string ⟨#[120]⟩,.slice none 0 0,.int .i64 0,.string ⟨#[]⟩,.int .i64 0,.int .i64 0,.string ⟨#[]⟩,.string ⟨#[]⟩,.slice none 0 0,.slice none 0 0,.slice none 0 0,.slice none 0 0,.slice none 0 0,.slice none 0 0,.int .i64 0] rfl) ((Touch.refl [] _).alloc (.cells #[.int .i64 6,.string ⟨#[]⟩,.slice (some ⟨w.heap.size+1+1+1,0,none⟩) 1 1,.int .i64 0,.string ⟨#[]⟩,.int .i64 0,.int .i64 0,.string ⟨#[]⟩,.string ⟨#[]⟩,.slice none 0 0,.slice none 0 0,.slice none 0 0,.slice none 0 0,.slice (some ⟨w.heap.size+1+1,0,none⟩) 1 1,.slice none 0 0,.int .i64 0] 49))
  rw [World.size_alloc,World.size_alloc,World.size_alloc] at h1
  exact hW ▸ h1
 have hS:SrcsAt W (some ⟨w.heap.size+1,0,none⟩) awkL:=⟨_,rfl,hs,fun i a b=>by
  obtain rfl:i=0:=by simp at a;omega
  exact ⟨rfl,rfl,Nat.le_refl _,hc,rfl,[],⟨rfl,fun i h=>absurd h (by simp)⟩,RdK.nil _ _ _⟩⟩
 have hok:∀ d∈awkL,d.Ok:=fun d hd=>by
  simp only [awkL,List.mem_singleton] at hd
  subst hd
  exact ⟨fun c hc=>by simp only [List.mem_singleton] at hc;subst hc;exact ⟨by show 1<=_;omega,by constructor <;> (dsimp only;omega)⟩,by simp,fun r hr=>by simp at hr,by simp⟩
 have hcok:∀ c∈[(⟨⟨#[110]⟩,1⟩:CD)],c.Ok:=fun c hc=>by simp only [List.mem_singleton] at hc;subst hc;exact ⟨by show 1<=_;omega,by constructor <;> (dsimp only;omega)⟩
 have hszL:∀ W',SizeC W' (scanC ⟨#[120]⟩) 1:=fun W'=>sizeC_leaf _ rfl W'
 have hsz:SizeC W (awkC (w.heap.size+1+1) (w.heap.size+1+1+1)) 2:=sizeC_node _ [scanC ⟨#[120]⟩] [1] W rfl rfl hp (fun i a b=>by
  obtain rfl:i=0:=by simp at a;omega
  exact hszL W) (by simp) (by show 1<=_;omega)
 have hty:TypedC W (some ⟨w.heap.size+1,0,none⟩) 1 1 (awkC (w.heap.size+1+1) (w.heap.size+1+1+1)) 1 (0,[⟨⟨#[110]⟩,1⟩]):=by
  have h1:=typedC_node (awkC (w.heap.size+1+1) (w.heap.size+1+1+1)) 6 1 rfl (by omega) (by omega) rfl rfl 1 (by omega) (by omega) (some ⟨w.heap.size+1,0,none⟩) 1 1 W (hG.touch0 t0) [scanC ⟨#[120]⟩] [(0,[⟨⟨#[97]⟩,1⟩])] rfl rfl hp (fun i a b=>by
   obtain rfl:i=0:=by simp at a;omega
   have:=typedC_scan (scanC ⟨#[120]⟩) rfl rfl (1+1) (by omega) (some ⟨w.heap.size+1,0,none⟩) 1 1 awkL rfl (by omega) hok W (hG.touch0 t0) hS
   rw [show (scanC ⟨#[120]⟩).name=⟨#[120]⟩ from rfl,awk_scanV] at this
   exact this) (0,[⟨⟨#[110]⟩,1⟩]) (fun _=>by
   have:=schemaC_group (awkC (w.heap.size+1+1) (w.heap.size+1+1+1)) rfl [] [⟨⟨#[99,111,117,110,116]⟩,⟨#[]⟩,⟨#[110]⟩⟩] rfl rfl (by simp) (by simp) [⟨⟨#[97]⟩,1⟩] (by simp) W (RdK.nil _ _ _) ha
   rw [awk_group] at this
   exact this) hcok (by simp)
  have h2:nodeV [(0,[⟨⟨#[97]⟩,1⟩])] (0,[⟨⟨#[110]⟩,1⟩])=(0,[⟨⟨#[110]⟩,1⟩]):=by
   exact nodeV_ok rfl rfl awk_check
  rw [h2] at h1
  exact h1
 have hev:EvalC W (some ⟨w.heap.size+1,0,none⟩) 1 1 (awkC (w.heap.size+1+1) (w.heap.size+1+1+1)) (0,[⟨⟨#[110]⟩,1⟩],[[⟨1,0,⟨#[]⟩⟩]]):=by
  have h1:=evalC_node (awkC (w.heap.size+1+1) (w.heap.size+1+1+1)) 6 1 rfl (by omega) rfl (by omega) (some ⟨w.heap.size+1,0,none⟩) 1 1 W [scanC ⟨#[120]⟩] [(0,[⟨⟨#[97]⟩,1⟩],[])] rfl rfl hp (fun i a b=>by
   obtain rfl:i=0:=by simp at a;omega
   exact evalC_scan (scanC ⟨#[120]⟩) rfl rfl (some ⟨w.heap.size+1,0,none⟩) 1 1 awkL rfl (by omega) 0 (by simp [awkL]) (srcI_some (l:=awkL) (k:=0) (by simp [awkL]) rfl (fun j hj=>absurd hj (by omega))) (by simp [awkL]) (by simp [awkL]) (fun r hr=>by simp [awkL] at hr) W hS) 0 [⟨⟨#[110]⟩,1⟩] (fun _=>by
   have:=schemaC_group (awkC (w.heap.size+1+1) (w.heap.size+1+1+1)) rfl [] [⟨⟨#[99,111,117,110,116]⟩,⟨#[]⟩,⟨#[110]⟩⟩] rfl rfl (by simp) (by simp) [⟨⟨#[97]⟩,1⟩] (by simp) W (RdK.nil _ _ _) ha
   rw [awk_group] at this
   exact this) (0,[[⟨1,0,⟨#[]⟩⟩]]) (fun _=>rowsC_group0 _ rfl rfl rfl _ _ _ (by simp) W ha) hcok (by simp)
   (fun r hr=>by simp only [List.mem_singleton] at hr;subst hr;exact ⟨by simp,fun v hv=>by simp only [List.mem_singleton] at hv;subst hv;exact ⟨by constructor <;> (dsimp only;omega),by constructor <;> (dsimp only;omega),Nat.zero_le _⟩⟩)
   (fun r hr=>by simp only [List.mem_singleton] at hr;subst hr;simp) (by simp)
  have h2:nodeE [(0,[⟨⟨#[97]⟩,1⟩],[])] [⟨⟨#[110]⟩,1⟩] (0,[[⟨1,0,⟨#[]⟩⟩]])=(0,[⟨⟨#[110]⟩,1⟩],[[⟨1,0,⟨#[]⟩⟩]]):=by
   rw [nodeE_ok rfl rfl awk_fit,sortR_one]
  rw [h2] at h1
  exact h1
 have hT:=evalTop (awkC (w.heap.size+1+1) (w.heap.size+1+1+1)) 2 (by omega) (some ⟨w.heap.size+1,0,none⟩) 1 1 (0,[⟨⟨#[110]⟩,1⟩]) (0,[⟨⟨#[110]⟩,1⟩],[[⟨1,0,⟨#[]⟩⟩]]) W hsz hty (fun _=>hev)
 rw [show topV (0,[⟨⟨#[110]⟩,1⟩]) (0,[⟨⟨#[110]⟩,1⟩],[[⟨1,0,⟨#[]⟩⟩]])=(0,[⟨⟨#[110]⟩,1⟩],[[⟨1,0,⟨#[]⟩⟩]]) from by unfold topV;rw [if_pos rfl]] at hT
 have hT':Calls Tryz.prog 12 #[(awkC (w.heap.size+1+1) (w.heap.size+1+1+1)).val,.slice (some ⟨w.heap.size+1,0,none⟩) 1 1] W fun e w'=>∃ SA sc RA rc,e=.returned (.tuple #[.agg #[.slice SA 1 sc,.slice RA 1 rc],.int .i64 0])/\NewTab W.heap.size w' ⟨SA,1,sc⟩ ⟨RA,1,rc⟩ [⟨⟨#[110]⟩,1⟩] [[⟨1,0,⟨#[]⟩⟩]]/\Touch [] W w':=by
  refine hT.mono ?_
  rintro e w' ⟨⟨SA,sn,sc⟩,⟨RA,rn,rc⟩,he,hn,ht⟩
  have h1:sn=1:=hn.n
  have h4:rn=1:=hn.m
  subst h1 h4
  exact ⟨SA,sc,RA,rc,he,hn,ht⟩
 have HT:=lh hT'
 have HW:=lh hW
 have H0:=lh t0
 have Hof:=lh fun w'=>of_num 0 w'
 clear hT hT' hev hty hsz hszL hcok hok hS hp ha hs hc t0 hW
 go_enter Tryz.func9,Tryz.ntmps9
 go_wp2_with fail
 rw [<- HW.out]
 refine HT.out.mono ?_
 rintro e w1 ⟨SA,sc,RA,rc,rfl,hnt,t1⟩
 have hT2:=hnt.tab
 obtain ⟨h1,h2,h3,h4,h5⟩:=hT2
 clear h1 h4
 dsimp only at h2 h3 h5
 have t2:=(Touch.refl [] w1).alloc (.cells #[.slice SA 1 sc,.slice RA 1 rc] 27)
 have hb2:=heap_alloc_new w1 (.cells #[.slice SA 1 sc,.slice RA 1 rc] 27)
 obtain ⟨ad,b1,o1,rfl,hadd,c0,c1⟩:=h3.at_ 0 (by simp)
 obtain ⟨bd,A9,c9,rfl,e0,hv⟩:=h5.at_ 0 (by simp)
 obtain ⟨ad9,b9,o9,rfl,hadd9,v0,v1,v2⟩:=hv.at_ 0 (by simp)
 have ha0:∀ x:Addr,x.add 0=x:=fun x=>by cases x;simp [Addr.add]
 rw [Nat.zero_mul,ha0] at hadd hadd9
 subst hadd hadd9
 simp only [List.getElem_cons_zero] at c0 c1 e0 v0 v1 v2
 obtain ⟨W2,hW2⟩:∃ W2,W2=w1.alloc (.cells #[.slice (some ⟨b1,o1,none⟩) 1 sc,.slice (some bd) 1 rc] 27):=⟨_,rfl⟩
 rw [<- hW2] at t2 hb2
 have e0':=e0
 rw [ha0] at e0'
 have HT1:=lh (t1.trans0 t2)
 have HG:=lh (And.intro t2 (And.intro hb2 (And.intro c0 (And.intro c1 (And.intro e0' (And.intro v0 (And.intro v1 v2)))))))
 have HW2:=lh hW2
 clear ha0 hnt h3 h5 hv e0 e0' c0 c1 v0 v1 v2 t1 t2 hb2 hW2
 go_wp2_with fail
 rw [<- HW2.out]
 obtain ⟨t2,hb2,c0,c1,e0',v0,v1,v2⟩:=HG.out
 obtain ⟨q0,q1,_,_⟩:=blk2 hb2
 have g0:=TW.cell q0
 have g1:=TW.cell q1
 have g2:=TW.cell (t2.cell c0 (by simp))
 have g3:=TW.cell (t2.cell c1 (by simp))
 have g4':=TW.cell (t2.cell e0' (by simp))
 have g5:=TW.cell (t2.cell v0 (by simp))
 have g6:=TW.cell (t2.cell v1 (by simp))
 have g7:=TW.cell (t2.cell v2 (by simp))
 clear t2 hb2 c0 c1 e0' v0 v1 v2 q0 q1
 have heq:=fun w'=>eqIn_val ⟨1,0,⟨#[]⟩⟩ ⟨1,0,⟨#[]⟩⟩ w'
 have heqv:eqV ⟨1,0,⟨#[]⟩⟩ ⟨1,0,⟨#[]⟩⟩=true:=(eqV_iff _ _).2 rfl
 rw [heqv] at heq
 dsimp only at heq
 have hgd:=guard_val
 have hlit:((⟨#[110]⟩:ByteArray).toList==[110])=true:=by rw [toList_B];rfl
 clear heqv
 refine wp_region_tw W2 (Touch.refl _ _) (by kernel_rfl) (by kernel_rfl) ?_
 repeat (go_big_quiet_step (((go_at_call 11;exact Calls.tw _ (Hof.out _)))))
 refine wpQuiet_nil ?_
 rintro _ ⟨x9,rfl⟩
 go_wp2
 go_ret
 exact ⟨rfl,(H0.out.trans0 HT1.out).trans0 x9.t⟩
end
section
open Go.RowKit
def tW (t:Int):Prop := -9223372036854775808<=t/\t<=9223372036854775807
theorem allX_mono {p q:ND->Prop} (hpq:∀ d,p d->q d):∀ (n:Nat) (e:TX n),allX p n e->allX q n e
 | 0,_,_=>trivial
 | n+1,e,h=>⟨hpq _ h.1,fun a ha=>allX_mono hpq n a (h.2 a ha)⟩
theorem CD.ok_w {c:CD} (h1:c.name.size<=1048576) (h2:tW c.typ):c.Ok:=⟨by omega,h2⟩
structure TbOk (cs:List CD) (rows:List (List VD)):Prop where
 n:cs.length<=16
 m:rows.length<=30
 c:∀ c∈cs,c.name.size<=1048576/\tW c.typ
 r:∀ r∈rows,r.length<=20/\∀ v∈r,v.Ok 1048576
theorem VD.Ok.le' {v:VD} {m n:Nat} (h:v.Ok m) (hm:m<=n):v.Ok n:=⟨h.k,h.n,Nat.le_trans h.t hm⟩
theorem TbOk.cols {cs:List CD} {rows:List (List VD)} (h:TbOk cs rows):∀ c∈cs,c.Ok:=fun c hc=>CD.ok_w (h.c c hc).1 (h.c c hc).2
theorem TbOk.rok {cs:List CD} {rows:List (List VD)} (h:TbOk cs rows):RowsOk rows:=fun r hr=>⟨by have:=(h.r r hr).1;omega,fun v hv=>((h.r r hr).2 v hv).le' (by omega)⟩
theorem TbOk.rle {cs:List CD} {rows:List (List VD)} (h:TbOk cs rows):RowsLe rows:=fun r hr=>by have:=(h.r r hr).1;omega
theorem TbOk.src {cs:List CD} {rows:List (List VD)} (h:TbOk cs rows) (nm:ByteArray):SrcD.Ok ⟨nm,cs,rows⟩:=⟨h.cols,by have:=h.n;show cs.length<=_;omega,h.rok,by have:=h.m;show rows.length<=_;omega⟩
theorem TbOk.nil:TbOk [] []:=⟨by simp,by simp,by simp,by simp⟩
end
section
open Go.RowKit
def srcs2 (a:List CD) (ra:List (List VD)) (b:List CD) (rb:List (List VD)):List SrcD:=[⟨⟨#[120]⟩,a,ra⟩,⟨⟨#[121]⟩,b,rb⟩,⟨⟨#[120]⟩,[],[]⟩]
def scanT (a:List CD) (ra:List (List VD)):Int × List CD:=if checkT a ra=0 then (0,a) else (12,[])
theorem src2_x (a:List CD) (ra:List (List VD)) (b:List CD) (rb:List (List VD)):srcI (srcs2 a ra b rb) ⟨#[120]⟩=some 0:=srcI_some (l:=srcs2 a ra b rb) (k:=0) (by simp [srcs2]) rfl (fun j hj=>absurd hj (by omega))
theorem src2_y (a:List CD) (ra:List (List VD)) (b:List CD) (rb:List (List VD)):srcI (srcs2 a ra b rb) ⟨#[121]⟩=some 1:=srcI_some (l:=srcs2 a ra b rb) (k:=1) (by simp [srcs2]) rfl (fun j hj=>by
 obtain rfl:j=0:=by omega
 show (⟨#[120]⟩:ByteArray)≠⟨#[121]⟩
 decide)
theorem scan2_x (a:List CD) (ra:List (List VD)) (b:List CD) (rb:List (List VD)):scanV (srcs2 a ra b rb) ⟨#[120]⟩=scanT a ra:=by
 unfold scanV
 rw [src2_x]
 rfl
theorem scan2_y (a:List CD) (ra:List (List VD)) (b:List CD) (rb:List (List VD)):scanV (srcs2 a ra b rb) ⟨#[121]⟩=scanT b rb:=by
 unfold scanV
 rw [src2_y]
 rfl
def kindV {m:Nat} (d:PD m) (a b:List CD):Int × List CD :=
 if d.kind=2 then ((typeX a m d.cond).2,a) else if d.kind=3 then keepV d.names (d.exprs.map (typeX a m)) else if d.kind=4\/d.kind=5 then (onV a b d.on,a++b)
 else if d.kind=6 then groupV a d.names d.aggs else if d.kind=7 then (if eqCs a b=true then (0,a) else (12,[])) else if d.kind=8 then (0,a) else (byV a d.by_ d.count,a)
def progT {m:Nat} (d:PD m) (a:List CD) (ra:List (List VD)) (b:List CD) (rb:List (List VD)):Int × List CD :=
 if d.kind < 1\/9 < d.kind then (20,[]) else if d.kind=1 then scanV (srcs2 a ra b rb) d.name
 else if needI d.kind=2 then nodeV [scanT a ra,scanT b rb] (kindV d a b) else nodeV [scanT a ra] (kindV d a b)
theorem scanT_yes {a:List CD} {ra:List (List VD)} (h:checkT a ra=0):scanT a ra=(0,a):=if_pos h
theorem scanT_no {a:List CD} {ra:List (List VD)} (h:¬ checkT a ra=0):scanT a ra=(12,[]):=if_neg h
theorem fitL_w:∀ (ws ts:List Int) (both:Int),tW both->(∀ t∈ts,tW t)->tW (fitL ws ts both).1
 | [],_,both,h,_=>by unfold fitL;exact h
 | _ :: _,[],both,h,_=>by unfold fitL;exact h
 | w :: ws,t :: ts,both,h,ht=>by
  unfold fitL
  have h1:=ht t List.mem_cons_self
  have h2:∀ x∈ts,tW x:=fun x hx=>ht x (List.mem_cons_of_mem _ hx)
  split
  ·exact fitL_w ws ts both h h2
  ·split
   ·constructor <;> (dsimp only;omega)
   ·split
    ·exact fitL_w ws ts t h1 h2
    ·exact fitL_w ws ts both h h2
theorem rule_out {d:ND} {r:RU} (h:ruleV d=some r):tW r.out:=by
 have key:∀ k,∀ r∈rulesV k,tW r.out:=by
  intro k r hr
  unfold rulesV at hr
  split at hr
  ·simp only [List.mem_cons,List.not_mem_nil,or_false] at hr
   rcases hr with rfl | rfl <;> (constructor <;> (dsimp only;omega))
  ·split at hr
   ·simp only [List.mem_cons,List.not_mem_nil,or_false] at hr
    rcases hr with rfl | rfl | rfl | rfl | rfl | rfl | rfl | rfl | rfl | rfl | rfl | rfl | rfl <;> (constructor <;> (dsimp only;omega))
   ·split at hr
    ·simp only [List.mem_cons,List.not_mem_nil,or_false] at hr
     rcases hr with rfl | rfl | rfl | rfl | rfl | rfl <;> (constructor <;> (dsimp only;omega))
    ·cases hr
 unfold ruleV at h
 split at h
 ·exact key _ r (List.mem_of_getElem? h)
 ·cases h
theorem typedX_w (cs:List CD) (hc:∀ c∈cs,tW c.typ):∀ (n dp:Nat) (e:TX n),allX (fun q=>q.Ok 1048576) n e->tW (typedX cs n dp e).1
 | 0,_,e,_=>e.elim
 | n+1,dp,e,h=>by
  have z0:tW 0:=by constructor <;> omega
  unfold typedX
  split
  ·exact z0
  ·split
   ·exact z0
   ·split
    ·exact h.1.v.k
    ·split
     ·split
      ·rename_i t ht
       unfold colT at ht
       split at ht
       ·rename_i k _
        cases hk:cs[k]? with
        | none=>rw [hk] at ht;cases ht
        | some c=>rw [hk] at ht;cases ht;exact hc c (List.mem_of_getElem? hk)
       ·cases ht
      ·exact z0
     ·split
      ·exact z0
      ·split
       ·exact z0
       ·rename_i r hr
        have hf:=fitL_w r.args (e.2.map fun a=>(typedX cs n (dp+1) a).1) 0 z0 (fun t ht=>by
         obtain ⟨a,ha,rfl⟩:=List.mem_map.1 ht
         exact typedX_w cs hc n (dp+1) a (h.2 a ha))
        split
        ·rename_i both q
         rw [q] at hf
         split
         ·exact hf
         ·exact rule_out hr
        ·exact z0
theorem typeX_w (cs:List CD) (hc:∀ c∈cs,tW c.typ) (n:Nat) (e:TX n) (h:allX (fun q=>q.Ok 1048576) n e):tW (typeX cs n e).1:=by
 have z0:tW 0:=by constructor <;> omega
 unfold typeX
 split
 ·split
  ·exact z0
  ·exact typedX_w cs hc n 1 e h
 ·exact z0
theorem keepC_mem {names:List ByteArray} {ets:List (Int × Int)} {c:CD} (h:c∈keepC names ets):c.name∈names/\∃ t∈ets,c.typ=t.1:=by
 unfold keepC at h
 obtain ⟨i,hi,rfl⟩:=List.mem_iff_getElem.1 h
 rw [List.getElem_zipWith]
 exact ⟨List.getElem_mem _,_,List.getElem_mem _,rfl⟩
def noC:CD:=⟨⟨#[]⟩,0⟩
theorem getD_mem {cs:List CD} {P:CD->Prop} (h:∀ c∈cs,P c) (h0:P noC) (i:Nat):P (cs.getD i ⟨⟨#[]⟩,0⟩):=by
 by_cases hi:i < cs.length
 ·have:cs.getD i ⟨⟨#[]⟩,0⟩=cs[i]:=by simp [List.getD,hi]
  rw [this];exact h _ (List.getElem_mem hi)
 ·have:cs.getD i ⟨⟨#[]⟩,0⟩=noC:=by simp [List.getD,List.getElem?_eq_none (Nat.le_of_not_lt hi),noC]
  rw [this];exact h0
theorem gnL_mem {cs:List CD} {P:CD->Prop} (hc:∀ c∈cs,P c) (h0:P noC):∀ (names:List ByteArray) (acc l:List CD),gnL cs acc names=some l->(∀ c∈acc,P c)->(∀ c∈l,P c)/\l.length=acc.length+names.length
 | [],acc,l,h,ha=>by
  unfold gnL at h
  obtain rfl:=Option.some.inj h
  exact ⟨ha,rfl⟩
 | n :: r,acc,l,h,ha=>by
  unfold gnL at h
  split at h
  ·cases h
  ·have:=gnL_mem hc h0 r _ l h (fun c hm=>by
    rcases List.mem_append.1 hm with hm | hm
    ·exact ha c hm
    ·rw [List.mem_singleton.1 hm];exact getD_mem hc h0 _)
   exact ⟨this.1,by rw [this.2,List.length_append];simp;omega⟩
theorem gaL_mem {cs:List CD} {P:CD->Prop}:∀ (aggs:List AG) (acc:List CD),(∀ c∈acc,P c)->(∀ a∈aggs,P ⟨a.name,(aggV cs a).1⟩)->(∀ c∈(gaL cs acc aggs).2,P c)/\(gaL cs acc aggs).2.length<=acc.length+aggs.length
 | [],acc,ha,_=>by unfold gaL;exact ⟨ha,by simp⟩
 | a :: r,acc,ha,hg=>by
  unfold gaL
  split
  ·have:=gaL_mem r (acc++[⟨a.name,(aggV cs a).1⟩]) (fun c hm=>by
    rcases List.mem_append.1 hm with hm | hm
    ·exact ha c hm
    ·rw [List.mem_singleton.1 hm];exact hg a List.mem_cons_self) (fun x hx=>hg x (List.mem_cons_of_mem _ hx))
   exact ⟨this.1,by have:=this.2;rw [List.length_append] at this;simp at this ⊢;omega⟩
  ·exact ⟨by simp,by simp⟩
theorem typO_w {cs:List CD} (hc:∀ c∈cs,tW c.typ) {s:ByteArray} {t:Int} (h:typO cs s=some t):tW t:=by
 unfold typO at h
 obtain ⟨k,_,rfl⟩:=Option.map_eq_some_iff.1 h
 exact getD_mem (P:=fun c=>tW c.typ) hc (by constructor <;> (simp only [noC];omega)) k
theorem aggV_w {cs:List CD} (hc:∀ c∈cs,tW c.typ) (a:AG):tW (aggV cs a).1:=by
 have z0:tW 0:=by constructor <;> omega
 have z1:tW 1:=by constructor <;> omega
 unfold aggV
 split
 ·exact z0
 ·split
  ·split
   ·exact z1
   ·exact z0
  ·split
   ·exact z0
   ·rename_i t ht
    split
    ·exact z0
    ·split
     ·exact typO_w hc ht
     ·exact z1
theorem kind_w {m:Nat} (d:PD m) (a b:List CD) (hla:a.length<=16) (hlb:b.length<=16) (ha:∀ c∈a,c.name.size<=1048576/\tW c.typ) (hb:∀ c∈b,c.name.size<=1048576/\tW c.typ) (hx:∀ e∈d.exprs,allX (fun q=>q.Ok 1048576) m e) (hn:∀ s∈d.names,s.size<=1048576) (hg:∀ p∈d.aggs,p.name.size<=1048576)
  (hln:d.names.length<=20) (hlg:d.aggs.length<=20) (hle:d.exprs.length<=20):(∀ c∈(kindV d a b).2,c.name.size<=1048576/\tW c.typ)/\(kindV d a b).2.length<=1000:=by
 have hno:noC.name.size<=1048576/\tW noC.typ:=⟨by show 0<=_;omega,by constructor <;> (simp only [noC];omega)⟩
 unfold kindV
 split
 ·exact ⟨ha,by dsimp only;omega⟩
 ·split
  ·unfold keepV
   split
   ·split
    ·split
     ·exact ⟨by simp,by simp⟩
     ·refine ⟨fun c hc => ?_, ?_⟩
      ·obtain ⟨h1,t,h2,h3⟩:=keepC_mem hc
       obtain ⟨e,he,rfl⟩:=List.mem_map.1 h2
       exact ⟨hn _ h1,h3 ▸ typeX_w a (fun c hc=>(ha c hc).2) m e (hx e he)⟩
      ·unfold keepC;rw [List.length_zipWith];omega
    ·exact ⟨by simp,by simp⟩
   ·exact ⟨by simp,by simp⟩
  ·split
   ·refine ⟨fun c hc => ?_,by rw [List.length_append];omega⟩
    rcases List.mem_append.1 hc with h | h
    ·exact ha c h
    ·exact hb c h
   ·split
    ·unfold groupV
     split
     ·exact ⟨by simp,by simp⟩
     ·rename_i l hl
      have h1:=gnL_mem (P:=fun c=>c.name.size<=1048576/\tW c.typ) ha hno d.names [] l hl (by simp)
      have h2:=gaL_mem (cs:=a) (P:=fun c=>c.name.size<=1048576/\tW c.typ) d.aggs l h1.1 (fun p hp=>⟨hg p hp,aggV_w (fun c hc=>(ha c hc).2) p⟩)
      exact ⟨h2.1,by have:=h2.2;have:=h1.2;simp at this;omega⟩
    ·split
     ·split
      ·exact ⟨ha,by dsimp only;omega⟩
      ·exact ⟨by simp,by simp⟩
     ·split
      ·exact ⟨ha,by dsimp only;omega⟩
      ·exact ⟨ha,by dsimp only;omega⟩
theorem kind_ok {m:Nat} (d:PD m) (a b:List CD) (hla:a.length<=16) (hlb:b.length<=16) (ha:∀ c∈a,c.name.size<=1048576/\tW c.typ) (hb:∀ c∈b,c.name.size<=1048576/\tW c.typ) (hx:∀ e∈d.exprs,allX (fun q=>q.Ok 1048576) m e) (hn:∀ s∈d.names,s.size<=1048576) (hg:∀ p∈d.aggs,p.name.size<=1048576)
  (hln:d.names.length<=20) (hlg:d.aggs.length<=20) (hle:d.exprs.length<=20):(∀ c∈(kindV d a b).2,c.Ok)/\(kindV d a b).2.length<=1000:=by
 have h:=kind_w d a b hla hlb ha hb hx hn hg hln hlg hle
 exact ⟨fun c hc=>CD.ok_w (h.1 c hc).1 (h.1 c hc).2,h.2⟩
theorem PlanAt.args {m:Nat} {w:World} {x:PC} {d:PD m} (h:PlanAt w x d) (s:SL):PlanAt w { x with args:=s } d:=⟨h.kind,h.name,h.cond,h.nn,h.names,h.en,h.exprs,h.on',h.on,h.an,h.aggs,h.bn,h.by_,h.count⟩
structure PD.Fine {m:Nat} (d:PD m):Prop where
 sm:d.Small
 k:tW d.kind
 q:tW d.count
 c:allX (fun q=>q.Ok 1048576) m d.cond
 x:∀ e∈d.exprs,allX (fun q=>q.Ok 1048576) m e
 n:∀ s∈d.names,s.size<=1048576
 a:∀ p∈d.aggs,p.op.size<=1048576/\p.col.size<=1048576/\p.name.size<=1048576
theorem ets_of {m:Nat} {d:PD m} (hd:d.Fine) {w:World} {a:List CD} (ha:∀ c∈a,c.Ok) (hla:a.length<=16) {x:XC} {e:TX m} (he:allX (fun q=>q.Ok 1048576) m e) (hs:sizeX m e<=60) (hx:ExP xcE anyB m w x e):ETypeS w x a (typeX a m e) :=
 fun w' A c t hc=>typeX_any m e x A c a.length a rfl ha w' (hx.touch0 t) hc (by omega) (by omega) (allX_mono (fun q hq=>by have:=hq.v.t;omega) m e he)
theorem kindC {m:Nat} (d:PD m) (hd:d.Fine) (x:PC) (a b:List CD) (ha:∀ c∈a,c.Ok) (hla:a.length<=16) (hlb:b.length<=16) (h2:2<=d.kind) (h9:d.kind<=9) (w:World) (h:PlanAt w x d) :
  SchemaC w x (if needI d.kind=2 then [a,b] else [a]) (kindV d a b):=by
 have hk:=h.kind
 have hs:=hd.sm
 have:d.kind=2\/d.kind=3\/d.kind=4\/d.kind=5\/d.kind=6\/d.kind=7\/d.kind=8\/d.kind=9:=by omega
 unfold kindV
 rcases this with q | q | q | q | q | q | q | q <;> rw [q] at hk ⊢ <;> simp only [needI] <;> simp (config:={ decide:=true }) only [if_true,if_false,or_true,true_or]
 ·exact schemaC_where x hk a _ w (ets_of hd ha hla hd.c hs.c h.cond)
 ·obtain ⟨xs,e1,e2,e3⟩:=h.exprs
  refine schemaC_keep x hk d.names xs (d.exprs.map (typeX a m)) h.nn (by rw [h.en,e1]) (by rw [List.length_map,e1]) (by have:=hs.n;omega) (by have:=hs.e;omega) a w h.names e2 fun i i1 i2 => ?_
  rw [List.getElem_map]
  have i3:i < d.exprs.length:=by omega
  exact ets_of hd ha hla (hd.x _ (List.getElem_mem i3)) (hs.x _ (List.getElem_mem i3)) (e3 i i1 i3)
 ·exact schemaC_join x hk d.on h.on' (by have:=hs.o;omega) a b (by omega) (by omega) w h.on
 ·exact schemaC_left x hk d.on h.on' (by have:=hs.o;omega) a b (by omega) (by omega) w h.on
 ·exact schemaC_group x hk d.names d.aggs h.nn h.an (by have:=hs.n;omega) (by have:=hs.a;omega) a (by omega) w h.names h.aggs
 ·exact schemaC_union x hk a b (by omega) (by omega) w
 ·exact schemaC_distinct x hk a w
 ·rw [<- h.count]
  exact schemaC_first x hk d.by_ h.bn (by have:=hs.b;omega) a (by omega) w h.by_
theorem progD (dp:Int) (hp0:0<=dp) (hp:dp<=15) {m:Nat} (d:PD m) (hd:d.Fine) (x:PC) (a:List CD) (ra:List (List VD)) (b:List CD) (rb:List (List VD)) (ta:TbOk a ra) (tb:TbOk b rb) (w:World) (hG:NeedsAt w) (h:PlanAt w x d) (I:Option Addr) (ic:Nat) (hS:SrcsAt w I (srcs2 a ra b rb))
  (hn:(x.args.n:Int)=needI d.kind) (hX:RdK pcE w x.args.A ([scanC ⟨#[120]⟩,scanC ⟨#[121]⟩].take x.args.n)):TypedC w I ic 3 x dp (progT d a ra b rb):=by
 have hk:=h.kind
 have hok:∀ s∈srcs2 a ra b rb,s.Ok:=by
  intro s hs
  simp only [srcs2,List.mem_cons,List.not_mem_nil,or_false] at hs
  rcases hs with rfl | rfl | rfl
  ·exact ta.src _
  ·exact tb.src _
  ·exact TbOk.nil.src _
 unfold progT
 by_cases hw:d.kind < 1\/9 < d.kind
 ·rw [if_pos hw]
  exact typedC_wrong x (by rw [hk];exact hw) dp (by omega) I ic 3 w
 ·rw [if_neg hw]
  by_cases h1:d.kind=1
  ·rw [if_pos h1,<- h.name]
   exact typedC_scan x (by rw [hk,h1]) (by rw [h1] at hn;simpa [needI] using hn) dp (by omega) I ic 3 _ rfl (by omega) hok w hG hS
  ·rw [if_neg h1]
   have hko:=kind_ok d a b ta.n tb.n ta.c tb.c hd.x hd.n (fun p hp=>(hd.a p hp).2.2) hd.sm.n hd.sm.a hd.sm.e
   have hkc:=kindC d hd x a b ta.cols ta.n tb.n (by omega) (by omega) w h
   obtain ⟨kk,hkk⟩:=Int.eq_ofNat_of_zero_le (show 0<=d.kind by omega)
   have hneed:needI d.kind=(needV kk:Int):=by
    rw [hkk]
    have:kk=2\/kk=3\/kk=4\/kk=5\/kk=6\/kk=7\/kk=8\/kk=9:=by omega
    rcases this with rfl | rfl | rfl | rfl | rfl | rfl | rfl | rfl <;> rfl
   have hsx:TypedC w I ic 3 (scanC ⟨#[120]⟩) (dp+1) (scanT a ra):=scan2_x a ra b rb ▸ typedC_scan (scanC ⟨#[120]⟩) rfl rfl (dp+1) (by omega) I ic 3 _ rfl (by omega) hok w hG hS
   have hsy:TypedC w I ic 3 (scanC ⟨#[121]⟩) (dp+1) (scanT b rb):=scan2_y a ra b rb ▸ typedC_scan (scanC ⟨#[121]⟩) rfl rfl (dp+1) (by omega) I ic 3 _ rfl (by omega) hok w hG hS
   by_cases hn2:needI d.kind=2
   ·rw [if_pos hn2]
    rw [if_pos hn2] at hkc
    have hm:x.args.n=2:=by omega
    rw [hm] at hX
    refine typedC_node x kk 2 (by rw [hk,hkk]) (by omega) (by omega) hm (by omega) dp hp0 (by omega) I ic 3 w hG [scanC ⟨#[120]⟩,scanC ⟨#[121]⟩] [scanT a ra,scanT b rb] rfl rfl hX (fun i i1 i2 => ?_) _ (fun he => ?_) hko.1 (by have:=hko.2;omega)
    ·have:i=0\/i=1:=by simp at i1;omega
     rcases this with rfl | rfl
     ·exact hsx
     ·exact hsy
    ·by_cases hx:checkT a ra=0
     ·by_cases hy:checkT b rb=0
      ·rw [scanT_yes hx,scanT_yes hy];exact hkc
      ·rw [scanT_yes hx,scanT_no hy] at he;cases he
     ·rw [scanT_no hx] at he;cases he
   ·rw [if_neg hn2]
    rw [if_neg hn2] at hkc
    have hm:x.args.n=1:=by
     have:kk=2\/kk=3\/kk=4\/kk=5\/kk=6\/kk=7\/kk=8\/kk=9:=by omega
     rw [hneed] at hn hn2
     rcases this with rfl | rfl | rfl | rfl | rfl | rfl | rfl | rfl <;> simp [needV] at hn hn2 <;> omega
    rw [hm] at hX
    refine typedC_node x kk 1 (by rw [hk,hkk]) (by omega) (by omega) hm (by omega) dp hp0 (by omega) I ic 3 w hG [scanC ⟨#[120]⟩] [scanT a ra] rfl rfl hX (fun i i1 i2 => ?_) _ (fun he => ?_) hko.1 (by have:=hko.2;omega)
    ·obtain rfl:i=0:=by simp at i1;omega
     exact hsx
    ·by_cases hx:checkT a ra=0
     ·rw [scanT_yes hx];exact hkc
     ·rw [scanT_no hx] at he;cases he
theorem sizeC2 (x:PC) (w:World) (hn:x.args.n<=2) (hX:RdK pcE w x.args.A ([scanC ⟨#[120]⟩,scanC ⟨#[121]⟩].take x.args.n)):SizeC w x (1+x.args.n):=by
 have hl:([scanC ⟨#[120]⟩,scanC ⟨#[121]⟩].take x.args.n).length=x.args.n:=by rw [List.length_take];simp;omega
 have hsum:(List.replicate x.args.n 1).sum=x.args.n:=by simp
 have h:=sizeC_node x ([scanC ⟨#[120]⟩,scanC ⟨#[121]⟩].take x.args.n) (List.replicate x.args.n 1) w hl (by simp) hX (fun i i1 i2=>by
  rw [List.getElem_replicate]
  have hi:i=0\/i=1:=by rw [hl] at i1;omega
  rcases hi with rfl | rfl <;> (rw [List.getElem_take];exact sizeC_leaf _ rfl w)) (by rw [hsum];omega) (by omega)
 rw [hsum] at h
 exact h
end
section
open Go.RowKit
def OkV (v:VD):Prop:=v.Ok 140737000000000
theorem okV_of (n:Int) (h : -9223372036854775808<=n/\n<=9223372036854775807):OkV (ofV n):=⟨⟨by show (-9223372036854775808:Int)<=1;omega,by show (1:Int)<=_;omega⟩,h,Nat.zero_le _⟩
theorem okV_zero:OkV zeroV:=⟨⟨by show (-9223372036854775808:Int)<=0;omega,by show (0:Int)<=_;omega⟩,⟨by show (-9223372036854775808:Int)<=0;omega,by show (0:Int)<=_;omega⟩,Nat.zero_le _⟩
theorem okV_bit (b:Bool):OkV (bitV b):=by
 unfold bitV
 split
 ·exact okV_of 1 (by omega)
 ·exact okV_of 0 (by omega)
theorem wrap64_b (x:Int) : -9223372036854775808<=wrap64 x/\wrap64 x<=9223372036854775807:=by
 unfold wrap64
 omega
theorem okV_arith (o:Int) (a b:VD) (ha:OkV a):OkV (arithV o a b).1:=by
 unfold arithV
 split
 ·exact okV_zero
 ·split
  ·exact okV_zero
  ·split
   ·exact okV_zero
   ·split
    ·exact okV_zero
    ·split
     ·refine okV_of _ ?_
      unfold reckonV productV
      have h:=ha.n
      split
      ·exact wrap64_b _
      ·split
       ·exact wrap64_b _
       ·split
        ·split
         ·exact ⟨by dsimp only;omega,by dsimp only;omega⟩
         ·split
          ·exact ⟨by dsimp only;omega,by dsimp only;omega⟩
          ·exact wrap64_b _
        ·split
         ·exact wrap64_b _
         ·split
          ·exact ⟨by dsimp only;omega,by dsimp only;omega⟩
          ·dsimp only
           have h1:(a.num.tmod b.num).natAbs<=a.num.natAbs:=by rw [Int.natAbs_tmod];exact Nat.mod_le _ _
           have h2:a.num < 0\/0<=a.num.tmod b.num:=(Int.lt_or_le a.num 0).imp id fun h=>Int.tmod_nonneg _ h
           have h3:0<=a.num\/a.num.tmod b.num<=0:=(Int.lt_or_le a.num 0).symm.imp id fun h=>by
            have:=Int.tmod_nonneg b.num (show 0 <= -a.num by omega)
            rw [Int.neg_tmod] at this
            omega
           omega
     ·exact okV_zero
theorem okV_alone (d:ND) (v:VD) (h:OkV v):OkV (aloneV d v).1:=by
 unfold aloneV
 split
 ·exact okV_bit _
 ·split
  ·exact okV_bit _
  ·split
   ·exact h
   ·split
    ·exact okV_of _ (by have:=h.t;omega)
    ·split
     ·exact h
     ·exact okV_arith _ _ _ (okV_of 0 (by omega))
theorem okV_both (d:ND) (f s:VD) (hf:OkV f):OkV (bothV d f s).1:=by
 unfold bothV
 split
 ·unfold catV
  split
  ·exact okV_zero
  ·split
   ·exact okV_zero
   ·rename_i h1 h2
    refine ⟨⟨by show (-9223372036854775808:Int)<=2;omega,by show (2:Int)<=_;omega⟩,⟨by show (-9223372036854775808:Int)<=0;omega,by show (0:Int)<=_;omega⟩, ?_⟩
    show (f.text++s.text).size<=_
    rw [ByteArray.size_append];omega
 ·split
  ·unfold compareV
   split
   ·exact okV_zero
   ·exact okV_bit _
  ·exact okV_arith _ _ _ hf
theorem okV_lazy {α:Type} (ev:α->VD × Int) (d:ND) (args:List α) (f:VD) (hf:OkV f) (h:∀ a∈args,OkV (ev a).1) {z:VD × Int} (hz:lazyX ev d args f=some z):OkV z.1:=by
 unfold lazyX at hz
 split at hz
 ·cases hz
 ·rename_i v hv
  obtain rfl:=Option.some.inj hz
  unfold lazyV at hv
  split at hv
  ·split at hv
   ·cases hv
   ·cases hv;exact okV_of 0 (by omega)
  ·split at hv
   ·split at hv
    ·cases hv;exact okV_of 1 (by omega)
    ·cases hv
   ·split at hv
    ·split at hv
     ·cases hv
     ·cases hv;exact hf
    ·split at hv <;> cases hv
 ·split at hz
  ·obtain rfl:=Option.some.inj hz
   exact okV_zero
  ·rename_i a ha
   obtain rfl:=Option.some.inj hz
   unfold bitIf
   split
   ·exact okV_bit _
   ·exact h a (List.mem_of_getElem? ha)
theorem okV_eval {cs:List CD} {row:List VD} (hr:∀ v∈row,OkV v):∀ (n:Nat) (e:TX n),allX (fun q=>OkV q.v) n e->OkV (evalX cs row n e).1
 | 0,e,_=>e.elim
 | n+1,e,h=>by
  rw [evalX_succ]
  split
  ·dsimp only
   by_cases hk:(placeV cs e.1.name).getD 0 < row.length
   ·have:row.getD ((placeV cs e.1.name).getD 0) zeroV=row[(placeV cs e.1.name).getD 0]:=by simp [List.getD,hk]
    rw [this];exact hr _ (List.getElem_mem hk)
   ·have:row.getD ((placeV cs e.1.name).getD 0) zeroV=zeroV:=by simp [List.getD,List.getElem?_eq_none (Nat.le_of_not_lt hk)]
    rw [this];exact okV_zero
  ·split
   ·exact h.1
   ·have ih:=fun a ha=>okV_eval (cs:=cs) hr n a (h.2 a ha)
    split
    ·exact okV_zero
    ·rename_i a r he
     have ha:=ih a (by rw [he];simp)
     split
     ·exact okV_zero
     ·split
      ·rename_i z hz
       exact okV_lazy _ _ _ _ ha (fun b hb=>ih b (by rw [he];exact hb)) hz
      ·split
       ·exact okV_alone _ _ ha
       ·split
        ·exact okV_zero
        ·exact okV_both _ _ _ ha
theorem okV_top {cs:List CD} {row:List VD} (hr:∀ v∈row,OkV v) (n:Nat) (e:TX n) (h:allX (fun q=>OkV q.v) n e):OkV (topX cs row n e).1:=by
 unfold topX
 split
 ·exact okV_zero
 ·split
  ·exact okV_eval hr n e h
  ·exact okV_zero
end
end Go.Proofs.YtafoklilkdnepaaGreatDoor
