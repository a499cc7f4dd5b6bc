/- Part 15 of the texts of this proof, one behind the other. No condition beyond those that its theorems state. -/
import Derived.Test.YtafoklilkdnepaaGreatDoorRi14
import Derived.Deep.DrawnRows
set_option maxRecDepth 40000
set_option maxHeartbeats 25600000
namespace Go.Proofs.YtafoklilkdnepaaGreatDoor
section
open Go.RowKit
attribute [local go_sem ↓] Go.wp_at_zero Go.wp_at_succ
theorem rules_len (k:Int):(rulesV k).length<=140737000000000:=by unfold rulesV;split <;> (try split) <;> (try split) <;> simp
theorem rules_args (k:Int) (r:RU) (h:r∈rulesV k):r.args.length<=3:=by
 unfold rulesV at h
 split at h
 ·simp at h;rcases h with rfl | rfl <;> simp
 ·split at h
  ·simp at h;rcases h with rfl | rfl | rfl | rfl | rfl | rfl | rfl | rfl | rfl | rfl | rfl | rfl | rfl <;> simp
  ·split at h
   ·simp at h;rcases h with rfl | rfl | rfl | rfl | rfl | rfl <;> simp
   ·simp at h
theorem fi_some {α:Type} {p:α->Bool} {l:List α} {k:Nat} (h:k < l.length) (hk:p l[k]=true) (hno:∀ j (hj:j < k),p (l[j]'(by omega))=false):l.findIdx? p=some k:=by
 rw [List.findIdx?_eq_some_iff_getElem]
 exact ⟨h,hk,fun j hj=>by rw [hno j hj];simp⟩
theorem fi_none {α:Type} {p:α->Bool} {l:List α} (hno:∀ j (hj:j < l.length),p l[j]=false):l.findIdx? p=none:=by
 rw [List.findIdx?_eq_none_iff]
 intro c hc
 obtain ⟨j,hj,rfl⟩:=List.mem_iff_getElem.1 hc
 exact hno j hj
theorem fi_lt {α:Type} {p:α->Bool} {l:List α} {k:Nat} (h:l.findIdx? p=some k):k < l.length:=by
 rw [List.findIdx?_eq_some_iff_getElem] at h
 exact h.1
theorem rule1_any (nm:ByteArray) (A:Option Addr) (m c:Nat) (out:Int) (B:Nat) (s:ByteArray) (w:World) (hB:w.cell? ⟨B,0,none⟩=some (.string s)) :
  Calls Tryz.prog 181 #[.agg #[.string nm,.slice A m c,.int .i64 out],.pointer (some ⟨B,0,none⟩)] w fun e w'=>e=.returned (.bool (decide (nm=s)))/\Touch [] w w':=by
 have hbq:=bs_beq nm s
 have t0:=(Touch.refl [] w).alloc (.cells #[.string nm,.slice A m c,.int .i64 out] 202)
 have hlt:B < w.heap.size:=World.block_lt_of_cell? w _ hB
 go_enter Tryz.func181,Tryz.ntmps181
 go_wp2
 all_goals
  go_ret
  exact ⟨rfl,t0⟩
theorem indexRules_any (A:Option Addr) (cap n:Nat) (rs:List RU) (hn:rs.length=n) (B:Nat) (s:ByteArray) (w:World) {p:Nat->Prop} (h:RulesAt p w A rs) (hB:w.cell? ⟨B,0,none⟩=some (.string s)) (hl:n<=140737000000000) :
  Calls Tryz.prog 180 #[.slice A n cap,.func (.func 181) #[] #[.pointer (some ⟨B,0,none⟩)]] w fun e w' =>
   e=.returned (.int .i64 (idxI (rs.findIdx? fun r=>decide (r.name=s))))/\Touch [] w w':=by
 subst hn
 go_enter Tryz.func180,Tryz.ntmps180
 go_wp2
 go_loopw [8] (fun i wr=>∃ k:Nat,k<=rs.length/\i=.int .i64 k/\Hid (∀ j (hj:j < k) (hl:j < rs.length),decide (rs[j].name=s)=false)/\Touch [] w wr) (fun i _=>rs.length-(intOf i).toNat)
 case atStart=>exact ⟨0,by omega,rfl,lh (fun j hj=>absurd hj (by omega)),Touch.refl _ _⟩
 case round =>
  obtain ⟨k,hk,rfl,Hno,ht⟩:=hrel
  by_cases hlt:k < rs.length
  ·obtain ⟨ad,b,off,C,cc,rfl,hadd,c0,c1,c2,_,_,_⟩:=(h.touch0 ht).at_ k hlt
   have hyes:=fi_some (p:=fun r:RU=>decide (r.name=s)) hlt
   obtain ⟨c,hce⟩:∃ c,c=rs[k]:=⟨_,rfl⟩
   rw [<- hce] at c0 c1 c2 hyes
   have Hce:=lh hce;have Hyes:=lh hyes
   clear hce hyes
   have hf:=rule1_any c.name C c.args.length cc c.out B s wr (ht.cell hB (by simp))
   have hkI:(k:Int) < (rs.length:Int):=by omega
   rcases hcs:decide (c.name=s) with _ | _
   ·rw [hcs] at hf
    have Hf:=lh hf
    have Hs:=lh (show ∀ j (hj:j < k+1) (hl:j < rs.length),decide (rs[j].name=s)=false from fun j hj hl=>by
     by_cases hj':j < k
     ·exact Hno.out j hj' hl
     ·obtain rfl:j=k:=by omega
      rw [<- Hce.out];exact hcs)
    clear hf hcs
    go_wp2_with fail
    refine Hf.out.mono ?_
    rintro e w1 ⟨rfl,t1⟩
    go_wp2
    go_roundw
    case rel=>exact ⟨k+1,by omega,by go_num,Hs,ht.trans0 t1⟩
    case measure=>simp [intOf];omega
   ·have Hp:=lh (Hyes.out hcs (fun j hj=>Hno.out j hj (by omega)))
    rw [hcs] at hf
    have Hf:=lh hf
    clear hf hcs
    go_wp2_with fail
    refine Hf.out.mono ?_
    rintro e w1 ⟨rfl,t1⟩
    go_wp2
    go_ret
    exact ⟨by rw [Hp.out];rfl,ht.trans0 t1⟩
  ·obtain rfl:k=rs.length:=by omega
   have Hp:=lh (fi_none (p:=fun r:RU=>decide (r.name=s)) (fun j hj=>Hno.out j hj hj))
   go_wp2
   go_ret
   exact ⟨by rw [Hp.out];rfl,ht⟩
def RulePost (d:ND) (n:Nat) (e:Ending) (w':World):Prop :=
 match ruleV d with
 | none=>e=.returned (.tuple #[.agg #[.string ⟨#[]⟩,.slice none 0 0,.int .i64 0],.bool false])
 | some r=>∃ B c,e=.returned (.tuple #[.agg #[.string r.name,.slice B r.args.length c,.int .i64 r.out],.bool (decide (n=r.args.length))])/\IntsAt w' B r.args
theorem rule_any (x:XC) (w:World) :
  Calls Tryz.prog 145 #[x.val] w fun e w'=>RulePost x.nd x.n e w'/\Touch [] w w':=by
 obtain ⟨⟨k,nm,⟨vk,vn,vt⟩,op⟩,A,m,c⟩:=x
 dsimp only [XC.val]
 have Hrs:=lh fun w'=>rules_any k w'
 have t0:=((Touch.refl [] w).alloc (.cells #[.int .i64 k,.string nm,.int .i64 vk,.int .i64 vn,.string vt,.string op,.slice A m c] 44)).alloc (.cells #[.string ⟨#[]⟩,.slice none 0 0,.int .i64 0] 202)
 have hbx:=((Touch.refl [] (w.alloc (.cells #[.int .i64 k,.string nm,.int .i64 vk,.int .i64 vn,.string vt,.string op,.slice A m c] 44))).alloc (.cells #[.string ⟨#[]⟩,.slice none 0 0,.int .i64 0] 202)).blk (heap_alloc_new w (.cells #[.int .i64 k,.string nm,.int .i64 vk,.int .i64 vn,.string vt,.string op,.slice A m c] 44)) (by simp)
 have hbr:=heap_alloc_new (w.alloc (.cells #[.int .i64 k,.string nm,.int .i64 vk,.int .i64 vn,.string vt,.string op,.slice A m c] 44)) (.cells #[.string ⟨#[]⟩,.slice none 0 0,.int .i64 0] 202)
 simp only [World.size_alloc] at hbr
 obtain ⟨W0,hW0⟩:∃ W0,W0=(w.alloc (.cells #[.int .i64 k,.string nm,.int .i64 vk,.int .i64 vn,.string vt,.string op,.slice A m c] 44)).alloc (.cells #[.string ⟨#[]⟩,.slice none 0 0,.int .i64 0] 202):=⟨_,rfl⟩
 have hsz:W0.heap.size=w.heap.size+1+1:=by rw [hW0];simp
 rw [<- hW0] at hbx hbr t0
 obtain ⟨key,hkey⟩:∃ key,key=keyN ⟨k,nm,⟨vk,vn,vt⟩,op⟩:=⟨_,rfl⟩
 have tk:=(Touch.refl [] W0).alloc (.cells #[.string key] 9)
 have hbk:=heap_alloc_new W0 (.cells #[.string key] 9)
 rw [hsz] at hbk
 have Hx:=lh (tk.blk hbx (by simp));have Hr:=lh (tk.blk hbr (by simp));have Hk:=lh hbk
 have Tk:=lh (t0.trans0 tk)
 have Hsz:=lh hsz
 have Hkey:=lh hkey
 have HW0:=lh hW0
 clear hbx hbr hbk tk t0 hW0 hsz hkey
 have hD:∀ o,ruleI ⟨k,nm,⟨vk,vn,vt⟩,op⟩=o->(rulesV k).findIdx? (fun r=>decide (r.name=key))=o:=fun o h=>by rw [Hkey.out];exact h
 rcases hri:ruleI ⟨k,nm,⟨vk,vn,vt⟩,op⟩ with _ | q
 ·have hI:=fun C cc w' (p:Nat->Prop) (hru:RulesAt p w' C (rulesV k)) hB=>indexRules_any C cc (rulesV k).length (rulesV k) rfl (w.heap.size+1+1) key w' hru hB (rules_len k)
  rw [hD _ hri] at hI
  simp only [idxI] at hI
  have HI:=lh hI
  have Hv:=lh (show ruleV ⟨k,nm,⟨vk,vn,vt⟩,op⟩=none by unfold ruleV;rw [hri])
  clear hI hri hD
  by_cases h5:k=5
  ·have hk5:(k==5)=true:=by rw [h5];rfl
   obtain rfl:key=nm:=by rw [Hkey.out];unfold keyN;rw [if_pos h5]
   clear h5
   go_enter Tryz.func145,Tryz.ntmps145
   go_wp2_with fail
   rw [<- HW0.out]
   refine (Hrs.out _).mono ?_
   rintro e w1 ⟨C,cc,rfl,hru,t1⟩
   have hB1:=t1.cell (cell_blk Hk.out (i:=0) rfl) (by simp)
   go_wp2_with fail
   refine (HI.out C cc w1 _ hru hB1).mono ?_
   rintro e w2 ⟨rfl,t2⟩
   have T2:=(Tk.out.trans0 t1).trans0 t2
   have hr2:=(t1.trans0 t2).blk Hr.out (by simp)
   have hx2:=(t1.trans0 t2).blk Hx.out (by simp)
   obtain ⟨c0,c1,c2,f0,f1,f2⟩:=blk3x hr2
   go_wp2_with fail
   obtain ⟨q1,q2⟩:=out3 hr2 (.string ⟨#[]⟩) (.slice none 0 0) (.int .i64 0)
   obtain ⟨d0,d1,d2,_⟩:=blk3x q1
   refine bodyPost_ret (v:=.tuple #[.agg #[.string ⟨#[]⟩,.slice none 0 0,.int .i64 0],.bool false]) (by simp [results,Tryz.results145,go_sem,d0,d1,d2]) rfl ⟨?_,T2.trans q2 (fun b hb=>.inr (by simp at hb;omega))⟩
   unfold RulePost
   rw [Hv.out]
  ·have hk5:(k==5)=false:=by simpa using h5
   obtain rfl:key=op:=by rw [Hkey.out];unfold keyN;rw [if_neg h5]
   clear h5
   go_enter Tryz.func145,Tryz.ntmps145
   go_wp2_with fail
   rw [<- HW0.out]
   refine (Hrs.out _).mono ?_
   rintro e w1 ⟨C,cc,rfl,hru,t1⟩
   have hB1:=t1.cell (cell_blk Hk.out (i:=0) rfl) (by simp)
   go_wp2_with fail
   refine (HI.out C cc w1 _ hru hB1).mono ?_
   rintro e w2 ⟨rfl,t2⟩
   have T2:=(Tk.out.trans0 t1).trans0 t2
   have hr2:=(t1.trans0 t2).blk Hr.out (by simp)
   have hx2:=(t1.trans0 t2).blk Hx.out (by simp)
   obtain ⟨c0,c1,c2,f0,f1,f2⟩:=blk3x hr2
   go_wp2_with fail
   obtain ⟨q1,q2⟩:=out3 hr2 (.string ⟨#[]⟩) (.slice none 0 0) (.int .i64 0)
   obtain ⟨d0,d1,d2,_⟩:=blk3x q1
   refine bodyPost_ret (v:=.tuple #[.agg #[.string ⟨#[]⟩,.slice none 0 0,.int .i64 0],.bool false]) (by simp [results,Tryz.results145,go_sem,d0,d1,d2]) rfl ⟨?_,T2.trans q2 (fun b hb=>.inr (by simp at hb;omega))⟩
   unfold RulePost
   rw [Hv.out]
 ·have hq:=fi_lt (hD _ hri)
  have hI:=fun C cc w' (p:Nat->Prop) (hru:RulesAt p w' C (rulesV k)) hB=>indexRules_any C cc (rulesV k).length (rulesV k) rfl (w.heap.size+1+1) key w' hru hB (rules_len k)
  rw [hD _ hri] at hI
  simp only [idxI] at hI
  have HI:=lh hI
  obtain ⟨r,hr⟩:∃ r,r=(rulesV k)[q]:=⟨_,rfl⟩
  have Hv:=lh (show ruleV ⟨k,nm,⟨vk,vn,vt⟩,op⟩=some r by unfold ruleV;rw [hri];show (rulesV k)[q]?=_;rw [List.getElem?_eq_getElem hq,hr])
  have hql:=rules_len k
  have hra:=rules_args k r (by rw [hr];exact List.getElem_mem hq)
  have Hre:=lh hr
  clear hI hri hD hr
  by_cases h5:k=5
  ·have hk5:(k==5)=true:=by rw [h5];rfl
   obtain rfl:key=nm:=by rw [Hkey.out];unfold keyN;rw [if_pos h5]
   clear h5
   go_enter Tryz.func145,Tryz.ntmps145
   go_wp2_with fail
   rw [<- HW0.out]
   refine (Hrs.out _).mono ?_
   rintro e w1 ⟨C,cc,rfl,hru,t1⟩
   have hB1:=t1.cell (cell_blk Hk.out (i:=0) rfl) (by simp)
   go_wp2_with fail
   refine (HI.out C cc w1 _ hru hB1).mono ?_
   rintro e w2 ⟨rfl,t2⟩
   have T2:=(Tk.out.trans0 t1).trans0 t2
   have hr2:=(t1.trans0 t2).blk Hr.out (by simp)
   have hx2:=(t1.trans0 t2).blk Hx.out (by simp)
   obtain ⟨c0,c1,c2,f0,f1,f2⟩:=blk3x hr2
   have hru2:=hru.touch0 t2
   obtain ⟨ad,b,off,B,c1',e1,hadd,z0,z1,z2,hin,hpb,hpB⟩:=hru2.at_ q hq
   rw [<- Hre.out] at z0 z1 z2 hin
   subst e1
   have td:=(Touch.refl [] w2).drew
   have x0:=td.cell z0 (by simp);have x1:=td.cell z1 (by simp);have x2:=td.cell z2 (by simp)
   have x3:=td.cell (cell_blk hx2 (i:=6) rfl) (by simp)
   obtain ⟨q1,q2⟩:=out3 (td.blk hr2 (by simp)) (.string r.name) (.slice B r.args.length c1') (.int .i64 r.out)
   have hqI0:(0:Int)<=(q:Int):=by omega
   have hqI:(q:Int) < ((rulesV k).length:Int):=by omega
   have hbW:w.heap.size+1+1<=b:=by have h1:=hpb;rw [World.size_alloc,Hsz.out] at h1;omega
   obtain ⟨d0,d1,d2,_⟩:=blk3x q1
   clear z0 z1 z2
   go_wp2_with fail
   refine wp_region_held_drew (S:=fun w'=>w'.cell? ⟨b,off,none⟩=some (.string r.name)/\w'.cell? ⟨b,off+1,none⟩=some (.slice B r.args.length c1')/\w'.cell? ⟨b,off+2,none⟩=some (.int .i64 r.out)/\w'.cell? ⟨w.heap.size,6,none⟩=some (.slice A m c)) (by kernel_rfl) ⟨x0,x1,x2,x3⟩ (fun hHeld => ?_)
   refine take_d (i:=0) (d:=23) (v := ?_) rfl rfl (by kernel_rfl) (by kernel_rfl) (by kernel_rfl) (fun _ _ _ h=>h) (Or.inl ⟨by rfl, ?_⟩) (by assumption) ?_
   rotate_left
   ·intro w hSw;(try dsimp only at hSw);go_simp;(try with_reducible rfl)
   try simp only [Act.put,List.setIfInBounds_toArray,List.set_cons_zero,List.set_cons_succ]
   refine take_d (i:=1) (d:=24) (v := ?_) rfl rfl (by kernel_rfl) (by kernel_rfl) (by kernel_rfl) (fun _ _ _ h=>h) (Or.inl ⟨by rfl, ?_⟩) (by assumption) ?_
   rotate_left
   ·intro w hSw;(try dsimp only at hSw);go_simp;(try with_reducible rfl)
   try simp only [Act.put,List.setIfInBounds_toArray,List.set_cons_zero,List.set_cons_succ]
   refine take_d (i:=2) (d:=25) (v := ?_) rfl rfl (by kernel_rfl) (by kernel_rfl) (by kernel_rfl) (fun _ _ _ h=>h) (Or.inl ⟨by rfl, ?_⟩) (by assumption) ?_
   rotate_left
   ·intro w hSw;(try dsimp only at hSw);go_simp;(try with_reducible rfl)
   try simp only [Act.put,List.setIfInBounds_toArray,List.set_cons_zero,List.set_cons_succ]
   refine take_d (i:=3) (d:=26) (v := ?_) rfl rfl (by kernel_rfl) (by kernel_rfl) (by kernel_rfl) (fun _ _ _ h=>h) (Or.inl ⟨by rfl, ?_⟩) (by assumption) ?_
   rotate_left
   ·intro w hSw;(try dsimp only at hSw);go_simp;(try with_reducible rfl)
   try simp only [Act.put,List.setIfInBounds_toArray,List.set_cons_zero,List.set_cons_succ]
   refine take_d (i:=4) (d:=27) (v := ?_) rfl rfl (by kernel_rfl) (by kernel_rfl) (by kernel_rfl) (fun _ _ _ h=>h) (Or.inl ⟨by rfl, ?_⟩) (by assumption) ?_
   rotate_left
   ·intro w hSw;(try dsimp only at hSw);go_simp;(try with_reducible rfl)
   try simp only [Act.put,List.setIfInBounds_toArray,List.set_cons_zero,List.set_cons_succ]
   refine take_d (i:=5) (d:=28) (v := ?_) rfl rfl (by kernel_rfl) (by kernel_rfl) (by kernel_rfl) (fun _ _ _ h=>h) (Or.inl ⟨by rfl, ?_⟩) (by assumption) ?_
   rotate_left
   ·intro w hSw;(try dsimp only at hSw);go_simp;(try with_reducible rfl)
   try simp only [Act.put,List.setIfInBounds_toArray,List.set_cons_zero,List.set_cons_succ]
   refine take_d (i:=6) (d:=29) (v := ?_) rfl rfl (by kernel_rfl) (by kernel_rfl) (by kernel_rfl) (fun _ _ _ h=>h) (Or.inl ⟨by rfl, ?_⟩) (by assumption) ?_
   rotate_left
   ·intro w hSw;(try dsimp only at hSw);go_simp;(try with_reducible rfl)
   try simp only [Act.put,List.setIfInBounds_toArray,List.set_cons_zero,List.set_cons_succ]
   refine take_d (i:=7) (d:=30) (v := ?_) rfl rfl (by kernel_rfl) (by kernel_rfl) (by kernel_rfl) (fun _ _ _ h=>h) (Or.inl ⟨by rfl, ?_⟩) (by assumption) ?_
   rotate_left
   ·intro w hSw;(try dsimp only at hSw);go_simp;(try with_reducible rfl)
   try simp only [Act.put,List.setIfInBounds_toArray,List.set_cons_zero,List.set_cons_succ]
   refine take_d (i:=8) (d:=31) (v := ?_) rfl rfl (by kernel_rfl) (by kernel_rfl) (by kernel_rfl) (fun _ _ _ h=>h) (Or.inl ⟨by rfl, ?_⟩) (by assumption) ?_
   rotate_left
   ·intro w hSw;(try dsimp only at hSw);go_simp;(try with_reducible rfl)
   try simp only [Act.put,List.setIfInBounds_toArray,List.set_cons_zero,List.set_cons_succ]
   refine take_d (i:=9) (d:=32) (v := ?_) rfl rfl (by kernel_rfl) (by kernel_rfl) (by kernel_rfl) (fun _ _ _ h=>h) (Or.inl ⟨by rfl, ?_⟩) (by assumption) ?_
   rotate_left
   ·intro w hSw;(try dsimp only at hSw);go_simp;(try with_reducible rfl)
   try simp only [Act.put,List.setIfInBounds_toArray,List.set_cons_zero,List.set_cons_succ]
   refine take_d (i:=10) (d:=33) (v := ?_) rfl rfl (by kernel_rfl) (by kernel_rfl) (by kernel_rfl) (fun _ _ _ h=>h) (Or.inl ⟨by rfl, ?_⟩) (by assumption) ?_
   rotate_left
   ·intro w hSw;(try dsimp only at hSw);go_simp;(try with_reducible rfl)
   try simp only [Act.put,List.setIfInBounds_toArray,List.set_cons_zero,List.set_cons_succ]
   refine take_d (i:=11) (d:=34) (v := ?_) rfl rfl (by kernel_rfl) (by kernel_rfl) (by kernel_rfl) (fun _ _ _ h=>h) (Or.inl ⟨by rfl, ?_⟩) (by assumption) ?_
   rotate_left
   ·intro w hSw;(try dsimp only at hSw);go_simp;(try with_reducible rfl)
   try simp only [Act.put,List.setIfInBounds_toArray,List.set_cons_zero,List.set_cons_succ]
   refine take_d (i:=12) (d:=35) (v := ?_) rfl rfl (by kernel_rfl) (by kernel_rfl) (by kernel_rfl) (fun _ _ _ h=>h) (Or.inl ⟨by rfl, ?_⟩) (by assumption) ?_
   rotate_left
   ·intro w hSw;(try dsimp only at hSw);go_simp;(try with_reducible rfl)
   try simp only [Act.put,List.setIfInBounds_toArray,List.set_cons_zero,List.set_cons_succ]
   refine take_d (i:=13) (d:=36) (v := ?_) rfl rfl (by kernel_rfl) (by kernel_rfl) (by kernel_rfl) (fun _ _ _ h=>h) (Or.inl ⟨by rfl, ?_⟩) (by assumption) ?_
   rotate_left
   ·intro w hSw;(try dsimp only at hSw);go_simp;(try with_reducible rfl)
   try simp only [Act.put,List.setIfInBounds_toArray,List.set_cons_zero,List.set_cons_succ]
   refine wpAnyH_ready (rs:=[14]) (by kernel_rfl) (by simp) ?_
   refine AllReadyH.cons rfl (fun K hK => ?_) AllReadyH.nil
   go_simp
   have y0:=q2.cell x0 (by simp only [List.mem_singleton];omega)
   have y1:=q2.cell x1 (by simp only [List.mem_singleton];omega)
   have y2:=q2.cell x2 (by simp only [List.mem_singleton];omega)
   have y3:=q2.cell x3 (by simp only [List.mem_singleton];omega)
   (try go_wp2_with fail)
   refine hK.out _ _ ⟨y0,y1,y2,y3⟩ (fun _hH => ?_)
   clear hK K
   try simp only [Act.put,List.setIfInBounds_toArray,List.set_cons_zero,List.set_cons_succ]
   refine take_d (i:=15) (d:=3) (v := ?_) rfl rfl (by kernel_rfl) (by kernel_rfl) (by kernel_rfl) (fun _ _ _ h=>h) (Or.inl ⟨by rfl, ?_⟩) (by assumption) ?_
   rotate_left
   ·intro w hSw;(try dsimp only at hSw);go_simp;(try with_reducible rfl)
   try simp only [Act.put,List.setIfInBounds_toArray,List.set_cons_zero,List.set_cons_succ]
   refine wpAnyH_done (by kernel_rfl) ?_ _
   go_wp2_with fail
   obtain ⟨d0',d1',d2',_⟩:=blk3x (w:=(((w2.setCell ⟨w.heap.size+1,0,none⟩ (.string r.name)).setCell ⟨w.heap.size+1,1,none⟩ (.slice B r.args.length c1')).setCell ⟨w.heap.size+1,2,none⟩ (.int .i64 r.out)).drew) q1
   refine bodyPost_ret (v:=.tuple #[.agg #[.string r.name,.slice B r.args.length c1',.int .i64 r.out],.bool ((m:Int)==(r.args.length:Int))]) (by simp [results,Tryz.results145,go_sem,d0',d1',d2']) rfl ⟨?_,(T2.trans0 td).trans q2 (fun b hb=>.inr (by simp at hb;omega))⟩
   have hbm:((m:Int)==(r.args.length:Int))=decide (m=r.args.length):=by rw [Bool.eq_iff_iff];simp;omega
   unfold RulePost
   rw [Hv.out,hbm]
   exact ⟨B,c1',rfl,RdK.touch (IntsAt.touch0 hin td) q2 (fun b hb hm=>by have h1:=hpB b hb;rw [World.size_alloc,Hsz.out] at h1;simp at hm;omega)⟩
  ·have hk5:(k==5)=false:=by simpa using h5
   obtain rfl:key=op:=by rw [Hkey.out];unfold keyN;rw [if_neg h5]
   clear h5
   go_enter Tryz.func145,Tryz.ntmps145
   go_wp2_with fail
   rw [<- HW0.out]
   refine (Hrs.out _).mono ?_
   rintro e w1 ⟨C,cc,rfl,hru,t1⟩
   have hB1:=t1.cell (cell_blk Hk.out (i:=0) rfl) (by simp)
   go_wp2_with fail
   refine (HI.out C cc w1 _ hru hB1).mono ?_
   rintro e w2 ⟨rfl,t2⟩
   have T2:=(Tk.out.trans0 t1).trans0 t2
   have hr2:=(t1.trans0 t2).blk Hr.out (by simp)
   have hx2:=(t1.trans0 t2).blk Hx.out (by simp)
   obtain ⟨c0,c1,c2,f0,f1,f2⟩:=blk3x hr2
   have hru2:=hru.touch0 t2
   obtain ⟨ad,b,off,B,c1',e1,hadd,z0,z1,z2,hin,hpb,hpB⟩:=hru2.at_ q hq
   rw [<- Hre.out] at z0 z1 z2 hin
   subst e1
   have td:=(Touch.refl [] w2).drew
   have x0:=td.cell z0 (by simp);have x1:=td.cell z1 (by simp);have x2:=td.cell z2 (by simp)
   have x3:=td.cell (cell_blk hx2 (i:=6) rfl) (by simp)
   obtain ⟨q1,q2⟩:=out3 (td.blk hr2 (by simp)) (.string r.name) (.slice B r.args.length c1') (.int .i64 r.out)
   have hqI0:(0:Int)<=(q:Int):=by omega
   have hqI:(q:Int) < ((rulesV k).length:Int):=by omega
   have hbW:w.heap.size+1+1<=b:=by have h1:=hpb;rw [World.size_alloc,Hsz.out] at h1;omega
   obtain ⟨d0,d1,d2,_⟩:=blk3x q1
   clear z0 z1 z2
   go_wp2_with fail
   refine wp_region_held_drew (S:=fun w'=>w'.cell? ⟨b,off,none⟩=some (.string r.name)/\w'.cell? ⟨b,off+1,none⟩=some (.slice B r.args.length c1')/\w'.cell? ⟨b,off+2,none⟩=some (.int .i64 r.out)/\w'.cell? ⟨w.heap.size,6,none⟩=some (.slice A m c)) (by kernel_rfl) ⟨x0,x1,x2,x3⟩ (fun hHeld => ?_)
   refine take_d (i:=0) (d:=23) (v := ?_) rfl rfl (by kernel_rfl) (by kernel_rfl) (by kernel_rfl) (fun _ _ _ h=>h) (Or.inl ⟨by rfl, ?_⟩) (by assumption) ?_
   rotate_left
   ·intro w hSw;(try dsimp only at hSw);go_simp;(try with_reducible rfl)
   try simp only [Act.put,List.setIfInBounds_toArray,List.set_cons_zero,List.set_cons_succ]
   refine take_d (i:=1) (d:=24) (v := ?_) rfl rfl (by kernel_rfl) (by kernel_rfl) (by kernel_rfl) (fun _ _ _ h=>h) (Or.inl ⟨by rfl, ?_⟩) (by assumption) ?_
   rotate_left
   ·intro w hSw;(try dsimp only at hSw);go_simp;(try with_reducible rfl)
   try simp only [Act.put,List.setIfInBounds_toArray,List.set_cons_zero,List.set_cons_succ]
   refine take_d (i:=2) (d:=25) (v := ?_) rfl rfl (by kernel_rfl) (by kernel_rfl) (by kernel_rfl) (fun _ _ _ h=>h) (Or.inl ⟨by rfl, ?_⟩) (by assumption) ?_
   rotate_left
   ·intro w hSw;(try dsimp only at hSw);go_simp;(try with_reducible rfl)
   try simp only [Act.put,List.setIfInBounds_toArray,List.set_cons_zero,List.set_cons_succ]
   refine take_d (i:=3) (d:=26) (v := ?_) rfl rfl (by kernel_rfl) (by kernel_rfl) (by kernel_rfl) (fun _ _ _ h=>h) (Or.inl ⟨by rfl, ?_⟩) (by assumption) ?_
   rotate_left
   ·intro w hSw;(try dsimp only at hSw);go_simp;(try with_reducible rfl)
   try simp only [Act.put,List.setIfInBounds_toArray,List.set_cons_zero,List.set_cons_succ]
   refine take_d (i:=4) (d:=27) (v := ?_) rfl rfl (by kernel_rfl) (by kernel_rfl) (by kernel_rfl) (fun _ _ _ h=>h) (Or.inl ⟨by rfl, ?_⟩) (by assumption) ?_
   rotate_left
   ·intro w hSw;(try dsimp only at hSw);go_simp;(try with_reducible rfl)
   try simp only [Act.put,List.setIfInBounds_toArray,List.set_cons_zero,List.set_cons_succ]
   refine take_d (i:=5) (d:=28) (v := ?_) rfl rfl (by kernel_rfl) (by kernel_rfl) (by kernel_rfl) (fun _ _ _ h=>h) (Or.inl ⟨by rfl, ?_⟩) (by assumption) ?_
   rotate_left
   ·intro w hSw;(try dsimp only at hSw);go_simp;(try with_reducible rfl)
   try simp only [Act.put,List.setIfInBounds_toArray,List.set_cons_zero,List.set_cons_succ]
   refine take_d (i:=6) (d:=29) (v := ?_) rfl rfl (by kernel_rfl) (by kernel_rfl) (by kernel_rfl) (fun _ _ _ h=>h) (Or.inl ⟨by rfl, ?_⟩) (by assumption) ?_
   rotate_left
   ·intro w hSw;(try dsimp only at hSw);go_simp;(try with_reducible rfl)
   try simp only [Act.put,List.setIfInBounds_toArray,List.set_cons_zero,List.set_cons_succ]
   refine take_d (i:=7) (d:=30) (v := ?_) rfl rfl (by kernel_rfl) (by kernel_rfl) (by kernel_rfl) (fun _ _ _ h=>h) (Or.inl ⟨by rfl, ?_⟩) (by assumption) ?_
   rotate_left
   ·intro w hSw;(try dsimp only at hSw);go_simp;(try with_reducible rfl)
   try simp only [Act.put,List.setIfInBounds_toArray,List.set_cons_zero,List.set_cons_succ]
   refine take_d (i:=8) (d:=31) (v := ?_) rfl rfl (by kernel_rfl) (by kernel_rfl) (by kernel_rfl) (fun _ _ _ h=>h) (Or.inl ⟨by rfl, ?_⟩) (by assumption) ?_
   rotate_left
   ·intro w hSw;(try dsimp only at hSw);go_simp;(try with_reducible rfl)
   try simp only [Act.put,List.setIfInBounds_toArray,List.set_cons_zero,List.set_cons_succ]
   refine take_d (i:=9) (d:=32) (v := ?_) rfl rfl (by kernel_rfl) (by kernel_rfl) (by kernel_rfl) (fun _ _ _ h=>h) (Or.inl ⟨by rfl, ?_⟩) (by assumption) ?_
   rotate_left
   ·intro w hSw;(try dsimp only at hSw);go_simp;(try with_reducible rfl)
   try simp only [Act.put,List.setIfInBounds_toArray,List.set_cons_zero,List.set_cons_succ]
   refine take_d (i:=10) (d:=33) (v := ?_) rfl rfl (by kernel_rfl) (by kernel_rfl) (by kernel_rfl) (fun _ _ _ h=>h) (Or.inl ⟨by rfl, ?_⟩) (by assumption) ?_
   rotate_left
   ·intro w hSw;(try dsimp only at hSw);go_simp;(try with_reducible rfl)
   try simp only [Act.put,List.setIfInBounds_toArray,List.set_cons_zero,List.set_cons_succ]
   refine take_d (i:=11) (d:=34) (v := ?_) rfl rfl (by kernel_rfl) (by kernel_rfl) (by kernel_rfl) (fun _ _ _ h=>h) (Or.inl ⟨by rfl, ?_⟩) (by assumption) ?_
   rotate_left
   ·intro w hSw;(try dsimp only at hSw);go_simp;(try with_reducible rfl)
   try simp only [Act.put,List.setIfInBounds_toArray,List.set_cons_zero,List.set_cons_succ]
   refine take_d (i:=12) (d:=35) (v := ?_) rfl rfl (by kernel_rfl) (by kernel_rfl) (by kernel_rfl) (fun _ _ _ h=>h) (Or.inl ⟨by rfl, ?_⟩) (by assumption) ?_
   rotate_left
   ·intro w hSw;(try dsimp only at hSw);go_simp;(try with_reducible rfl)
   try simp only [Act.put,List.setIfInBounds_toArray,List.set_cons_zero,List.set_cons_succ]
   refine take_d (i:=13) (d:=36) (v := ?_) rfl rfl (by kernel_rfl) (by kernel_rfl) (by kernel_rfl) (fun _ _ _ h=>h) (Or.inl ⟨by rfl, ?_⟩) (by assumption) ?_
   rotate_left
   ·intro w hSw;(try dsimp only at hSw);go_simp;(try with_reducible rfl)
   try simp only [Act.put,List.setIfInBounds_toArray,List.set_cons_zero,List.set_cons_succ]
   refine wpAnyH_ready (rs:=[14]) (by kernel_rfl) (by simp) ?_
   refine AllReadyH.cons rfl (fun K hK => ?_) AllReadyH.nil
   go_simp
   have y0:=q2.cell x0 (by simp only [List.mem_singleton];omega)
   have y1:=q2.cell x1 (by simp only [List.mem_singleton];omega)
   have y2:=q2.cell x2 (by simp only [List.mem_singleton];omega)
   have y3:=q2.cell x3 (by simp only [List.mem_singleton];omega)
   (try go_wp2_with fail)
   refine hK.out _ _ ⟨y0,y1,y2,y3⟩ (fun _hH => ?_)
   clear hK K
   try simp only [Act.put,List.setIfInBounds_toArray,List.set_cons_zero,List.set_cons_succ]
   refine take_d (i:=15) (d:=3) (v := ?_) rfl rfl (by kernel_rfl) (by kernel_rfl) (by kernel_rfl) (fun _ _ _ h=>h) (Or.inl ⟨by rfl, ?_⟩) (by assumption) ?_
   rotate_left
   ·intro w hSw;(try dsimp only at hSw);go_simp;(try with_reducible rfl)
   try simp only [Act.put,List.setIfInBounds_toArray,List.set_cons_zero,List.set_cons_succ]
   refine wpAnyH_done (by kernel_rfl) ?_ _
   go_wp2_with fail
   obtain ⟨d0',d1',d2',_⟩:=blk3x (w:=(((w2.setCell ⟨w.heap.size+1,0,none⟩ (.string r.name)).setCell ⟨w.heap.size+1,1,none⟩ (.slice B r.args.length c1')).setCell ⟨w.heap.size+1,2,none⟩ (.int .i64 r.out)).drew) q1
   refine bodyPost_ret (v:=.tuple #[.agg #[.string r.name,.slice B r.args.length c1',.int .i64 r.out],.bool ((m:Int)==(r.args.length:Int))]) (by simp [results,Tryz.results145,go_sem,d0',d1',d2']) rfl ⟨?_,(T2.trans0 td).trans q2 (fun b hb=>.inr (by simp at hb;omega))⟩
   have hbm:((m:Int)==(r.args.length:Int))=decide (m=r.args.length):=by rw [Bool.eq_iff_iff];simp;omega
   unfold RulePost
   rw [Hv.out,hbm]
   exact ⟨B,c1',rfl,RdK.touch (IntsAt.touch0 hin td) q2 (fun b hb hm=>by have h1:=hpB b hb;rw [World.size_alloc,Hsz.out] at h1;simp at hm;omega)⟩
end
section
open Go.RowKit
theorem isEmpty_S (s:ByteArray):s.toList.isEmpty=decide (s=S []):=by
 rw [Bool.eq_iff_iff,toList_B,List.isEmpty_iff,decide_eq_true_eq]
 exact ⟨fun h=>bs_eq (by rw [h];rfl),fun h=>by rw [h];rfl⟩
theorem isNull_eq (v:VD):isNull v=eqV3 v zeroV:=rfl
theorem nat0 (m:Nat):((m:Int)==0)=decide (m=0):=by rw [Bool.eq_iff_iff];simp
theorem form_any (x:XC) (hv:x.nd.v.text.size<=140737000000000) (w:World) :
  Calls Tryz.prog 144 #[x.val] w fun e w'=>e=.returned (.bool (formV x.nd x.n))/\Touch [] w w':=by
 have hrule:=fun w'=>rule_any x w'
 obtain ⟨⟨k,nm,⟨vk,vn,vt⟩,op⟩,A,m,c⟩:=x
 dsimp only at hv
 dsimp only [XC.val] at hrule ⊢
 have Hrule:=lh hrule
 have Hnull:=lh fun w'=>vnull_any w'
 have Hright:=lh fun w'=>right_any ⟨vk,vn,vt⟩ hv w'
 simp only [VD.val,zeroV] at Hnull Hright
 have heq:=eqIn_valX ⟨vk,vn,vt⟩ zeroV
 have hnu:=isNull_eq ⟨vk,vn,vt⟩
 rw [<- hnu] at heq
 simp only [zeroV] at heq
 have hgd:=guard_valX
 have hop:=isEmpty_S op
 have hnm:=isEmpty_S nm
 have hm0:=nat0 m
 obtain ⟨W,hW⟩:∃ W,W=w.alloc (.cells #[.int .i64 k,.string nm,.int .i64 vk,.int .i64 vn,.string vt,.string op,.slice A m c] 44):=⟨_,rfl⟩
 have tb:=(Touch.refl [] w).alloc (.cells #[.int .i64 k,.string nm,.int .i64 vk,.int .i64 vn,.string vt,.string op,.slice A m c] 44)
 have hb:=heap_alloc_new w (.cells #[.int .i64 k,.string nm,.int .i64 vk,.int .i64 vn,.string vt,.string op,.slice A m c] 44)
 have hsz:=World.size_alloc w (.cells #[.int .i64 k,.string nm,.int .i64 vk,.int .i64 vn,.string vt,.string op,.slice A m c] 44)
 rw [<- hW] at tb hb hsz
 have HW:=lh hW
 obtain ⟨c0,c1,c2,c3,c4,c5,c6,_⟩:=blk7 hb
 have Hb:=lh hb
 have Hsz:=lh hsz
 clear hrule hW hb hnu hsz
 by_cases h1:k=1
 ·have Hf:=lh (show formV ⟨k,nm,⟨vk,vn,vt⟩,op⟩ m=(decide (op=S [])&&(decide (m=0)&&isNull ⟨vk,vn,vt⟩)) by unfold formV;rw [if_pos h1])
  subst h1
  have g0:=TW.cell c0;have g1:=TW.cell c1;have g2:=TW.cell c2;have g3:=TW.cell c3;have g4:=TW.cell c4;have g5:=TW.cell c5;have g6:=TW.cell c6
  clear c0 c1 c2 c3 c4 c5 c6
  rcases ho:decide (op=S []) with _ | _
  ·rw [ho] at hop
   have Ho:=lh ho
   clear ho
   go_enter Tryz.func144,Tryz.ntmps144
   go_wp2
   rw [<- HW.out]
   refine wp_region_tw W (Touch.refl _ _) (by kernel_rfl) (by kernel_rfl) ?_
   repeat (go_big_quiet_step (((go_at_call 173;exact Calls.tw _ (Hnull.out _)))))
   refine wpQuiet_nil ?_
   rintro _ ⟨y,rfl⟩
   go_wp2
   go_ret
   exact ⟨ret_bool (by rw [Hf.out,Ho.out,Bool.false_and]),tb.trans0 y.t⟩
  rw [ho] at hop
  have Ho:=lh ho
  clear ho
  rcases hz:decide (m=0) with _ | _
  ·rw [hz] at hm0
   have Hz:=lh hz
   clear hz
   go_enter Tryz.func144,Tryz.ntmps144
   go_wp2
   rw [<- HW.out]
   refine wp_region_tw W (Touch.refl _ _) (by kernel_rfl) (by kernel_rfl) ?_
   repeat (go_big_quiet_step (((go_at_call 173;exact Calls.tw _ (Hnull.out _)))))
   refine wpQuiet_nil ?_
   rintro _ ⟨y,rfl⟩
   go_wp2
   go_ret
   exact ⟨ret_bool (by rw [Hf.out,Ho.out,Hz.out,Bool.false_and,Bool.and_false]),tb.trans0 y.t⟩
  ·rw [hz] at hm0
   have Hz:=lh hz
   clear hz
   go_enter Tryz.func144,Tryz.ntmps144
   go_wp2
   rw [<- HW.out]
   refine wp_region_tw W (Touch.refl _ _) (by kernel_rfl) (by kernel_rfl) ?_
   repeat (go_big_quiet_step (((go_at_call 173;exact Calls.tw _ (Hnull.out _)))))
   refine wpQuiet_nil ?_
   rintro _ ⟨y,rfl⟩
   go_wp2
   go_ret
   exact ⟨ret_bool (by rw [Hf.out,Ho.out,Hz.out,Bool.true_and,Bool.true_and]),tb.trans0 y.t⟩
 by_cases h2:k=2
 ·have Hf:=lh (show formV ⟨k,nm,⟨vk,vn,vt⟩,op⟩ m=(decide (nm=S [])&&(decide (op=S [])&&(decide (m=0)&&VD.right ⟨vk,vn,vt⟩))) by unfold formV;rw [if_neg h1,if_pos h2])
  subst h2
  clear h1
  rcases ho:decide (nm=S []) with _ | _
  ·rw [ho] at hnm
   have Ho:=lh ho
   clear ho
   go_enter Tryz.func144,Tryz.ntmps144
   go_wp2_with fail
   rw [<- HW.out]
   go_ret
   exact ⟨ret_bool (by rw [Hf.out,Ho.out,Bool.false_and]),tb⟩
  rw [ho] at hnm
  have Ho:=lh ho
  clear ho
  rcases hp:decide (op=S []) with _ | _
  ·rw [hp] at hop
   have Hp:=lh hp
   clear hp
   go_enter Tryz.func144,Tryz.ntmps144
   go_wp2_with fail
   rw [<- HW.out]
   go_ret
   exact ⟨ret_bool (by rw [Hf.out,Ho.out,Hp.out,Bool.false_and,Bool.and_false]),tb⟩
  rw [hp] at hop
  have Hp:=lh hp
  clear hp
  rcases hz:decide (m=0) with _ | _
  ·rw [hz] at hm0
   have Hz:=lh hz
   clear hz
   go_enter Tryz.func144,Tryz.ntmps144
   go_wp2_with fail
   rw [<- HW.out]
   go_ret
   exact ⟨ret_bool (by rw [Hf.out,Ho.out,Hp.out,Hz.out,Bool.false_and,Bool.and_false,Bool.and_false]),tb⟩
  ·rw [hz] at hm0
   have Hz:=lh hz
   clear hz
   go_enter Tryz.func144,Tryz.ntmps144
   go_wp2_with fail
   rw [<- HW.out]
   refine (Hright.out _).mono ?_
   rintro e w1 ⟨rfl,t1⟩
   go_wp2_with fail
   go_ret
   exact ⟨ret_bool (by rw [Hf.out,Ho.out,Hp.out,Hz.out,Bool.true_and,Bool.true_and,Bool.true_and]),tb.trans0 t1⟩
 have hf:formV ⟨k,nm,⟨vk,vn,vt⟩,op⟩ m=((match ruleV ⟨k,nm,⟨vk,vn,vt⟩,op⟩ with | some r=>decide (m=r.args.length) | none=>false)&&(isNull ⟨vk,vn,vt⟩&&(if k=5 then decide (op=S []) else decide (nm=S [])))):=by
  unfold formV;rw [if_neg h1,if_neg h2];rfl
 have q1:(k==1)=false:=by simpa using h1
 have q2:(k==2)=false:=by simpa using h2
 clear h1 h2 Hright
 have hpost:∀ e w1,RulePost ⟨k,nm,⟨vk,vn,vt⟩,op⟩ m e w1->∃ s0 B0 n0 d0 z0 bo,e=.returned (.tuple #[.agg #[.string s0,.slice B0 n0 d0,.int .i64 z0],.bool bo])/\bo=(match ruleV ⟨k,nm,⟨vk,vn,vt⟩,op⟩ with | some r=>decide (m=r.args.length) | none=>false):=fun e w1 hp=>by
  unfold RulePost at hp
  split at hp
  ·rename_i hv0;exact ⟨_,_,_,_,_,_,hp,by rw [hv0]⟩
  ·rename_i r hv0;obtain ⟨B,c',he,_⟩:=hp;exact ⟨_,_,_,_,_,_,he,by rw [hv0]⟩
 have Hpost:=lh hpost
 have Hf:=lh hf
 clear hpost hf
 rcases hu:isNull ⟨vk,vn,vt⟩ with _ | _
 ·rw [hu] at heq Hf
  clear hu
  go_enter Tryz.func144,Tryz.ntmps144
  go_wp2_with fail
  rw [<- HW.out]
  refine (Hrule.out _).mono ?_
  rintro e w1 ⟨hp,t1⟩
  obtain ⟨s0,B0,n0,d0,z0,bo,rfl,hbo⟩:=Hpost.out e w1 hp
  have Hbo:=lh hbo
  clear hp hbo
  have g0:=TW.cell ((t1.alloc (.cells #[.string s0,.slice B0 n0 d0,.int .i64 z0] 202)).cell c0 (by simp))
  have g1:=TW.cell ((t1.alloc (.cells #[.string s0,.slice B0 n0 d0,.int .i64 z0] 202)).cell c1 (by simp))
  have g2:=TW.cell ((t1.alloc (.cells #[.string s0,.slice B0 n0 d0,.int .i64 z0] 202)).cell c2 (by simp))
  have g3:=TW.cell ((t1.alloc (.cells #[.string s0,.slice B0 n0 d0,.int .i64 z0] 202)).cell c3 (by simp))
  have g4:=TW.cell ((t1.alloc (.cells #[.string s0,.slice B0 n0 d0,.int .i64 z0] 202)).cell c4 (by simp))
  have g5:=TW.cell ((t1.alloc (.cells #[.string s0,.slice B0 n0 d0,.int .i64 z0] 202)).cell c5 (by simp))
  have g6:=TW.cell ((t1.alloc (.cells #[.string s0,.slice B0 n0 d0,.int .i64 z0] 202)).cell c6 (by simp))
  have T1:=tb.trans0 (t1.alloc (.cells #[.string s0,.slice B0 n0 d0,.int .i64 z0] 202))
  clear c0 c1 c2 c3 c4 c5 c6
  cases bo
  ·go_wp2
   refine wp_region_tw (w1.alloc (.cells #[.string s0,.slice B0 n0 d0,.int .i64 z0] 202)) (Touch.refl _ _) (by kernel_rfl) (by kernel_rfl) ?_
   repeat (go_big_quiet_step (((go_at_call 173;exact Calls.tw _ (Hnull.out _)))))
   refine wpQuiet_nil ?_
   rintro _ ⟨y,rfl⟩
   go_wp2
   go_ret
   exact ⟨ret_bool (by rw [Hf.out,<- Hbo.out,Bool.false_and]),T1.trans0 y.t⟩
  ·go_wp2
   refine wp_region_tw (w1.alloc (.cells #[.string s0,.slice B0 n0 d0,.int .i64 z0] 202)) (Touch.refl _ _) (by kernel_rfl) (by kernel_rfl) ?_
   repeat (go_big_quiet_step (((go_at_call 173;exact Calls.tw _ (Hnull.out _)))))
   refine wpQuiet_nil ?_
   rintro _ ⟨y,rfl⟩
   go_wp2
   go_ret
   exact ⟨ret_bool (by rw [Hf.out,<- Hbo.out,Bool.true_and,Bool.false_and]),T1.trans0 y.t⟩
 rw [hu] at heq Hf
 clear hu
 by_cases h5:k=5
 ·have q5:(k==5)=true:=by simpa using h5
  have q5':(k != 5)=false:=by simpa using h5
  rw [if_pos h5] at Hf
  clear h5
  rcases ho:decide (op=S []) with _ | _
  ·rw [ho] at hop Hf
   clear ho
   go_enter Tryz.func144,Tryz.ntmps144
   go_wp2_with fail
   rw [<- HW.out]
   refine (Hrule.out _).mono ?_
   rintro e w1 ⟨hp,t1⟩
   obtain ⟨s0,B0,n0,d0,z0,bo,rfl,hbo⟩:=Hpost.out e w1 hp
   have Hbo:=lh hbo
   clear hp hbo
   have g0:=TW.cell ((t1.alloc (.cells #[.string s0,.slice B0 n0 d0,.int .i64 z0] 202)).cell c0 (by simp))
   have g1:=TW.cell ((t1.alloc (.cells #[.string s0,.slice B0 n0 d0,.int .i64 z0] 202)).cell c1 (by simp))
   have g2:=TW.cell ((t1.alloc (.cells #[.string s0,.slice B0 n0 d0,.int .i64 z0] 202)).cell c2 (by simp))
   have g3:=TW.cell ((t1.alloc (.cells #[.string s0,.slice B0 n0 d0,.int .i64 z0] 202)).cell c3 (by simp))
   have g4:=TW.cell ((t1.alloc (.cells #[.string s0,.slice B0 n0 d0,.int .i64 z0] 202)).cell c4 (by simp))
   have g5:=TW.cell ((t1.alloc (.cells #[.string s0,.slice B0 n0 d0,.int .i64 z0] 202)).cell c5 (by simp))
   have g6:=TW.cell ((t1.alloc (.cells #[.string s0,.slice B0 n0 d0,.int .i64 z0] 202)).cell c6 (by simp))
   have T1:=tb.trans0 (t1.alloc (.cells #[.string s0,.slice B0 n0 d0,.int .i64 z0] 202))
   clear c0 c1 c2 c3 c4 c5 c6
   cases bo
   ·go_wp2
    refine wp_region_tw (w1.alloc (.cells #[.string s0,.slice B0 n0 d0,.int .i64 z0] 202)) (Touch.refl _ _) (by kernel_rfl) (by kernel_rfl) ?_
    repeat (go_big_quiet_step (((go_at_call 173;exact Calls.tw _ (Hnull.out _)))))
    refine wpQuiet_nil ?_
    rintro _ ⟨y,rfl⟩
    go_wp2
    go_ret
    exact ⟨ret_bool (by rw [Hf.out,<- Hbo.out,Bool.false_and]),T1.trans0 y.t⟩
   ·go_wp2
    refine wp_region_tw (w1.alloc (.cells #[.string s0,.slice B0 n0 d0,.int .i64 z0] 202)) (Touch.refl _ _) (by kernel_rfl) (by kernel_rfl) ?_
    repeat (go_big_quiet_step (((go_at_call 173;exact Calls.tw _ (Hnull.out _)))))
    refine wpQuiet_nil ?_
    rintro _ ⟨y,rfl⟩
    go_wp2
    go_ret
    exact ⟨ret_bool (by rw [Hf.out,<- Hbo.out,Bool.true_and,Bool.true_and]),T1.trans0 y.t⟩
  ·rw [ho] at hop Hf
   clear ho
   go_enter Tryz.func144,Tryz.ntmps144
   go_wp2_with fail
   rw [<- HW.out]
   refine (Hrule.out _).mono ?_
   rintro e w1 ⟨hp,t1⟩
   obtain ⟨s0,B0,n0,d0,z0,bo,rfl,hbo⟩:=Hpost.out e w1 hp
   have Hbo:=lh hbo
   clear hp hbo
   have g0:=TW.cell ((t1.alloc (.cells #[.string s0,.slice B0 n0 d0,.int .i64 z0] 202)).cell c0 (by simp))
   have g1:=TW.cell ((t1.alloc (.cells #[.string s0,.slice B0 n0 d0,.int .i64 z0] 202)).cell c1 (by simp))
   have g2:=TW.cell ((t1.alloc (.cells #[.string s0,.slice B0 n0 d0,.int .i64 z0] 202)).cell c2 (by simp))
   have g3:=TW.cell ((t1.alloc (.cells #[.string s0,.slice B0 n0 d0,.int .i64 z0] 202)).cell c3 (by simp))
   have g4:=TW.cell ((t1.alloc (.cells #[.string s0,.slice B0 n0 d0,.int .i64 z0] 202)).cell c4 (by simp))
   have g5:=TW.cell ((t1.alloc (.cells #[.string s0,.slice B0 n0 d0,.int .i64 z0] 202)).cell c5 (by simp))
   have g6:=TW.cell ((t1.alloc (.cells #[.string s0,.slice B0 n0 d0,.int .i64 z0] 202)).cell c6 (by simp))
   have T1:=tb.trans0 (t1.alloc (.cells #[.string s0,.slice B0 n0 d0,.int .i64 z0] 202))
   clear c0 c1 c2 c3 c4 c5 c6
   cases bo
   ·go_wp2
    refine wp_region_tw (w1.alloc (.cells #[.string s0,.slice B0 n0 d0,.int .i64 z0] 202)) (Touch.refl _ _) (by kernel_rfl) (by kernel_rfl) ?_
    repeat (go_big_quiet_step (((go_at_call 173;exact Calls.tw _ (Hnull.out _)))))
    refine wpQuiet_nil ?_
    rintro _ ⟨y,rfl⟩
    go_wp2
    go_ret
    exact ⟨ret_bool (by rw [Hf.out,<- Hbo.out,Bool.false_and]),T1.trans0 y.t⟩
   ·go_wp2
    refine wp_region_tw (w1.alloc (.cells #[.string s0,.slice B0 n0 d0,.int .i64 z0] 202)) (Touch.refl _ _) (by kernel_rfl) (by kernel_rfl) ?_
    repeat (go_big_quiet_step (((go_at_call 173;exact Calls.tw _ (Hnull.out _)))))
    refine wpQuiet_nil ?_
    rintro _ ⟨y,rfl⟩
    go_wp2
    go_ret
    exact ⟨ret_bool (by rw [Hf.out,<- Hbo.out,Bool.true_and,Bool.true_and]),T1.trans0 y.t⟩
 ·have q5:(k==5)=false:=by simpa using h5
  have q5':(k != 5)=true:=by simpa using h5
  rw [if_neg h5] at Hf
  clear h5
  rcases ho:decide (nm=S []) with _ | _
  ·rw [ho] at hnm Hf
   clear ho
   go_enter Tryz.func144,Tryz.ntmps144
   go_wp2_with fail
   rw [<- HW.out]
   refine (Hrule.out _).mono ?_
   rintro e w1 ⟨hp,t1⟩
   obtain ⟨s0,B0,n0,d0,z0,bo,rfl,hbo⟩:=Hpost.out e w1 hp
   have Hbo:=lh hbo
   clear hp hbo
   have g0:=TW.cell ((t1.alloc (.cells #[.string s0,.slice B0 n0 d0,.int .i64 z0] 202)).cell c0 (by simp))
   have g1:=TW.cell ((t1.alloc (.cells #[.string s0,.slice B0 n0 d0,.int .i64 z0] 202)).cell c1 (by simp))
   have g2:=TW.cell ((t1.alloc (.cells #[.string s0,.slice B0 n0 d0,.int .i64 z0] 202)).cell c2 (by simp))
   have g3:=TW.cell ((t1.alloc (.cells #[.string s0,.slice B0 n0 d0,.int .i64 z0] 202)).cell c3 (by simp))
   have g4:=TW.cell ((t1.alloc (.cells #[.string s0,.slice B0 n0 d0,.int .i64 z0] 202)).cell c4 (by simp))
   have g5:=TW.cell ((t1.alloc (.cells #[.string s0,.slice B0 n0 d0,.int .i64 z0] 202)).cell c5 (by simp))
   have g6:=TW.cell ((t1.alloc (.cells #[.string s0,.slice B0 n0 d0,.int .i64 z0] 202)).cell c6 (by simp))
   have T1:=tb.trans0 (t1.alloc (.cells #[.string s0,.slice B0 n0 d0,.int .i64 z0] 202))
   clear c0 c1 c2 c3 c4 c5 c6
   cases bo
   ·go_wp2
    refine wp_region_tw (w1.alloc (.cells #[.string s0,.slice B0 n0 d0,.int .i64 z0] 202)) (Touch.refl _ _) (by kernel_rfl) (by kernel_rfl) ?_
    repeat (go_big_quiet_step (((go_at_call 173;exact Calls.tw _ (Hnull.out _)))))
    refine wpQuiet_nil ?_
    rintro _ ⟨y,rfl⟩
    go_wp2
    go_ret
    exact ⟨ret_bool (by rw [Hf.out,<- Hbo.out,Bool.false_and]),T1.trans0 y.t⟩
   ·go_wp2
    refine wp_region_tw (w1.alloc (.cells #[.string s0,.slice B0 n0 d0,.int .i64 z0] 202)) (Touch.refl _ _) (by kernel_rfl) (by kernel_rfl) ?_
    repeat (go_big_quiet_step (((go_at_call 173;exact Calls.tw _ (Hnull.out _)))))
    refine wpQuiet_nil ?_
    rintro _ ⟨y,rfl⟩
    go_wp2
    go_ret
    exact ⟨ret_bool (by rw [Hf.out,<- Hbo.out,Bool.true_and,Bool.true_and]),T1.trans0 y.t⟩
  ·rw [ho] at hnm Hf
   clear ho
   go_enter Tryz.func144,Tryz.ntmps144
   go_wp2_with fail
   rw [<- HW.out]
   refine (Hrule.out _).mono ?_
   rintro e w1 ⟨hp,t1⟩
   obtain ⟨s0,B0,n0,d0,z0,bo,rfl,hbo⟩:=Hpost.out e w1 hp
   have Hbo:=lh hbo
   clear hp hbo
   have g0:=TW.cell ((t1.alloc (.cells #[.string s0,.slice B0 n0 d0,.int .i64 z0] 202)).cell c0 (by simp))
   have g1:=TW.cell ((t1.alloc (.cells #[.string s0,.slice B0 n0 d0,.int .i64 z0] 202)).cell c1 (by simp))
   have g2:=TW.cell ((t1.alloc (.cells #[.string s0,.slice B0 n0 d0,.int .i64 z0] 202)).cell c2 (by simp))
   have g3:=TW.cell ((t1.alloc (.cells #[.string s0,.slice B0 n0 d0,.int .i64 z0] 202)).cell c3 (by simp))
   have g4:=TW.cell ((t1.alloc (.cells #[.string s0,.slice B0 n0 d0,.int .i64 z0] 202)).cell c4 (by simp))
   have g5:=TW.cell ((t1.alloc (.cells #[.string s0,.slice B0 n0 d0,.int .i64 z0] 202)).cell c5 (by simp))
   have g6:=TW.cell ((t1.alloc (.cells #[.string s0,.slice B0 n0 d0,.int .i64 z0] 202)).cell c6 (by simp))
   have T1:=tb.trans0 (t1.alloc (.cells #[.string s0,.slice B0 n0 d0,.int .i64 z0] 202))
   clear c0 c1 c2 c3 c4 c5 c6
   cases bo
   ·go_wp2
    refine wp_region_tw (w1.alloc (.cells #[.string s0,.slice B0 n0 d0,.int .i64 z0] 202)) (Touch.refl _ _) (by kernel_rfl) (by kernel_rfl) ?_
    repeat (go_big_quiet_step (((go_at_call 173;exact Calls.tw _ (Hnull.out _)))))
    refine wpQuiet_nil ?_
    rintro _ ⟨y,rfl⟩
    go_wp2
    go_ret
    exact ⟨ret_bool (by rw [Hf.out,<- Hbo.out,Bool.false_and]),T1.trans0 y.t⟩
   ·go_wp2
    refine wp_region_tw (w1.alloc (.cells #[.string s0,.slice B0 n0 d0,.int .i64 z0] 202)) (Touch.refl _ _) (by kernel_rfl) (by kernel_rfl) ?_
    repeat (go_big_quiet_step (((go_at_call 173;exact Calls.tw _ (Hnull.out _)))))
    refine wpQuiet_nil ?_
    rintro _ ⟨y,rfl⟩
    go_wp2
    go_ret
    exact ⟨ret_bool (by rw [Hf.out,<- Hbo.out,Bool.true_and,Bool.true_and]),T1.trans0 y.t⟩
end
end Go.Proofs.YtafoklilkdnepaaGreatDoor
