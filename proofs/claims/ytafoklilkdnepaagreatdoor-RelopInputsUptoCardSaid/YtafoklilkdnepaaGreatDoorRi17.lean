/- Part 17 of the texts of this proof, one behind the other. No condition beyond those that its theorems state. -/
import Derived.Test.YtafoklilkdnepaaGreatDoorRi16
set_option maxRecDepth 40000
set_option maxHeartbeats 25600000
namespace Go.Proofs.YtafoklilkdnepaaGreatDoor
section
open Go.RowKit
theorem info_intx:(Tryz.prog.info? 3).map (fun i=>(i.zero,i.size,i.bytes))=some (some (.int .i64 0),1,8):=by kernel_rfl
theorem typedX_succ (cs:List CD) (n d:Nat) (e:TX (n+1)):typedX cs (n+1) d e =
  (if 32 < d then (0,52)
  else if formV e.1 e.2.length=false then (0,20)
  else if e.1.kind=2 then (e.1.v.kind,0)
  else if e.1.kind=1 then (match colT cs e.1.name with | some t=>(t,0) | none=>(0,13))
  else match e.2.find? fun a=>decide ((typedX cs n (d+1) a).2≠0) with
   | some a=>(0,(typedX cs n (d+1) a).2)
   | none=>match ruleV e.1 with
    | none=>(0,20)
    | some r=>match fitL r.args (e.2.map fun a=>(typedX cs n (d+1) a).1) 0 with
     | (both,true)=>if r.out = -1 then (both,0) else (r.out,0)
     | (_,false)=>(0,12):Int × Int):=rfl
theorem find_hit {α:Type} {p:α->Bool} {l:List α} {k:Nat} (h:k < l.length) (hk:p l[k]=true) (hno:∀ a∈l.take k,p a=false):l.find? p=some l[k]:=by
 rw [List.find?_eq_some_iff_getElem]
 refine ⟨hk,k,h,rfl,fun j hj => ?_⟩
 have:=hno l[j] (List.mem_take_iff_getElem.2 ⟨j,by omega,rfl⟩)
 simp [this]
theorem find_miss {α:Type} {p:α->Bool} {l:List α} (hno:∀ a∈l,p a=false):l.find? p=none:=by
 rw [List.find?_eq_none]
 intro a ha
 rw [hno a ha];simp
def TypedSaid (n:Nat):Prop:=∀ (e:TX n) (x:XC) (A:Option Addr) (cap m:Nat) (cs:List CD) (_:cs.length=m) (d:Nat) (w:World),ExP xcE anyB n w x e->ColsAt w A cs->m<=140737000000000->sizeX n e<=1000000->allX (fun q=>q.v.text.size<=140737000000000) n e->d<=1000000000 ->
  Calls Tryz.prog 103 #[x.val,.slice A m cap,.int .i64 d] w fun r w'=>r=.returned (.tuple #[.int .i64 (typedX cs n d e).1,.int .i64 (typedX cs n d e).2])/\Touch [] w w'
theorem typed_any (n:Nat):TypedSaid n:=by
 induction n with
 | zero=>intro e;exact e.elim
 | succ n ih =>
  intro e x A cap m cs hm d w hx hcs hmb hs hall hd
  subst hm
  have Hst:=lh (typedX_succ cs n d e)
  obtain ⟨nd,args⟩:=e
  obtain ⟨h1,h2,h3⟩:=hx.args
  obtain ⟨ha1,ha2⟩:=hall
  have hsum:sumX n args<=1000000:=by have hs':1+sumX n args<=1000000:=hs;omega
  have hlen:=len_le_sum n args
  dsimp only at h1 h2 h3 ha1 ha2
  subst h1
  have Hform:=lh fun w'=>form_any x ha1 w'
  have Hrule:=lh fun w'=>rule_any x w'
  have Hfind:=lh fun w' (t:Touch [] w w')=>findC_any A cap cs.length cs rfl x.nd.name w' (hcs.touch0 t) hmb
  obtain ⟨⟨k,nm,⟨vk,vn,vt⟩,op⟩,XA,m,c⟩:=x
  dsimp only at h2 h3 ha1
  subst h2
  simp only [XC.val] at Hform Hrule ⊢
  simp only at Hst Hfind
  have t0:=(Touch.refl [] w).alloc (.cells #[.int .i64 k,.string nm,.int .i64 vk,.int .i64 vn,.string vt,.string op,.slice XA args.length c] 44)
  have hb:=heap_alloc_new w (.cells #[.int .i64 k,.string nm,.int .i64 vk,.int .i64 vn,.string vt,.string op,.slice XA args.length c] 44)
  have Hb:=lh hb
  obtain ⟨res,hres⟩:∃ res,res=typedX cs (n+1) d ((⟨k,nm,⟨vk,vn,vt⟩,op⟩,args):TX (n+1)):=⟨_,rfl⟩
  rw [<- hres] at Hst ⊢
  clear hb hx hs hres
  by_cases hd32:32 < d
  ·have Hf:=lh (show res=(0,52) by rw [Hst.out,if_pos hd32])
   have hdI:(32:Int) < (d:Int):=by omega
   go_enter Tryz.func103,Tryz.ntmps103
   go_wp2_with fail
   go_ret2
   exact ⟨by rw [Hf.out];rfl,t0⟩
  have hdI:¬ (32:Int) < (d:Int):=by omega
  rcases hfo:formV ⟨k,nm,⟨vk,vn,vt⟩,op⟩ args.length with _ | _
  ·have Hf:=lh (show res=(0,20) by rw [Hst.out,if_neg hd32,if_pos hfo])
   rw [hfo] at Hform
   clear hfo
   go_enter Tryz.func103,Tryz.ntmps103
   go_wp2_with fail
   refine (Hform.out _).mono ?_
   rintro e w1 ⟨rfl,t1⟩
   go_wp2_with fail
   go_ret2
   exact ⟨by rw [Hf.out];rfl,t0.trans0 t1⟩
  rw [hfo] at Hform
  by_cases hk2:k=2
  ·have Hf:=lh (show res=(vk,0) by rw [Hst.out,if_neg hd32,if_neg (by rw [hfo];simp),if_pos hk2])
   subst hk2
   clear hfo
   go_enter Tryz.func103,Tryz.ntmps103
   go_wp2_with fail
   refine (Hform.out _).mono ?_
   rintro e w1 ⟨rfl,t1⟩
   have hb1:=t1.blk Hb.out (by simp)
   obtain ⟨c0,c1,c2,c3,c4,c5,c6,_⟩:=blk7 hb1
   go_wp2_with fail
   go_ret2
   exact ⟨by rw [Hf.out];rfl,t0.trans0 t1⟩
  have q2:(k==2)=false:=by simpa using hk2
  by_cases hk1:k=1
  ·rcases hp:placeV cs nm with _ | q
   ·have Hf:=lh (show res=(0,13) by rw [Hst.out,if_neg hd32,if_neg (by rw [hfo];simp),if_neg hk2,if_pos hk1];unfold colT;rw [hp])
    rw [hp] at Hfind
    subst hk1
    clear hfo hp hk2
    go_enter Tryz.func103,Tryz.ntmps103
    go_wp2_with fail
    refine (Hform.out _).mono ?_
    rintro e w1 ⟨rfl,t1⟩
    have hb1:=t1.blk Hb.out (by simp)
    obtain ⟨c0,c1,c2,c3,c4,c5,c6,_⟩:=blk7 hb1
    go_wp2_with fail
    refine (Hfind.out _ (t0.trans0 t1)).mono ?_
    rintro e w2 ⟨rfl,t2⟩
    go_wp2_with fail
    go_ret2
    exact ⟨by rw [Hf.out];rfl,(t0.trans0 t1).trans0 t2⟩
   ·have hql:=placeV_lt hp
    have Hf:=lh (show res=(cs[q].typ,0) by rw [Hst.out,if_neg hd32,if_neg (by rw [hfo];simp),if_neg hk2,if_pos hk1];unfold colT;rw [hp];simp only;rw [List.getElem?_eq_getElem hql];rfl)
    rw [hp] at Hfind
    simp only [Option.getD_some,Option.isSome_some] at Hfind
    subst hk1
    clear hfo hp hk2
    go_enter Tryz.func103,Tryz.ntmps103
    go_wp2_with fail
    refine (Hform.out _).mono ?_
    rintro e w1 ⟨rfl,t1⟩
    have hb1:=t1.blk Hb.out (by simp)
    obtain ⟨c0,c1,c2,c3,c4,c5,c6,_⟩:=blk7 hb1
    go_wp2_with fail
    refine (Hfind.out _ (t0.trans0 t1)).mono ?_
    rintro e w2 ⟨rfl,t2⟩
    obtain ⟨ad,b,off,rfl,hadd,f0,f1⟩:=(hcs.touch0 ((t0.trans0 t1).trans0 t2)).at_ q hql
    have hqI:(q:Int) < (cs.length:Int):=by omega
    have hqI0:(0:Int)<=(q:Int):=by omega
    go_wp2_with fail
    go_ret2
    exact ⟨by rw [Hf.out];rfl,(t0.trans0 t1).trans0 t2⟩
  have q1:(k==1)=false:=by simpa using hk1
  have hst2:=Hst.out
  rw [if_neg hd32,if_neg (by rw [hfo];simp),if_neg hk2,if_neg hk1] at hst2
  -- the rule is there
  have hfr:∃ r,ruleV ⟨k,nm,⟨vk,vn,vt⟩,op⟩=some r/\args.length=r.args.length:=by
   unfold formV at hfo
   rw [if_neg hk1,if_neg hk2,Bool.and_eq_true] at hfo
   rcases hr:ruleV ⟨k,nm,⟨vk,vn,vt⟩,op⟩ with _ | r
   ·rw [hr] at hfo;cases hfo.1
   ·rw [hr] at hfo;exact ⟨r,rfl,of_decide_eq_true hfo.1⟩
  obtain ⟨r,hr,hrl⟩:=hfr
  rw [hr] at hst2
  have Hst2:=lh hst2
  have Hrl:=lh hrl
  have hrp:∀ e w1,RulePost ⟨k,nm,⟨vk,vn,vt⟩,op⟩ args.length e w1->∃ B c,e=.returned (.tuple #[.agg #[.string r.name,.slice B args.length c,.int .i64 r.out],.bool true])/\IntsAt w1 B r.args:=fun e w1 h=>by
   unfold RulePost at h
   rw [hr] at h
   obtain ⟨B,c,he,hi⟩:=h
   exact ⟨B,c,by rw [he,decide_eq_true hrl,hrl],hi⟩
  have Hrp:=lh hrp
  have Ih:=lh ih;have Ha2:=lh ha2
  clear hst2 hrp hr hrl hfo hk1 hk2 Hst ih ha2 ha1
  go_enter Tryz.func103,Tryz.ntmps103
  go_wp2_with fail
  refine (Hform.out _).mono ?_
  rintro e w1 ⟨rfl,t1⟩
  have hb1:=t1.blk Hb.out (by simp)
  obtain ⟨c0,c1,c2,c3,c4,c5,c6,_⟩:=blk7 hb1
  have T1:=t0.trans0 t1
  go_wp2_with fail
  clear c0 c1 c2 c3 c4 c5 c6
  have Hb1:=lh hb1
  clear hb1
  go_loopw [10,54] (fun v i wr=>∃ (j:Nat) (B:Option Addr) (cB:Nat),j<=args.length/\i=.int .i64 j/\v=.slice B j cB/\Made 3 1 inE ((args.take j).map fun a=>(typedX cs n (d+1) a).1) B cB w1 wr/\Hid (∀ a∈args.take j,decide ((typedX cs n (d+1) a).2≠0)=false)) (fun _ i _=>args.length-(intOf i).toNat)
  case atStart=>exact ⟨0,none,0,by omega,rfl,rfl,Made.nil _ _ _ _,lh (by simp)⟩
  case round =>
   obtain ⟨j,B,cB,hj,rfl,rfl,hmd,Hno⟩:=hrel
   have T2:=T1.trans0 hmd.t
   by_cases hlt:j < args.length
   ·obtain ⟨ad,b,off,y,rfl,hadd,hy,hcell⟩:=(h3.touch0 T2).at_ xcE_length j hlt
    have hsn:=List.take_succ_eq_append_getElem hlt
    have hms:=size_mem (List.getElem_mem hlt)
    have hay:=Ha2.out _ (List.getElem_mem hlt)
    have hhit:=find_hit (p:=fun a=>decide ((typedX cs n (d+1) a).2≠0)) hlt
    obtain ⟨a,hae⟩:∃ a,a=args[j]:=⟨_,rfl⟩
    rw [<- hae] at hy hsn hms hay hhit
    have ta:=(Touch.refl [] wr).alloc (.cells #[.int .i64 y.nd.kind,.string y.nd.name,.int .i64 y.nd.v.kind,.int .i64 y.nd.v.num,.string y.nd.v.text,.string y.nd.op,.slice y.A y.n y.c] 44)
    have Hc:=lh (Ih.out a y A cap cs.length cs rfl (d+1) _ (hy.touch0 ta) (hcs.touch0 (T2.trans0 ta)) hmb (by omega) hay (by omega))
    have Htl:=lh (show ((args.take j).map fun a=>(typedX cs n (d+1) a).1).length=j by rw [List.length_map,List.length_take];omega)
    have c0:=hcell 0 _ rfl;have c1:=hcell 1 _ rfl;have c2:=hcell 2 _ rfl;have c3:=hcell 3 _ rfl;have c4:=hcell 4 _ rfl;have c5:=hcell 5 _ rfl;have c6:=hcell 6 _ rfl
    rw [Nat.add_zero] at c0
    have Hsn:=lh hsn;have Hhit:=lh hhit
    clear hsn hae hcell hms hay hhit
    obtain ⟨⟨k2,nm2,⟨vk2,vn2,vt2⟩,op2⟩,A2,m2,c2'⟩:=y
    simp only [XC.val] at Hc
    simp only at c0 c1 c2 c3 c4 c5 c6 ta
    obtain ⟨ty,hty⟩:∃ ty,ty=(typedX cs n (d+1) a).1:=⟨_,rfl⟩
    obtain ⟨er,her⟩:∃ er,er=(typedX cs n (d+1) a).2:=⟨_,rfl⟩
    rw [<- hty,<- her] at Hc
    have Hty:=lh hty;have Her:=lh her
    clear hty her
    by_cases he0:er=0
    ·have Hno2:=lh (show ∀ a∈args.take (j+1),decide ((typedX cs n (d+1) a).2≠0)=false from fun a' ha'=>by
      rw [Hsn.out] at ha'
      rcases List.mem_append.1 ha' with q | q
      ·exact Hno.out a' q
      ·rw [List.mem_singleton] at q;rw [q,<- Her.out,he0];rfl)
     subst he0
     go_wp2_with fail
     refine Hc.out.mono ?_
     rintro e w2 ⟨rfl,t2⟩
     have tb:=(Touch.refl [] w2).alloc (.cells #[.int .i64 ty] 3)
     have hmd2:=((hmd.touch0 ta).touch0 t2).touch0 tb
     go_wp2_with (at_builtin;refine stop ?_)
     refine go ?_
     refine wpList_appK rfl (.tmp 69) (.tmp 71) 97 rfl 3 _ 1 8 info_intx Tryz.underlying97 rfl (by omega) inE_length inE_one B j cB _ Htl.out rfl hmd2.own
      (some ⟨w2.heap.size,0,none⟩) 1 1 [ty] rfl rfl (RdK.one (enc:=inE) w2 3 ty #[.int .i64 ty] rfl) (by omega) (by omega) ?_
     intro B5 cB5 w5 hown5 ht5 hf5
     go_wp2
     go_roundw
     case rel=>exact ⟨j+1,B5,cB5,by omega,by go_num,rfl,by rw [Hsn.out,List.map_append];simp only [List.map_cons,List.map_nil];rw [<- Hty.out];exact hmd2.step hown5 ht5 hf5,Hno2⟩
     case measure=>simp [intOf];omega
    ·have Hf:=lh (show res=(0,er) by rw [Hst2.out,Hhit.out (by rw [<- Her.out];simpa using he0) Hno.out];simp only;rw [<- Her.out])
     have e0:(er != 0)=true:=by simpa using he0
     clear he0
     go_wp2_with fail
     refine Hc.out.mono ?_
     rintro e w2 ⟨rfl,t2⟩
     go_wp2_with fail
     go_ret2
     exact ⟨by rw [Hf.out];rfl,(T2.trans0 ta).trans0 t2⟩
   ·obtain rfl:j=args.length:=by omega
    rw [List.take_length] at hmd Hno
    have hst3:=Hst2.out
    rw [find_miss Hno.out] at hst3
    simp only at hst3
    obtain ⟨bo,hbo⟩:∃ bo,bo=fitL r.args (args.map fun a=>(typedX cs n (d+1) a).1) 0:=⟨_,rfl⟩
    rw [<- hbo] at hst3
    have Hst3:=lh hst3
    have Hfit:=lh fun (B0:Option Addr) (c0 c0':Nat) w' hi hj=>fitX_any B0 B c0 c0' args.length r.args (args.map fun a=>(typedX cs n (d+1) a).1) Hrl.out.symm (by rw [List.length_map]) w' hi hj (by omega)
    rw [<- hbo] at Hfit
    clear hst3 hbo
    have hb2:=hmd.t.blk Hb1.out (by simp)
    obtain ⟨c0,c1,c2,c3,c4,c5,c6,_⟩:=blk7 hb2
    go_wp2_with fail
    refine (Hrule.out _).mono ?_
    rintro e w2 ⟨hp,t2⟩
    obtain ⟨B0,d0,rfl,hi⟩:=Hrp.out e w2 hp
    clear c0 c1 c2 c3 c4 c5 c6
    have tb:=(Touch.refl [] w2).alloc (.cells #[.string r.name,.slice B0 args.length d0,.int .i64 r.out] 202)
    have hbr:=heap_alloc_new w2 (.cells #[.string r.name,.slice B0 args.length d0,.int .i64 r.out] 202)
    obtain ⟨z0,z1,z2,_⟩:=blk3x hbr
    obtain ⟨both,ok⟩:=bo
    simp only at Hst3 Hfit
    have T3:=(T2.trans0 t2).trans0 tb
    cases ok
    ·go_wp2_with fail
     refine (Hfit.out B0 d0 cB _ (hi.touch0 tb) ((hmd.touch0 t2).touch0 tb).own.rd).mono ?_
     rintro e w' ⟨rfl,rfl⟩
     go_wp2_with fail
     go_ret2
     exact ⟨by rw [Hst3.out];rfl,T3⟩
    ·by_cases ho:r.out = -1
     ·have Hf:=lh (show res=(both,0) by rw [Hst3.out];simp only;rw [if_pos ho])
      have q3:(r.out == -1)=true:=by simpa using ho
      clear ho
      go_wp2_with fail
      refine (Hfit.out B0 d0 cB _ (hi.touch0 tb) ((hmd.touch0 t2).touch0 tb).own.rd).mono ?_
      rintro e w' ⟨rfl,rfl⟩
      go_wp2_with fail
      go_ret2
      exact ⟨by rw [Hf.out];rfl,T3⟩
     ·have Hf:=lh (show res=(r.out,0) by rw [Hst3.out];simp only;rw [if_neg ho])
      have q3:(r.out == -1)=false:=by simpa using ho
      clear ho
      go_wp2_with fail
      refine (Hfit.out B0 d0 cB _ (hi.touch0 tb) ((hmd.touch0 t2).touch0 tb).own.rd).mono ?_
      rintro e w' ⟨rfl,rfl⟩
      go_wp2_with fail
      go_ret2
      exact ⟨by rw [Hf.out];rfl,T3⟩
end
section
open Go.RowKit
def wAnd:ByteArray:=S [97,110,100]
def wOr:ByteArray:=S [111,114]
def wEither:ByteArray:=S [101,105,116,104,101,114]
def wIf:ByteArray:=S [105,102]
def wCat:ByteArray:=S [99,97,116]
def cmpI (s:ByteArray):Int:=Lib.idxOfS [S [],S [61],S [33,61],S [60],S [60,61],S [62],S [62,61]] s
def lazyV (d:ND) (f:VD):Option (VD ⊕ Nat) :=
 if d.op=wAnd then (if f.tru=true then some (.inr 1) else some (.inl (ofV 0)))
 else if d.op=wOr then (if f.tru=true then some (.inl (ofV 1)) else some (.inr 1))
 else if d.name=wEither then (if f.kind=0 then some (.inr 1) else some (.inl f))
 else if d.name=wIf then some (.inr (if f.tru=true then 1 else 2))
 else none
def bitIf (k:Int) (r:VD × Int):VD × Int:=if r.2=0/\k=4 then (bitV r.1.tru,0) else r
def lazyX {α:Type} (ev:α->VD × Int) (d:ND) (args:List α) (f:VD):Option (VD × Int) :=
 match lazyV d f with
 | none=>none
 | some (.inl v)=>some (v,0)
 | some (.inr q)=>match args[q]? with
  | none=>some (zeroV,0)
  | some a=>some (bitIf d.kind (ev a))
def bothV (d:ND) (f s:VD):VD × Int :=
 if d.name=wCat then catV f s else if 0 < cmpI d.op then (compareV (cmpI d.op) f s,0) else arithV ((d.op.data.toList.headD 0).toNat:Int) f s
def evalX (cs:List CD) (row:List VD):(n:Nat)->TX n->VD × Int
 | 0,_=>(zeroV,0)
 | n+1,e =>
  if e.1.kind=1 then (row.getD ((placeV cs e.1.name).getD 0) zeroV,0)
  else if e.1.kind=2 then (e.1.v,0)
  else match e.2 with
   | []=>(zeroV,0)
   | a :: r =>
    if (evalX cs row n a).2≠0 then (zeroV,(evalX cs row n a).2)
    else match lazyX (evalX cs row n) e.1 (a :: r) (evalX cs row n a).1 with
     | some z=>z
     | none=>match r with
      | []=>aloneV e.1 (evalX cs row n a).1
      | b :: _=>if (evalX cs row n b).2≠0 then (zeroV,(evalX cs row n b).2) else bothV e.1 (evalX cs row n a).1 (evalX cs row n b).1
theorem evalX_succ (cs:List CD) (row:List VD) (n:Nat) (e:TX (n+1)):evalX cs row (n+1) e =
  if e.1.kind=1 then (row.getD ((placeV cs e.1.name).getD 0) zeroV,0)
  else if e.1.kind=2 then (e.1.v,0)
  else match e.2 with
   | []=>(zeroV,0)
   | a :: r =>
    if (evalX cs row n a).2≠0 then (zeroV,(evalX cs row n a).2)
    else match lazyX (evalX cs row n) e.1 (a :: r) (evalX cs row n a).1 with
     | some z=>z
     | none=>match r with
      | []=>aloneV e.1 (evalX cs row n a).1
      | b :: _=>if (evalX cs row n b).2≠0 then (zeroV,(evalX cs row n b).2) else bothV e.1 (evalX cs row n a).1 (evalX cs row n b).1:=rfl
def okX (cs:List CD):(n:Nat)->TX n->Prop
 | 0,_=>True
 | n+1,e=>formV e.1 e.2.length=true/\(e.1.kind=1->(placeV cs e.1.name).isSome=true)/\∀ a∈e.2,okX cs n a
theorem okX_of (cs:List CD):∀ (n d:Nat) (e:TX n),(typedX cs n d e).2=0->okX cs n e
 | 0,_,e=>e.elim
 | n+1,d,e=>fun h=>by
  rw [typedX_succ] at h
  by_cases h1:32 < d
  ·rw [if_pos h1] at h;cases h
  rw [if_neg h1] at h
  by_cases h2:formV e.1 e.2.length=false
  ·rw [if_pos h2] at h;cases h
  rw [if_neg h2] at h
  have h2':formV e.1 e.2.length=true:=by simpa using h2
  by_cases h3:e.1.kind=2
  ·refine ⟨h2',fun h4=>by omega,fun a ha => ?_⟩
   unfold formV at h2'
   rw [if_neg (by omega),if_pos h3,Bool.and_eq_true,Bool.and_eq_true,Bool.and_eq_true] at h2'
   have:=of_decide_eq_true h2'.2.2.1
   rw [List.eq_nil_of_length_eq_zero this] at ha
   cases ha
  rw [if_neg h3] at h
  by_cases h4:e.1.kind=1
  ·rw [if_pos h4] at h
   refine ⟨h2',fun _ => ?_,fun a ha => ?_⟩
   ·rcases hp:placeV cs e.1.name with _ | q
    ·unfold colT at h;rw [hp] at h;cases h
    ·rfl
   ·unfold formV at h2'
    rw [if_pos h4,Bool.and_eq_true,Bool.and_eq_true] at h2'
    have:=of_decide_eq_true h2'.2.1
    rw [List.eq_nil_of_length_eq_zero this] at ha
    cases ha
  rw [if_neg h4] at h
  refine ⟨h2',fun h=>absurd h h4,fun a ha => ?_⟩
  rcases hf:e.2.find? (fun a=>decide ((typedX cs n (d+1) a).2≠0)) with _ | b
  ·have:=List.find?_eq_none.1 hf a ha
   exact okX_of cs n (d+1) a (by simpa using this)
  ·rw [hf] at h
   have:=List.find?_some hf
   simp only [decide_eq_true_eq] at this
   exact absurd h this
theorem shape {d:ND} {n:Nat} (h:formV d n=true) (h1:d.kind≠1) (h2:d.kind≠2) :
  (d.kind=3/\n=1/\d.name=S []/\(d.op=S [45]\/d.op=wNot)) \/
  (d.kind=4/\n=2/\d.name=S []/\(d.op=S [43]\/d.op=S [45]\/d.op=S [42]\/d.op=S [47]\/d.op=S [37]\/d.op=S [61]\/d.op=S [33,61]\/d.op=S [60]\/d.op=S [60,61]\/d.op=S [62]\/d.op=S [62,61]\/d.op=wAnd\/d.op=wOr)) \/
  (d.kind=5/\d.op=S []/\((n=1/\(d.name=wLen\/d.name=wAbs\/d.name=wIsnull))\/(n=2/\(d.name=wCat\/d.name=wEither))\/(n=3/\d.name=wIf))):=by
 unfold formV at h
 rw [if_neg h1,if_neg h2,Bool.and_eq_true,Bool.and_eq_true] at h
 obtain ⟨ha,_,hc⟩:=h
 have hr:∃ r∈rulesV d.kind,r.name=keyN d/\n=r.args.length:=by
  unfold ruleV at ha
  rcases hi:ruleI d with _ | k
  ·rw [hi] at ha;cases ha
  ·rw [hi] at ha
   unfold ruleI at hi
   rw [List.findIdx?_eq_some_iff_getElem] at hi
   obtain ⟨hk,hp,_⟩:=hi
   simp only at ha
   rw [List.getElem?_eq_getElem hk] at ha
   exact ⟨_,List.getElem_mem hk,of_decide_eq_true hp,of_decide_eq_true ha⟩
 obtain ⟨r,hm,hn,hl⟩:=hr
 unfold rulesV at hm
 unfold keyN at hn
 by_cases k3:d.kind=3
 ·left
  rw [if_neg (by omega)] at hc hn
  have hc':=of_decide_eq_true hc
  rw [if_pos k3] at hm
  simp only [List.mem_cons,List.not_mem_nil,or_false] at hm
  rcases hm with rfl | rfl
  ·exact ⟨k3,hl,hc',.inl hn.symm⟩
  ·exact ⟨k3,hl,hc',.inr hn.symm⟩
 rw [if_neg k3] at hm
 by_cases k4:d.kind=4
 ·right;left
  rw [if_neg (by omega)] at hc hn
  have hc':=of_decide_eq_true hc
  rw [if_pos k4] at hm
  simp only [List.mem_cons,List.not_mem_nil,or_false] at hm
  refine ⟨k4, ?_,hc', ?_⟩
  ·rcases hm with rfl | rfl | rfl | rfl | rfl | rfl | rfl | rfl | rfl | rfl | rfl | rfl | rfl <;> exact hl
  ·rcases hm with rfl | rfl | rfl | rfl | rfl | rfl | rfl | rfl | rfl | rfl | rfl | rfl | rfl <;> simp only at hn <;> rw [<- hn] <;> simp [wAnd,wOr]
 rw [if_neg k4] at hm
 by_cases k5:d.kind=5
 ·right;right
  rw [if_pos k5] at hc hn
  have hc':=of_decide_eq_true hc
  rw [if_pos k5] at hm
  simp only [List.mem_cons,List.not_mem_nil,or_false] at hm
  refine ⟨k5,hc', ?_⟩
  rcases hm with rfl | rfl | rfl | rfl | rfl | rfl
  ·exact .inl ⟨hl,.inl hn.symm⟩
  ·exact .inl ⟨hl,.inr (.inl hn.symm)⟩
  ·exact .inl ⟨hl,.inr (.inr hn.symm)⟩
  ·exact .inr (.inl ⟨hl,.inl hn.symm⟩)
  ·exact .inr (.inl ⟨hl,.inr hn.symm⟩)
  ·exact .inr (.inr ⟨hl,hn.symm⟩)
 ·rw [if_neg k5] at hm;cases hm
theorem arith_text (o:Int) (a b:VD) (M:Nat):(arithV o a b).1.text.size<=M:=by
 have h0:(S []).size=0:=rfl
 unfold arithV
 (repeat' split) <;> simp [zeroV,ofV,h0]
theorem bit_text (b:Bool) (M:Nat):(bitV b).text.size<=M:=by
 have h0:(S []).size=0:=rfl
 cases b <;> simp [bitV,ofV,h0]
theorem alone_text (d:ND) (v:VD) (M:Nat) (h:v.text.size<=M):(aloneV d v).1.text.size<=M:=by
 unfold aloneV
 split
 ·exact bit_text _ _
 ·split
  ·exact bit_text _ _
  ·split
   ·exact h
   ·split
    ·exact Nat.zero_le _
    ·split
     ·exact h
     ·exact arith_text _ _ _ _
theorem both_text (d:ND) (f s:VD) (M:Nat) (hM:64<=M):(bothV d f s).1.text.size<=M:=by
 have h0:(S []).size=0:=rfl
 unfold bothV
 split
 ·unfold catV
  split
  ·exact Nat.zero_le _
  ·split
   ·exact Nat.zero_le _
   ·show (f.text++s.text).size<=M
    rw [ByteArray.size_append];omega
 ·split
  ·unfold compareV
   split
   ·exact Nat.zero_le _
   ·exact bit_text _ _
  ·exact arith_text _ _ _ _
theorem eval_text (cs:List CD) (row:List VD) (M:Nat) (hM:64<=M) (hr:∀ v∈row,v.text.size<=M):∀ (n:Nat) (e:TX n),allX (fun q=>q.v.text.size<=M) n e->(evalX cs row n e).1.text.size<=M
 | 0,e=>e.elim
 | n+1,e=>fun ha=>by
  obtain ⟨h1,h2⟩:=ha
  rw [evalX_succ]
  generalize e.1=d at h1 h2 ⊢
  generalize e.2=args at h1 h2 ⊢
  split
  ·simp only
   rw [List.getD_eq_getElem?_getD]
   rcases hg:row[(placeV cs d.name).getD 0]? with _ | v
   ·exact Nat.zero_le _
   ·exact hr v (List.mem_of_getElem? hg)
  ·split
   ·exact h1
   ·cases args with
    | nil=>exact Nat.zero_le _
    | cons a r =>
     have e1:=eval_text cs row M hM hr n a (h2 a List.mem_cons_self)
     simp only
     split
     ·exact Nat.zero_le _
     ·rcases hl:lazyX (evalX cs row n) d (a :: r) (evalX cs row n a).1 with _ | z
      ·simp only
       cases r with
       | nil=>exact alone_text _ _ _ e1
       | cons b r =>
        simp only
        split
        ·exact Nat.zero_le _
        ·exact both_text _ _ _ _ hM
      ·simp only
       unfold lazyX at hl
       rcases hv:lazyV d (evalX cs row n a).1 with _ | v
       ·rw [hv] at hl;cases hl
       ·rw [hv] at hl
        cases v with
        | inl v =>
         cases hl
         unfold lazyV at hv
         (repeat' split at hv) <;> simp at hv <;> subst hv <;> first | exact e1 | exact Nat.zero_le _
        | inr q =>
         simp only at hl
         rcases hq:(a :: r)[q]? with _ | x
         ·rw [hq] at hl;cases hl;exact Nat.zero_le _
         ·rw [hq] at hl
          cases hl
          have:=eval_text cs row M hM hr n x (h2 x (List.mem_of_getElem? hq))
          unfold bitIf
          split
          ·exact bit_text _ _
          ·exact this
end
end Go.Proofs.YtafoklilkdnepaaGreatDoor
