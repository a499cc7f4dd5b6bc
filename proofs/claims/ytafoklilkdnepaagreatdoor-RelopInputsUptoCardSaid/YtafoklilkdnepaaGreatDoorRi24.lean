/- Part 24 of the texts of this proof, one behind the other. No condition beyond those that its theorems state. -/
import Derived.Test.YtafoklilkdnepaaGreatDoorRi23
set_option maxRecDepth 40000
set_option maxHeartbeats 25600000
namespace Go.Proofs.YtafoklilkdnepaaGreatDoor
section
open Go.RowKit
theorem rowsC_keep {m:Nat} (x:PC) (hk0:x.kind=3) (es:List (TX m)) (cs:List CD) (rows:List (List VD)) (w:World) (hen:x.exprs.n=es.length) (hle:es.length<=1000000) (hex:ArgsP xcE anyB m w x.exprs.A es) (hok:∀ c∈cs,c.Ok) (hl1:cs.length<=1000000) (hl2:rows.length<=1000000) (hrk:RowsOk rows)
  (hs:∀ e∈es,sizeX m e<=1000000) (hall:∀ e∈es,allX (fun q=>q.v.text.size<=140737000000000) m e):RowsC w x [(cs,rows)] (keepRV cs es rows):=by
 intro w' L lc tl t hs' hL
 obtain ⟨hs1,hs2⟩:=hs'
 match tl,hs1 with
 | [t1],_=>exact rows_keep x hk0 _ L lc t1 w' hL (fun w2 t2=>keep_any x es t1.1 t1.2 cs rows w2 hen hle (hex.touch0 (t.trans0 t2)) ((hs2 0 (by simp) (by simp)).touch0 t2) hok hl1 hl2 hrk hs hall)
theorem rowsC_group (x:PC) (hk0:x.kind=6) (names:List ByteArray) (aggs:List AG) (hnn:x.names.n=names.length) (han:x.aggs.n=aggs.length) (hln:names.length<=1000) (hla:aggs.length<=1000) (cs:List CD) (rows:List (List VD)) (w:World)
  (hN:RdK btE w x.names.A names) (hA:RdK agE w x.aggs.A aggs) (hg:GoodR w rows cs.length) (hc0:0 < cs.length) (hc1:cs.length<=16) (hr2:rows.length<=4096):RowsC w x [(cs,rows)] (grpE cs names aggs rows):=by
 intro w' L lc tl t hs' hL
 obtain ⟨hs1,hs2⟩:=hs'
 match tl,hs1 with
 | [t1],_=>exact rows_group x hk0 _ L lc t1 w' hL (fun w2 t2=>group_any x names aggs hnn han hln hla t1.1 t1.2 cs rows w2 ((hs2 0 (by simp) (by simp)).touch0 t2) (RdK.touch0 hN (t.trans0 t2)) (RdK.touch0 hA (t.trans0 t2)) (hg.touch0 (t.trans0 t2)) hc0 hc1 hr2)
end
end Go.Proofs.YtafoklilkdnepaaGreatDoor
