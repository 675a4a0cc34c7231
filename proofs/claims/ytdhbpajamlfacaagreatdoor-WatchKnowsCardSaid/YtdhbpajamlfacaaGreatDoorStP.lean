/- Layer 20 (store): a change's text. -/
import Derived.Test.YtdhbpajamlfacaaGreatDoorDerR
import Derived.Test.YtdhbpajamlfacaaGreatDoorOrdSO
import Derived.Lib.ConvBytes
import Derived.Test.YtdhbpajamlfacaaGreatDoorWalK
import Derived.Lib.Strings
set_option maxRecDepth 100000
namespace Go.Proofs.YtdhbpajamlfacaaGreatDoor
open Go.RowKit
theorem lT (W:World) (e:TypeId) (s:ByteArray):Below W.heap.size W (Lib.bytesWorld W e s):=
 ⟨rfl,rfl,rfl,by rw[Lib.bytesWorld_size];omega,fun k hk=>Lib.bytesWorld_at_old W e s k hk⟩
theorem sG (W:World) (e:TypeId) (s:ByteArray):RB (Lib.bytesWorld W e s) (some ⟨W.heap.size,0,none⟩) s.size s.data.toList:=
 ⟨by simp,fun _=>⟨_,0,rfl,fun k hk=>by rw[Nat.zero_add];exact Lib.bytesWorld_cell W e s k hk⟩⟩
/-- The elements of a change. -/
def RQ (what kind rev:Nat) (space name data:List UInt8):List (List UInt8):=[aT 10 (dG what),aT 10 (dG kind),aT 4 space,aT 4 name,aT 2 (dG rev),aT 4 data]
/-- A change's text. -/
def Df (what kind rev:Nat) (space name data:List UInt8):List UInt8:=aT 48 (RQ what kind rev space name data).flatten
theorem iG {n:Nat} (h:n<4611686018427387904):(dG n).length≤9:=by unfold dG;rw[List.length_reverse];exact qH 8 (by omega)
theorem aW (tag:Nat) {b:List UInt8} {m:Nat} (h:b.length≤m) (hm:m≤65530):(aT tag b).length≤m+4:=by
 have:=lK tag b (by omega)
 omega
theorem vH {what kind rev:Nat} {space name data:List UInt8} (h1:what<4611686018427387904) (h2:kind<4611686018427387904) (h3:rev<4611686018427387904) (h4:space.length≤200) (h5:name.length≤200) (h6:data.length≤10000):
  (RQ what kind rev space name data).flatten.length≤10500:=by
 have a1:=aW 10 (iG h1) (by omega)
 have a2:=aW 10 (iG h2) (by omega)
 have a3:=aW 2 (iG h3) (by omega)
 have a4:=aW 4 h4 (by omega)
 have a5:=aW 4 h5 (by omega)
 have a6:=aW 4 h6 (by omega)
 simp only[RQ,List.flatten_cons,List.flatten_nil,List.length_append,List.length_nil]
 omega
/-- A change as a value. -/
def YF (rev:Nat) (del:Bool) (v:SO.OV):Value:=.agg #[.int .i64 (rev:Int),.bool del,.int .i64 v.kind,.string v.space,.string v.name,.int .i64 v.ver,.slice v.A v.n v.c]
set_option maxHeartbeats 4000000 in
theorem yM (rev kind:Nat) (v:SO.OV) (data:List UInt8) (w:World) (hk:v.kind=(kind:Int)) (hkl:kind<1000000) (hr:rev<4611686018427387904) (hs:v.space.size≤200) (hn:v.name.size≤200)
  (hb:RB w v.A v.n data) (hd:v.n≤10000) (hnc:v.n≤v.c) (hc:v.c≤maxLen):
  Calls Tryz.prog 99 #[YF rev false v] w fun e w'=>∃A c,e=.returned (.tuple #[.slice A (Df 1 kind rev v.space.data.toList v.name.data.toList data).length c,.nilIface])∧OB w' w.heap.size (.slice A (Df 1 kind rev v.space.data.toList v.name.data.toList data).length c) (Df 1 kind rev v.space.data.toList v.name.data.toList data)∧Below w.heap.size w w':=by
 obtain⟨kd,sp,nm,ve,A,n,c⟩:=v
 simp only at hk hs hn hb hd hnc hc
 subst hk
 unfold YF
 simp only
 obtain⟨wb,hwb⟩:∃W,W=w.alloc (.cells #[.int .i64 (rev:Int),.bool false,.int .i64 (kind:Int),.string sp,.string nm,.int .i64 ve,.slice A n c] 99):=⟨_,rfl⟩
 have hbb:=(Below.refl w.heap.size w).alloc Kv (.cells #[.int .i64 (rev:Int),.bool false,.int .i64 (kind:Int),.string sp,.string nm,.int .i64 ve,.slice A n c] 99)
 have hrow:=heap_alloc_new w (.cells #[.int .i64 (rev:Int),.bool false,.int .i64 (kind:Int),.string sp,.string nm,.int .i64 ve,.slice A n c] 99)
 rw[←hwb] at hbb hrow
 have BB:=Hj hbb
 have HK:Hid (∀W,Below wb.heap.size wb W→W.cell? ⟨w.heap.size,0,none⟩=some (.int .i64 (rev:Int))∧W.cell? ⟨w.heap.size,1,none⟩=some (.bool false)∧W.cell? ⟨w.heap.size,2,none⟩=some (.int .i64 (kind:Int))∧W.cell? ⟨w.heap.size,3,none⟩=some (.string sp)∧W.cell? ⟨w.heap.size,4,none⟩=some (.string nm)∧W.cell? ⟨w.heap.size,6,none⟩=some (.slice A n c)):=
  Hj fun W hW=>⟨Kz hW _ _ (Kq 0 hrow),Kz hW _ _ (Kq 1 hrow),Kz hW _ _ (Kq 2 hrow),Kz hW _ _ (Kq 3 hrow),Kz hW _ _ (Kq 4 hrow),Kz hW _ _ (Kq 6 hrow)⟩
 obtain⟨w2,hw2⟩:∃W,W=wb.alloc (.cells #[.slice none 0 0,.slice none 0 0,.nilIface] 229):=⟨_,rfl⟩
 have h0:Wr0 wb w2 (w.heap.size+1):=by
  have e:w.heap.size+1=wb.heap.size:=by rw[hwb];simp
  rw[e,hw2]
  exact⟨(Below.refl _ _).alloc Kv _,Nat.le_refl _,heap_alloc_new _ _⟩
 have XY:=Hj (Du h0)
 have HB:Hid (RB wb A n data):=Hj (hb.keep (Kz hbb))
 have HN:=Hj (And.intro hnc (And.intro hc hd))
 have HL:=Hj (And.intro hkl (And.intro hr (And.intro hs hn)))
 obtain⟨k0,k1,k2,k3,k4,k6⟩:=HK.out w2 h0.bel
 have hcs:∀(s:ByteArray) W,(convert 9 35 (.string s)).run Tryz.prog W=.ok (.slice (some ⟨W.heap.size,0,none⟩) s.size (grownCap W s.size 0 5)) (Lib.bytesWorld W 5 s):=fun s W=>Lib.run_convert_string_bytes W _ _ _ s Tryz.underlying9 Tryz.underlying35 Tryz.underlying5
 have Q7:Hid (∀W (s:ByteArray) kv ws q o cq,s.size≤200→ws.length≤1000→lN wb W (w.heap.size+1) q o cq kv ws→Calls Tryz.prog 153 #[.pointer (some ⟨w.heap.size+1,0,none⟩),.slice (some ⟨W.heap.size,0,none⟩) s.size (grownCap W s.size 0 5)] (Lib.bytesWorld W 5 s) fun e w'=>e=.returned (.tuple #[])∧∃kv' xv,lN wb w' (w.heap.size+1) q o cq kv' (ws++[(aT 4 s.data.toList,xv)])):=Hj fun W s kv ws q o cq h1 h2 h3=>
  lQ (h3.below (lT W _ s)) _ _ _ s.data.toList (sG W _ s) (grownCap_ge W s.size 0 _) (grownCap_le_maxLen W s.size 0 _ (by simp[maxLen];omega)) (by omega) h2
 have HW2:=Hj hw2
 clear hb hnc hc hd hkl hr hs hn hbb hrow h0 hw2
 go_enter Tryz.func99,Tryz.ntmps99
 go_wp2_with (first
  | (go_at_call 151;(rw[←hwb,←HW2.out];(with_reducible refine XY.out.mono ?_);rintro e w3 ⟨rfl,q,o,cq,hz⟩;have R3:=Hj hz;obtain⟨x30,x31,x32,x33,x34,x36⟩:=HK.out w3 hz.bel;have QY:Hid (Calls Tryz.prog 152 #[.pointer (some ⟨w.heap.size+1,0,none⟩),.int .i64 1] w3.drew fun e w'=>e=.returned (.tuple #[])∧∃kv' xv,lN wb w' (w.heap.size+1) q o cq kv' ([]++[(aT 10 (dG 1),xv)])):=Hj (qI (hz.below (jo (Below.refl _ _))) 1 (by decide) (by decide));clear hz))
  | fail)
 go_region
 go_wp2_with (first
  | (go_at_call 152;((with_reducible refine QY.out.mono ?_);rintro e w4 ⟨rfl,kv4,xv4,hz⟩;have R4:=Hj hz;obtain⟨x40,x41,x42,x43,x44,x46⟩:=HK.out w4 hz.bel;clear hz))
  | (go_at_call 152;((with_reducible refine(qI R4.out kind (by have:=HL.out;omega) (by simp)).mono ?_);rintro e w5 ⟨rfl,kv5,xv5,hz⟩;have R5:=Hj hz;obtain⟨x50,x51,x52,x53,x54,x56⟩:=HK.out w5 hz.bel;clear hz))
  | (go_at_call 153;((with_reducible refine(Q7.out w5 sp _ _ _ _ _ HL.out.2.2.1 (by simp) R5.out).mono ?_);rintro e w6 ⟨rfl,kv6,xv6,hz⟩;have R6:=Hj hz;obtain⟨x60,x61,x62,x63,x64,x66⟩:=HK.out w6 hz.bel;clear hz))
  | (go_at_call 153;((with_reducible refine(Q7.out w6 nm _ _ _ _ _ HL.out.2.2.2 (by simp) R6.out).mono ?_);rintro e w7 ⟨rfl,kv7,xv7,hz⟩;have R7:=Hj hz;obtain⟨x70,x71,x72,x73,x74,x76⟩:=HK.out w7 hz.bel;clear hz))
  | (go_at_call 154;((with_reducible refine(IE R7.out rev HL.out.2.1 (by simp)).mono ?_);rintro e w8 ⟨rfl,kv8,xv8,hz⟩;have R8:=Hj hz;obtain⟨x80,x81,x82,x83,x84,x86⟩:=HK.out w8 hz.bel;clear hz))
  | (go_at_call 153;((with_reducible refine(lQ R8.out A n c data (HB.out.keep (Kz R8.out.bel)) HN.out.1 HN.out.2.1 (by have:=HN.out;omega) (by simp)).mono ?_);rintro e w9 ⟨rfl,kv9,xv9,hz⟩;have R9:=Hj hz;obtain⟨x90,x91,x92,x93,x94,x96⟩:=HK.out w9 hz.bel;clear hz;have HF:Hid ((([]:List (List UInt8×Value))++[(aT 10 (dG 1),xv4)]++[(aT 10 (dG kind),xv5)]++[(aT 4 sp.data.toList,xv6)]++[(aT 4 nm.data.toList,xv7)]++[(aT 2 (dG rev),xv8)]++[(aT 4 data,xv9)]).map (fun x=>x.1)=RQ 1 kind rev sp.data.toList nm.data.toList data):=Hj (by simp[RQ]);have Ws:=Hj (vH (what:=1) (kind:=kind) (rev:=rev) (space:=sp.data.toList) (name:=nm.data.toList) (data:=data) (by decide) (by have:=HL.out;omega) HL.out.2.1 (by have:=HL.out;simp;omega) (by have:=HL.out;simp;omega) (by have:=HN.out;have:=HB.out.1;omega))))
  | (go_at_call 155;((with_reducible refine(yS R9.out (by rw[HF.out];have:=Ws.out;omega)).mono ?_);rintro e w10 ⟨rfl,dv,hz⟩;rw[HF.out] at hz;have R10:=Hj (show Iz wb w10 (w.heap.size+1) q o cq dv (Df 1 kind rev sp.data.toList nm.data.toList data) from hz);clear hz))
  | (go_at_call 156;((with_reducible refine(Dt R10.out (by have:=Ws.out;have:=aW 48 Ws.out (by omega);unfold Df;omega)).mono ?_);rintro e YR ⟨Wu,c11,rfl,wE,wF⟩;have N9:=Hj wE;have B11:=Hj wF;clear wE wF))
  | fail)
 go_ret2
 exact⟨Wu,c11,rfl,OB.mono N9.out (Cz BB.out.size R10.out.bel.size),BB.out.trans ((R10.out.bel.trans (B11.out.mono R10.out.bel.size)).mono BB.out.size)⟩
set_option maxHeartbeats 4000000 in
theorem JC (rev kind:Nat) (v:SO.OV) (data:List UInt8) (w:World) (hk:v.kind=(kind:Int)) (hkl:kind<1000000) (hr:rev<4611686018427387904) (hs:v.space.size≤200) (hn:v.name.size≤200)
  (hb:RB w v.A v.n data) (hd:v.n≤10000) (hnc:v.n≤v.c) (hc:v.c≤maxLen):
  Calls Tryz.prog 99 #[YF rev true v] w fun e w'=>∃A c,e=.returned (.tuple #[.slice A (Df 2 kind rev v.space.data.toList v.name.data.toList []).length c,.nilIface])∧OB w' w.heap.size (.slice A (Df 2 kind rev v.space.data.toList v.name.data.toList []).length c) (Df 2 kind rev v.space.data.toList v.name.data.toList [])∧Below w.heap.size w w':=by
 obtain⟨kd,sp,nm,ve,A,n,c⟩:=v
 simp only at hk hs hn hb hd hnc hc
 subst hk
 unfold YF
 simp only
 obtain⟨wb,hwb⟩:∃W,W=w.alloc (.cells #[.int .i64 (rev:Int),.bool true,.int .i64 (kind:Int),.string sp,.string nm,.int .i64 ve,.slice A n c] 99):=⟨_,rfl⟩
 have hbb:=(Below.refl w.heap.size w).alloc Kv (.cells #[.int .i64 (rev:Int),.bool true,.int .i64 (kind:Int),.string sp,.string nm,.int .i64 ve,.slice A n c] 99)
 have hrow:=heap_alloc_new w (.cells #[.int .i64 (rev:Int),.bool true,.int .i64 (kind:Int),.string sp,.string nm,.int .i64 ve,.slice A n c] 99)
 rw[←hwb] at hbb hrow
 have BB:=Hj hbb
 have HK:Hid (∀W,Below wb.heap.size wb W→W.cell? ⟨w.heap.size,0,none⟩=some (.int .i64 (rev:Int))∧W.cell? ⟨w.heap.size,1,none⟩=some (.bool true)∧W.cell? ⟨w.heap.size,2,none⟩=some (.int .i64 (kind:Int))∧W.cell? ⟨w.heap.size,3,none⟩=some (.string sp)∧W.cell? ⟨w.heap.size,4,none⟩=some (.string nm)∧W.cell? ⟨w.heap.size,6,none⟩=some (.slice A n c)):=
  Hj fun W hW=>⟨Kz hW _ _ (Kq 0 hrow),Kz hW _ _ (Kq 1 hrow),Kz hW _ _ (Kq 2 hrow),Kz hW _ _ (Kq 3 hrow),Kz hW _ _ (Kq 4 hrow),Kz hW _ _ (Kq 6 hrow)⟩
 obtain⟨w2,hw2⟩:∃W,W=wb.alloc (.cells #[.slice none 0 0,.slice none 0 0,.nilIface] 229):=⟨_,rfl⟩
 have h0:Wr0 wb w2 (w.heap.size+1):=by
  have e:w.heap.size+1=wb.heap.size:=by rw[hwb];simp
  rw[e,hw2]
  exact⟨(Below.refl _ _).alloc Kv _,Nat.le_refl _,heap_alloc_new _ _⟩
 have XY:=Hj (Du h0)
 have HB:Hid (RB wb A n data):=Hj (hb.keep (Kz hbb))
 have HN:=Hj (And.intro hnc (And.intro hc hd))
 have HL:=Hj (And.intro hkl (And.intro hr (And.intro hs hn)))
 obtain⟨k0,k1,k2,k3,k4,k6⟩:=HK.out w2 h0.bel
 have hcs:∀(s:ByteArray) W,(convert 9 35 (.string s)).run Tryz.prog W=.ok (.slice (some ⟨W.heap.size,0,none⟩) s.size (grownCap W s.size 0 5)) (Lib.bytesWorld W 5 s):=fun s W=>Lib.run_convert_string_bytes W _ _ _ s Tryz.underlying9 Tryz.underlying35 Tryz.underlying5
 have Q7:Hid (∀W (s:ByteArray) kv ws q o cq,s.size≤200→ws.length≤1000→lN wb W (w.heap.size+1) q o cq kv ws→Calls Tryz.prog 153 #[.pointer (some ⟨w.heap.size+1,0,none⟩),.slice (some ⟨W.heap.size,0,none⟩) s.size (grownCap W s.size 0 5)] (Lib.bytesWorld W 5 s) fun e w'=>e=.returned (.tuple #[])∧∃kv' xv,lN wb w' (w.heap.size+1) q o cq kv' (ws++[(aT 4 s.data.toList,xv)])):=Hj fun W s kv ws q o cq h1 h2 h3=>
  lQ (h3.below (lT W _ s)) _ _ _ s.data.toList (sG W _ s) (grownCap_ge W s.size 0 _) (grownCap_le_maxLen W s.size 0 _ (by simp[maxLen];omega)) (by omega) h2
 have HW2:=Hj hw2
 clear hb hnc hc hd hkl hr hs hn hbb hrow h0 hw2
 go_enter Tryz.func99,Tryz.ntmps99
 go_wp2_with (first
  | (go_at_call 151;(rw[←hwb,←HW2.out];(with_reducible refine XY.out.mono ?_);rintro e w3 ⟨rfl,q,o,cq,hz⟩;have R3:=Hj hz;obtain⟨x30,x31,x32,x33,x34,x36⟩:=HK.out w3 hz.bel;have QY:Hid (Calls Tryz.prog 152 #[.pointer (some ⟨w.heap.size+1,0,none⟩),.int .i64 2] w3.drew fun e w'=>e=.returned (.tuple #[])∧∃kv' xv,lN wb w' (w.heap.size+1) q o cq kv' ([]++[(aT 10 (dG 2),xv)])):=Hj (qI (hz.below (jo (Below.refl _ _))) 2 (by decide) (by decide));clear hz))
  | fail)
 go_region
 go_wp2_with (first
  | (go_at_call 152;((with_reducible refine QY.out.mono ?_);rintro e w4 ⟨rfl,kv4,xv4,hz⟩;have R4:=Hj hz;obtain⟨x40,x41,x42,x43,x44,x46⟩:=HK.out w4 hz.bel;clear hz))
  | (go_at_call 152;((with_reducible refine(qI R4.out kind (by have:=HL.out;omega) (by simp)).mono ?_);rintro e w5 ⟨rfl,kv5,xv5,hz⟩;have R5:=Hj hz;obtain⟨x50,x51,x52,x53,x54,x56⟩:=HK.out w5 hz.bel;clear hz))
  | (go_at_call 153;((with_reducible refine(Q7.out w5 sp _ _ _ _ _ HL.out.2.2.1 (by simp) R5.out).mono ?_);rintro e w6 ⟨rfl,kv6,xv6,hz⟩;have R6:=Hj hz;obtain⟨x60,x61,x62,x63,x64,x66⟩:=HK.out w6 hz.bel;clear hz))
  | (go_at_call 153;((with_reducible refine(Q7.out w6 nm _ _ _ _ _ HL.out.2.2.2 (by simp) R6.out).mono ?_);rintro e w7 ⟨rfl,kv7,xv7,hz⟩;have R7:=Hj hz;obtain⟨x70,x71,x72,x73,x74,x76⟩:=HK.out w7 hz.bel;clear hz))
  | (go_at_call 154;((with_reducible refine(IE R7.out rev HL.out.2.1 (by simp)).mono ?_);rintro e w8 ⟨rfl,kv8,xv8,hz⟩;have R8:=Hj hz;obtain⟨x80,x81,x82,x83,x84,x86⟩:=HK.out w8 hz.bel;clear hz))
  | (go_at_call 153;((with_reducible refine(lQ R8.out none 0 0 [] (RB.nil _ _) (by decide) (by simp[maxLen]) (by decide) (by simp)).mono ?_);rintro e w9 ⟨rfl,kv9,xv9,hz⟩;have R9:=Hj hz;obtain⟨x90,x91,x92,x93,x94,x96⟩:=HK.out w9 hz.bel;clear hz;have HF:Hid ((([]:List (List UInt8×Value))++[(aT 10 (dG 2),xv4)]++[(aT 10 (dG kind),xv5)]++[(aT 4 sp.data.toList,xv6)]++[(aT 4 nm.data.toList,xv7)]++[(aT 2 (dG rev),xv8)]++[(aT 4 ([]:List UInt8),xv9)]).map (fun x=>x.1)=RQ 2 kind rev sp.data.toList nm.data.toList []):=Hj (by simp[RQ]);have Ws:=Hj (vH (what:=2) (kind:=kind) (rev:=rev) (space:=sp.data.toList) (name:=nm.data.toList) (data:=[]) (by decide) (by have:=HL.out;omega) HL.out.2.1 (by have:=HL.out;simp;omega) (by have:=HL.out;simp;omega) (by simp))))
  | (go_at_call 155;((with_reducible refine(yS R9.out (by rw[HF.out];have:=Ws.out;omega)).mono ?_);rintro e w10 ⟨rfl,dv,hz⟩;rw[HF.out] at hz;have R10:=Hj (show Iz wb w10 (w.heap.size+1) q o cq dv (Df 2 kind rev sp.data.toList nm.data.toList []) from hz);clear hz))
  | (go_at_call 156;((with_reducible refine(Dt R10.out (by have:=Ws.out;have:=aW 48 Ws.out (by omega);unfold Df;omega)).mono ?_);rintro e YR ⟨Wu,c11,rfl,wE,wF⟩;have N9:=Hj wE;have B11:=Hj wF;clear wE wF))
  | fail)
 go_ret2
 exact⟨Wu,c11,rfl,OB.mono N9.out (Cz BB.out.size R10.out.bel.size),BB.out.trans ((R10.out.bel.trans (B11.out.mono R10.out.bel.size)).mono BB.out.size)⟩
open SO
def oH (c:UInt8):Bool:=(decide (97≤c.toNat)&&decide (c.toNat≤122))||(decide (48≤c.toNat)&&decide (c.toNat≤57))
def dK (l:List UInt8):Bool:=decide (0<l.length)&&(decide (l.length≤24)&&(!(Lib.hasPrefix l [45])&&(!(Lib.hasSuffix l [45])&&l.all fun c=>(c==45)||oH c)))
theorem ER {l:List UInt8} (h:dK l=true):0<l.length∧l.length≤24:=by
 unfold dK at h
 rw[Bool.and_eq_true,Bool.and_eq_true] at h
 exact⟨of_decide_eq_true h.1,of_decide_eq_true h.2.1⟩
/-- A number's figures, the last one first. -/
def pJ (n:Nat):List UInt8:=if h:n<10 then [UInt8.ofNat (48+n)] else UInt8.ofNat (48+n % 10)::pJ (n / 10)
termination_by n
decreasing_by exact Nat.div_lt_self (by omega) (by omega)
theorem jS {n:Nat} (h:n<10):pJ n=[UInt8.ofNat (48+n)]:=by rw[pJ,dif_pos h]
theorem y7 {n:Nat} (h:¬n<10):pJ n=UInt8.ofNat (48+n % 10)::pJ (n / 10):=by rw[pJ,dif_neg h]
def iF (k:Int):List UInt8:=if k<0 then [] else (pJ k.toNat).reverse
def iH (kind:Int):Bool:=decide (kind=5)||decide (kind=6)
def bU (kind:Int) (space name:ByteArray):Bool:=
 (if iH kind=true then dK space.data.toList else decide (space.size=0))&&(decide (1≤kind)&&(decide (kind≤7)&&dK name.data.toList))
def dZ (kind:Int) (space:ByteArray):List UInt8:=iF kind++[47]++space.data.toList++[47]
def bF (l:List UInt8):ByteArray:=⟨l.toArray⟩
def ji (kind:Int) (space name:ByteArray):ByteArray:=bF (dZ kind space++name.data.toList)
theorem aZ (l:List UInt8):(bF l).toList=l:=MW l
theorem J5 (l:List UInt8):(bF l).data.toList=l:=by simp[bF]
theorem Di (a b:List UInt8):bF a++bF b=bF (a++b):=ByteArray.ext (by simp[bF])
theorem size_data (s:ByteArray):s.data.toList.length=s.size:=by rw[Array.length_toList];rfl
structure aH where
 kind:Nat
 space:ByteArray
 name:ByteArray
 ver:Nat
 data:List UInt8
def aN (o:aH):ByteArray:=ji (o.kind:Int) o.space o.name
structure aH.Ok (o:aH):Prop where
 named:bU (o.kind:Int) o.space o.name=true
 data:o.data.length≤8192
theorem jP {kind:Int} {space name:ByteArray} (h:bU kind space name=true):1≤kind∧kind≤7∧space.size≤24∧1≤name.size∧name.size≤24:=by
 unfold bU at h
 rw[Bool.and_eq_true,Bool.and_eq_true,Bool.and_eq_true] at h
 obtain⟨h1,h2,h3,h4⟩:=h
 have h4:=ER h4
 rw[size_data] at h4
 refine⟨of_decide_eq_true h2,of_decide_eq_true h3,?_,h4.1,h4.2⟩
 split at h1
 ·have:=ER h1
  rw[size_data] at this
  exact this.2
 ·have:=of_decide_eq_true h1
  omega
theorem aH.Ok.parts {o:aH} (h:o.Ok):1≤o.kind∧o.kind≤7∧o.space.size≤24∧1≤o.name.size∧o.name.size≤24:=by
 have:=jP h.named
 omega
structure aY where
 rev:Nat
 base:Nat
 tab:List (ByteArray×aH)
 evs:List (Bool×aH)
/-- A change's bytes. -/
def fQ (e:Bool×aH):List UInt8:=Df (if e.1 then 2 else 1) e.2.kind e.2.ver e.2.space.data.toList e.2.name.data.toList (if e.1 then [] else e.2.data)
def aY.was (M:aY) (k:ByteArray):List UInt8:=match look aJ k M.tab with | some x=>x.data | none=>[]
/-- What a change makes of a store. -/
def aY.app (M:aY) (e:Bool×aH):aY:=
 if e.1=true then ⟨e.2.ver,M.base,rem aJ (aN e.2) M.tab,M.evs++[(true,{e.2 with data:=M.was (aN e.2)})]⟩
 else ⟨e.2.ver,M.base,ins aJ (aN e.2) e.2 M.tab,M.evs++[(false,e.2)]⟩
def aY.play (M:aY) (es:List (Bool×aH)):aY:=es.foldl aY.app M
/-- A change that can be done. -/
structure aY.Can (M:aY) (e:Bool×aH):Prop where
 ok:e.2.Ok
 ver:e.2.ver=M.rev+1
 most:e.2.ver≤1099511627776
 del:e.1=true→e.2.data=[]∧(look aJ (aN e.2) M.tab).isSome=true
def aY.Ho:aY→List (Bool×aH)→Prop
 | _,[]=>True
 | M,e::es=>M.Can e∧(M.app e).Ho es
theorem Ho.snoc {e:Bool×aH}:∀{es:List (Bool×aH)} {M:aY},M.Ho es→(M.play es).Can e→M.Ho (es++[e])
 | [],_,_,h=>⟨h,trivial⟩
 | _::es,_,h,k=>⟨h.1,Ho.snoc (es:=es) h.2 k⟩
theorem qx (M:aY) (e:Bool×aH):(M.app e).base=M.base:=by
 unfold aY.app
 split
 ·rfl
 ·rfl
theorem vg (M:aY) (e:Bool×aH):(M.app e).rev=e.2.ver:=by
 unfold aY.app
 split
 ·rfl
 ·rfl
structure qE (rev:Nat) (tab:List (ByteArray×aH)):Prop where
 CX:aO aJ tab
 each:∀x∈tab,x.1=aN x.2∧x.2.Ok∧1≤x.2.ver∧x.2.ver≤rev
theorem qE.nil (rev:Nat):qE rev []:=⟨List.Pairwise.nil,fun _ h=>by cases h⟩
structure aY.Ok (M:aY):Prop where
 tab:qE M.rev M.tab
 le:M.base≤M.rev
 most:M.rev≤1099511627776
 num:M.rev=M.base+M.evs.length
 evs:∀i e,M.evs[i]?=some e→e.2.ver=M.base+1+i∧e.2.Ok
theorem ES {k:ByteArray} {o:aH}:∀{l:List (ByteArray×aH)},look aJ k l=some o→∃k',(k',o)∈l
 | [],h=>by simp[look] at h
 | x::l,h=>by
  unfold look at h
  split at h
  ·cases h
  ·split at h
   ·obtain ⟨k',hk⟩:=ES h
    exact⟨k',List.mem_cons_of_mem _ hk⟩
   ·injection h with h
    subst h
    exact⟨x.1,by simp⟩
theorem aY.Ok.app {M:aY} (h:M.Ok) {e:Bool×aH} (c:M.Can e):(M.app e).Ok:=by
 have hv:=c.ver
 have hl:=h.le
 have hn:=h.num
 have each:∀x∈M.tab,x.1=aN x.2∧x.2.Ok∧1≤x.2.ver∧x.2.ver≤e.2.ver:=fun x hx=>by
  obtain⟨a,b,d,f⟩:=h.tab.each x hx
  exact⟨a,b,d,by omega⟩
 unfold aY.app
 split
 ·rename_i hd
  refine⟨⟨zo h.tab.CX,fun x hx=>each x (lH.subset hx)⟩,by show M.base≤e.2.ver;omega,c.most,by show e.2.ver=M.base+(M.evs++[_]).length;simp;omega,fun i x hx=> ?_⟩
  by_cases hi:i<M.evs.length
  ·rw [List.getElem?_append_left hi] at hx
   exact h.evs i x hx
  ·rw [List.getElem?_append_right (by omega)] at hx
   obtain⟨h1,h2⟩:=List.getElem?_eq_some_iff.1 hx
   have h1':i-M.evs.length<1:=h1
   have e0:i-M.evs.length=0:=by omega
   simp[e0] at hx
   subst hx
   refine⟨by show e.2.ver=M.base+1+i;omega,c.ok.named,?_⟩
   show (M.was (aN e.2)).length≤8192
   unfold aY.was
   split
   ·rename_i o ho
    obtain⟨k',hk⟩:=ES ho
    exact(h.tab.each _ hk).2.1.data
   ·simp
 ·rename_i hd
  refine⟨⟨zn gB h.tab.CX,fun x hx=> ?_⟩,by show M.base≤e.2.ver;omega,c.most,by show e.2.ver=M.base+(M.evs++[_]).length;simp;omega,fun i x hx=> ?_⟩
  ·rcases qp hx with hx | hx
   ·subst hx
    exact⟨rfl,c.ok,by show 1≤e.2.ver;omega,Nat.le_refl _⟩
   ·exact each x hx
  ·by_cases hi:i<M.evs.length
   ·rw [List.getElem?_append_left hi] at hx
    exact h.evs i x hx
   ·rw [List.getElem?_append_right (by omega)] at hx
    obtain⟨h1,h2⟩:=List.getElem?_eq_some_iff.1 hx
    have h1':i-M.evs.length<1:=h1
    have e0:i-M.evs.length=0:=by omega
    simp[e0] at hx
    subst hx
    exact⟨by show e.2.ver=M.base+1+i;omega,c.ok⟩
theorem Ok.play:∀{es:List (Bool×aH)} {M:aY},M.Ok→M.Ho es→(M.play es).Ok
 | [],_,h,_=>h
 | _::es,_,h,c=>Ok.play (es:=es) (h.app c.1) c.2
/-- A snapshot's text. -/
def aP (base:Nat) (tab:List (ByteArray×aH)):List UInt8:=aT 2 (dG base)++tab.flatMap fun x=>fQ (false,x.2)
/-- A store as it is behind its snapshot. -/
def aY.at (base:Nat) (tab:List (ByteArray×aH)):aY:=⟨base,base,tab,[]⟩
theorem aY.vW {base:Nat} {tab:List (ByteArray×aH)} (h:qE base tab) (hb:base≤1099511627776):(aY.at base tab).Ok:=⟨h,Nat.le_refl _,hb,rfl,fun i e he=>by cases he⟩
structure TellsBy (L:LM) (M:aY) (QB:List (ByteArray×aH)) (es:List (Bool×aH)):Prop where
 tab:qE M.base QB
 most:M.base≤1099511627776
 text:L.text=aP M.base QB∨(L.text=[]∧M.base=0∧QB=[])
 recs:L.recs=es.map fQ
 cans:(aY.at M.base QB).Ho es
 play:M=(aY.at M.base QB).play es
def st0:aY:=⟨0,0,[],[]⟩
/-- What a store's state is for who asks. -/
def aY.fresh (M:aY):aY:=aY.at M.rev M.tab
section
variable {m m':DM} {A:Nat→List UInt8} {L L':LM} {M M':aY} {e:Bool×aH} {n E:Nat}
theorem vS (L:LM) (m:DM) (t:List UInt8) (h:L.dQ m t=26):L.iE m t=m∧L.app m t=L:=by
 unfold LM.dQ at h
 unfold LM.iE LM.app
 by_cases hr:L.room m t=0
 ·rw [if_pos hr] at h
  split at h
  ·cases h
  ·cases h
 ·rw [if_neg hr,if_neg hr]
  exact⟨rfl,rfl⟩
/-- What a change does: the number and the error's that are answered, the store, the log and the disk behind it. -/
def Ir (M:aY) (L:LM) (m:DM) (e:Bool×aH) (n E:Nat) (M':aY) (L':LM) (m':DM):Prop:=
 (1099511627776≤M.rev∧n=0∧E=26∧M'=M∧L'=L∧m'=m)∨
 (M.rev<1099511627776∧
  ((L.dQ m (fQ e)=0∧n=e.2.ver∧E=0∧M'=M.app e∧L'=L.app m (fQ e)∧m'=L.iE m (fQ e))∨
   (L.dQ m (fQ e)≠0∧L.dQ m (fQ e)≠26∧n=0∧E=L.dQ m (fQ e)∧M'=M∧L'=L.app m (fQ e)∧m'=L.iE m (fQ e))∨
   (L.dQ m (fQ e)=26∧
    ((L.mM m (aP M.rev M.tab)≠0∧n=0∧E=L.mM m (aP M.rev M.tab)∧M'=M∧L'=L.cp m (aP M.rev M.tab)∧m'=L.lD m (aP M.rev M.tab))∨
    (L.mM m (aP M.rev M.tab)=0∧∃L1 m1,L1=L.cp m (aP M.rev M.tab)∧m1=L.lD m (aP M.rev M.tab)∧
     ((L1.dQ m1 (fQ e)=0∧n=e.2.ver∧E=0∧M'=M.fresh.app e∧L'=L1.app m1 (fQ e)∧m'=L1.iE m1 (fQ e))∨
      (L1.dQ m1 (fQ e)≠0∧n=0∧E=L1.dQ m1 (fQ e)∧M'=M.fresh∧L'=L1.app m1 (fQ e)∧m'=L1.iE m1 (fQ e))))))))
theorem lI (h:e.2.Ok) (hv:e.2.ver≤1099511627776):(fQ e).length≤10504:=by
 obtain⟨h1,h2,h3,h4,h5⟩:=h.parts
 have hd:(if e.1 then ([]:List UInt8) else e.2.data).length≤10000:=by
  have:=h.data
  split
  ·simp
  ·omega
 have hw:(if e.1 then 2 else 1:Nat)<4611686018427387904:=by split<;>omega
 exact aW 48 (vH hw (by omega) (by omega) (by rw[size_data];omega) (by rw[size_data];omega) hd) (by omega)
theorem rW (c:M.Can e):M.fresh.Can e:=⟨c.ok,c.ver,c.most,c.del⟩
end
end Go.Proofs.YtdhbpajamlfacaaGreatDoor
