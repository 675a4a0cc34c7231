/- Layer 20 (store): a change's text. -/
import Derived.Test.YtdhbpajamlfacaaGreatDoorDerR
import Derived.Test.YtdhbpajamlfacaaGreatDoorOrdSO
import Derived.Lib.ConvBytes
import Derived.Test.YtdhbpajamlfacaaGreatDoorWalK
import Derived.Lib.Strings
set_option maxHeartbeats 4000000
set_option maxRecDepth 100000
namespace Go.Proofs.YtdhbpajamlfacaaGreatDoor
open Go.RowKit
theorem oL (W:World) (e:TypeId) (s:ByteArray):Bw W (Lib.bytesWorld W e s):=
 ⟨rfl,rfl,rfl,by rw[Lib.bytesWorld_size];omega,fun k hk=>Lib.bytesWorld_at_old W e s k hk⟩
theorem uZ (W:World) (e:TypeId) (s:ByteArray):RB (Lib.bytesWorld W e s) (some ⟨W.heap.size,0,none⟩) s.size s.data.toList:=
 ⟨by simp,fun _=>⟨_,0,rfl,fun k hk=>by rw[dV];exact Lib.bytesWorld_cell W e s k hk⟩⟩
/-- The elements of a change. -/
def U1 (what kind rev:Nat) (space name data:List UInt8):List (List UInt8):=[bG 10 (dY what),bG 10 (dY kind),bG 4 space,bG 4 name,bG 2 (dY rev),bG 4 data]
/-- A change's text. -/
def E5 (what kind rev:Nat) (space name data:List UInt8):List UInt8:=bG 48 (U1 what kind rev space name data).flatten
theorem jE {n:Nat} (h:n<4611686018427387904):(dY n).length≤9:=by unfold dY;rw[List.length_reverse];exact uh 8 (by omega)
theorem bM (tag:Nat) {b:List UInt8} {m:Nat} (h:b.length≤m) (hm:m≤65530):(bG tag b).length≤m+4:=by
 have:=oG tag b (by omega)
 omega
theorem xP {what kind rev:Nat} {space name data:List UInt8} (h1:what<4611686018427387904) (h2:kind<4611686018427387904) (h3:rev<4611686018427387904) (h4:space.length≤200) (h5:name.length≤200) (h6:data.length≤10000):
  (U1 what kind rev space name data).flatten.length≤10500:=by
 have a1:=bM 10 (jE h1) (by omega)
 have a2:=bM 10 (jE h2) (by omega)
 have a3:=bM 2 (jE h3) (by omega)
 have a4:=bM 4 h4 (by omega)
 have a5:=bM 4 h5 (by omega)
 have a6:=bM 4 h6 (by omega)
 simp only[U1,List.flatten_cons,List.flatten_nil,List.length_append,List.length_nil]
 omega
/-- A change as a value. -/
def evV (rev:Nat) (del:Bool) (v:SO.OV):Value:=.agg #[.int .i64 (rev:Int),.bool del,.int .i64 v.kind,.string v.space,.string v.name,.int .i64 v.ver,.slice v.A v.n v.c]
theorem Bj (rev kind:Nat) (v:SO.OV) (data:List UInt8) (w:World) (hk:v.kind=(kind:Int)) (hkl:kind<1000000) (hr:rev<4611686018427387904) (hs:v.space.size≤200) (hn:v.name.size≤200)
  (hb:RB w v.A v.n data) (hd:v.n≤10000) (hnc:v.n≤v.c) (hc:v.c≤maxLen):
  Cl 99 #[evV rev false v] w fun e w'=>∃A c,e=.returned (.tuple #[.slice A (E5 1 kind rev v.space.data.toList v.name.data.toList data).length c,.nilIface])∧OB w' w.heap.size (.slice A (E5 1 kind rev v.space.data.toList v.name.data.toList data).length c) (E5 1 kind rev v.space.data.toList v.name.data.toList data)∧Bw w w':=by
 obtain⟨kd,sp,nm,ve,A,n,c⟩:=v
 simp only at hk hs hn hb hd hnc hc
 subst hk
 unfold evV
 simp only
 obtain⟨wb,hwb⟩:∃W,W=w.alloc (.cells #[.int .i64 (rev:Int),.bool false,.int .i64 (kind:Int),.string sp,.string nm,.int .i64 ve,.slice A n c] 99):=⟨_,rfl⟩
 have hbb:=(aj w.heap.size w).alloc Kv (.cells #[.int .i64 (rev:Int),.bool false,.int .i64 (kind:Int),.string sp,.string nm,.int .i64 ve,.slice A n c] 99)
 have hrow:=aA w (.cells #[.int .i64 (rev:Int),.bool false,.int .i64 (kind:Int),.string sp,.string nm,.int .i64 ve,.slice A n c] 99)
 rw[←hwb] at hbb hrow
 have BB:=Hj hbb
 have HK:Hid (∀W,Bw wb W→W.cell? ⟨w.heap.size,0,none⟩=some (.int .i64 (rev:Int))∧W.cell? ⟨w.heap.size,1,none⟩=some (.bool false)∧W.cell? ⟨w.heap.size,2,none⟩=some (.int .i64 (kind:Int))∧W.cell? ⟨w.heap.size,3,none⟩=some (.string sp)∧W.cell? ⟨w.heap.size,4,none⟩=some (.string nm)∧W.cell? ⟨w.heap.size,6,none⟩=some (.slice A n c)):=
  Hj fun W hW=>⟨Kz hW _ _ (Kq 0 hrow),Kz hW _ _ (Kq 1 hrow),Kz hW _ _ (Kq 2 hrow),Kz hW _ _ (Kq 3 hrow),Kz hW _ _ (Kq 4 hrow),Kz hW _ _ (Kq 6 hrow)⟩
 obtain⟨w2,hw2⟩:∃W,W=wb.alloc (.cells #[.slice none 0 0,.slice none 0 0,.nilIface] 229):=⟨_,rfl⟩
 have h0:Wr0 wb w2 (w.heap.size+1):=by
  have e:w.heap.size+1=wb.heap.size:=by rw[hwb];simp
  rw[e,hw2]
  exact⟨(aj _ _).alloc Kv _,bZ _,aA _ _⟩
 have HOp:=Hj (FC h0)
 have HB:Hid (RB wb A n data):=Hj (hb.keep (Kz hbb))
 have HN:=Hj (aB hnc (aB hc hd))
 have HL:=Hj (aB hkl (aB hr (aB hs hn)))
 obtain⟨k0,k1,k2,k3,k4,k6⟩:=HK.out w2 h0.bel
 have hcs:∀(s:ByteArray) W,(convert 9 35 (.string s)).run Tryz.prog W=.ok (.slice (some ⟨W.heap.size,0,none⟩) s.size (grownCap W s.size 0 5)) (Lib.bytesWorld W 5 s):=fun s W=>Lib.run_convert_string_bytes W _ _ _ s Tryz.underlying9 Tryz.underlying35 Tryz.underlying5
 have Lr:Hid (∀W (s:ByteArray) kv ws q o cq,s.size≤200→ws.length≤1000→oI wb W (w.heap.size+1) q o cq kv ws→Cl 153 #[.pointer (some ⟨w.heap.size+1,0,none⟩),.slice (some ⟨W.heap.size,0,none⟩) s.size (grownCap W s.size 0 5)] (Lib.bytesWorld W 5 s) fun e w'=>e=.returned (.tuple #[])∧∃kv' xv,oI wb w' (w.heap.size+1) q o cq kv' (ws++[(bG 4 s.data.toList,xv)])):=Hj fun W s kv ws q o cq h1 h2 h3=>
  oJ (h3.below (oL W _ s)) _ _ _ s.data.toList (uZ W _ s) (grownCap_ge W s.size 0 _) (grownCap_le_maxLen W s.size 0 _ (by simp[maxLen];omega)) (by omega) h2
 have HW2:=Hj hw2
 clear hb hnc hc hd hkl hr hs hn hbb hrow h0 hw2
 go_enter Tryz.func99,Tryz.ntmps99
 go_wp2_with (first
  | (go_at_call 151;(rw[←hwb,←HW2.out];(refine HOp.out.mono ?_);rintro e w3 ⟨rfl,q,o,cq,hz⟩;have R3:=Hj hz;obtain⟨x30,x31,x32,x33,x34,x36⟩:=HK.out w3 hz.bel;have HE1:Hid (Cl 152 #[.pointer (some ⟨w.heap.size+1,0,none⟩),.int .i64 1] w3.drew fun e w'=>e=.returned (.tuple #[])∧∃kv' xv,oI wb w' (w.heap.size+1) q o cq kv' ([]++[(bG 10 (dY 1),xv)])):=Hj (uj (hz.below (kM (aj _ _))) 1 (by decide) (by decide));clear hz))
  | fail)
 go_region
 go_wp2_with (first
  | (go_at_call 152;((with_reducible refine HE1.out.mono ?_);rintro e w4 ⟨rfl,kv4,xv4,hz⟩;have R4:=Hj hz;obtain⟨x40,x41,x42,x43,x44,x46⟩:=HK.out w4 hz.bel;clear hz))
  | (go_at_call 152;((with_reducible refine(uj R4.out kind (by have:=HL.out;omega) (by simp)).mono ?_);rintro e w5 ⟨rfl,kv5,xv5,hz⟩;have R5:=Hj hz;obtain⟨x50,x51,x52,x53,x54,x56⟩:=HK.out w5 hz.bel;clear hz))
  | (go_at_call 153;((with_reducible refine(Lr.out w5 sp _ _ _ _ _ HL.out.2.2.1 (by simp) R5.out).mono ?_);rintro e w6 ⟨rfl,kv6,xv6,hz⟩;have R6:=Hj hz;obtain⟨x60,x61,x62,x63,x64,x66⟩:=HK.out w6 hz.bel;clear hz))
  | (go_at_call 153;((with_reducible refine(Lr.out w6 nm _ _ _ _ _ HL.out.2.2.2 (by simp) R6.out).mono ?_);rintro e w7 ⟨rfl,kv7,xv7,hz⟩;have R7:=Hj hz;obtain⟨x70,x71,x72,x73,x74,x76⟩:=HK.out w7 hz.bel;clear hz))
  | (go_at_call 154;((refine(La R7.out rev HL.out.2.1 (by simp)).mono ?_);rintro e w8 ⟨rfl,kv8,xv8,hz⟩;have R8:=Hj hz;obtain⟨x80,x81,x82,x83,x84,x86⟩:=HK.out w8 hz.bel;clear hz))
  | (go_at_call 153;((with_reducible refine(oJ R8.out A n c data (HB.out.keep (Kz R8.out.bel)) HN.out.1 HN.out.2.1 (by have:=HN.out;omega) (by simp)).mono ?_);rintro e w9 ⟨rfl,kv9,xv9,hz⟩;have R9:=Hj hz;obtain⟨x90,x91,x92,x93,x94,x96⟩:=HK.out w9 hz.bel;clear hz;have HF:Hid ((([]:List (List UInt8×Value))++[(bG 10 (dY 1),xv4)]++[(bG 10 (dY kind),xv5)]++[(bG 4 sp.data.toList,xv6)]++[(bG 4 nm.data.toList,xv7)]++[(bG 2 (dY rev),xv8)]++[(bG 4 data,xv9)]).map (fun x=>x.1)=U1 1 kind rev sp.data.toList nm.data.toList data):=Hj (by simp[U1]);have YG:=Hj (xP (what:=1) (kind:=kind) (rev:=rev) (space:=sp.data.toList) (name:=nm.data.toList) (data:=data) (by decide) (by have:=HL.out;omega) HL.out.2.1 (by have:=HL.out;simp;omega) (by have:=HL.out;simp;omega) (by have:=HN.out;have:=HB.out.1;omega))))
  | (go_at_call 155;((refine(Bv R9.out (by rw[HF.out];have:=YG.out;omega)).mono ?_);rintro e w10 ⟨rfl,dv,hz⟩;rw[HF.out] at hz;have R10:=Hj (show KR wb w10 (w.heap.size+1) q o cq dv (E5 1 kind rev sp.data.toList nm.data.toList data) from hz);clear hz))
  | (go_at_call 156;((refine(FB R10.out (by have:=YG.out;have:=bM 48 YG.out (by omega);unfold E5;omega)).mono ?_);rintro e Xr ⟨YH,c11,rfl,yH,yI⟩;have YJ:=Hj yH;have B11:=Hj yI;clear yH yI))
  | fail)
 go_ret2
 exact⟨YH,c11,rfl,OB.mono YJ.out (Cz BB.out.size R10.out.bel.size),BB.out.trans ((R10.out.bel.trans (B11.out.mono R10.out.bel.size)).mono BB.out.size)⟩
theorem Na (rev kind:Nat) (v:SO.OV) (data:List UInt8) (w:World) (hk:v.kind=(kind:Int)) (hkl:kind<1000000) (hr:rev<4611686018427387904) (hs:v.space.size≤200) (hn:v.name.size≤200)
  (hb:RB w v.A v.n data) (hd:v.n≤10000) (hnc:v.n≤v.c) (hc:v.c≤maxLen):
  Cl 99 #[evV rev true v] w fun e w'=>∃A c,e=.returned (.tuple #[.slice A (E5 2 kind rev v.space.data.toList v.name.data.toList []).length c,.nilIface])∧OB w' w.heap.size (.slice A (E5 2 kind rev v.space.data.toList v.name.data.toList []).length c) (E5 2 kind rev v.space.data.toList v.name.data.toList [])∧Bw w w':=by
 obtain⟨kd,sp,nm,ve,A,n,c⟩:=v
 simp only at hk hs hn hb hd hnc hc
 subst hk
 unfold evV
 simp only
 obtain⟨wb,hwb⟩:∃W,W=w.alloc (.cells #[.int .i64 (rev:Int),.bool true,.int .i64 (kind:Int),.string sp,.string nm,.int .i64 ve,.slice A n c] 99):=⟨_,rfl⟩
 have hbb:=(aj w.heap.size w).alloc Kv (.cells #[.int .i64 (rev:Int),.bool true,.int .i64 (kind:Int),.string sp,.string nm,.int .i64 ve,.slice A n c] 99)
 have hrow:=aA w (.cells #[.int .i64 (rev:Int),.bool true,.int .i64 (kind:Int),.string sp,.string nm,.int .i64 ve,.slice A n c] 99)
 rw[←hwb] at hbb hrow
 have BB:=Hj hbb
 have HK:Hid (∀W,Bw wb W→W.cell? ⟨w.heap.size,0,none⟩=some (.int .i64 (rev:Int))∧W.cell? ⟨w.heap.size,1,none⟩=some (.bool true)∧W.cell? ⟨w.heap.size,2,none⟩=some (.int .i64 (kind:Int))∧W.cell? ⟨w.heap.size,3,none⟩=some (.string sp)∧W.cell? ⟨w.heap.size,4,none⟩=some (.string nm)∧W.cell? ⟨w.heap.size,6,none⟩=some (.slice A n c)):=
  Hj fun W hW=>⟨Kz hW _ _ (Kq 0 hrow),Kz hW _ _ (Kq 1 hrow),Kz hW _ _ (Kq 2 hrow),Kz hW _ _ (Kq 3 hrow),Kz hW _ _ (Kq 4 hrow),Kz hW _ _ (Kq 6 hrow)⟩
 obtain⟨w2,hw2⟩:∃W,W=wb.alloc (.cells #[.slice none 0 0,.slice none 0 0,.nilIface] 229):=⟨_,rfl⟩
 have h0:Wr0 wb w2 (w.heap.size+1):=by
  have e:w.heap.size+1=wb.heap.size:=by rw[hwb];simp
  rw[e,hw2]
  exact⟨(aj _ _).alloc Kv _,bZ _,aA _ _⟩
 have HOp:=Hj (FC h0)
 have HB:Hid (RB wb A n data):=Hj (hb.keep (Kz hbb))
 have HN:=Hj (aB hnc (aB hc hd))
 have HL:=Hj (aB hkl (aB hr (aB hs hn)))
 obtain⟨k0,k1,k2,k3,k4,k6⟩:=HK.out w2 h0.bel
 have hcs:∀(s:ByteArray) W,(convert 9 35 (.string s)).run Tryz.prog W=.ok (.slice (some ⟨W.heap.size,0,none⟩) s.size (grownCap W s.size 0 5)) (Lib.bytesWorld W 5 s):=fun s W=>Lib.run_convert_string_bytes W _ _ _ s Tryz.underlying9 Tryz.underlying35 Tryz.underlying5
 have Lr:Hid (∀W (s:ByteArray) kv ws q o cq,s.size≤200→ws.length≤1000→oI wb W (w.heap.size+1) q o cq kv ws→Cl 153 #[.pointer (some ⟨w.heap.size+1,0,none⟩),.slice (some ⟨W.heap.size,0,none⟩) s.size (grownCap W s.size 0 5)] (Lib.bytesWorld W 5 s) fun e w'=>e=.returned (.tuple #[])∧∃kv' xv,oI wb w' (w.heap.size+1) q o cq kv' (ws++[(bG 4 s.data.toList,xv)])):=Hj fun W s kv ws q o cq h1 h2 h3=>
  oJ (h3.below (oL W _ s)) _ _ _ s.data.toList (uZ W _ s) (grownCap_ge W s.size 0 _) (grownCap_le_maxLen W s.size 0 _ (by simp[maxLen];omega)) (by omega) h2
 have HW2:=Hj hw2
 clear hb hnc hc hd hkl hr hs hn hbb hrow h0 hw2
 go_enter Tryz.func99,Tryz.ntmps99
 go_wp2_with (first
  | (go_at_call 151;(rw[←hwb,←HW2.out];(refine HOp.out.mono ?_);rintro e w3 ⟨rfl,q,o,cq,hz⟩;have R3:=Hj hz;obtain⟨x30,x31,x32,x33,x34,x36⟩:=HK.out w3 hz.bel;have HE1:Hid (Cl 152 #[.pointer (some ⟨w.heap.size+1,0,none⟩),.int .i64 2] w3.drew fun e w'=>e=.returned (.tuple #[])∧∃kv' xv,oI wb w' (w.heap.size+1) q o cq kv' ([]++[(bG 10 (dY 2),xv)])):=Hj (uj (hz.below (kM (aj _ _))) 2 (by decide) (by decide));clear hz))
  | fail)
 go_region
 go_wp2_with (first
  | (go_at_call 152;((with_reducible refine HE1.out.mono ?_);rintro e w4 ⟨rfl,kv4,xv4,hz⟩;have R4:=Hj hz;obtain⟨x40,x41,x42,x43,x44,x46⟩:=HK.out w4 hz.bel;clear hz))
  | (go_at_call 152;((with_reducible refine(uj R4.out kind (by have:=HL.out;omega) (by simp)).mono ?_);rintro e w5 ⟨rfl,kv5,xv5,hz⟩;have R5:=Hj hz;obtain⟨x50,x51,x52,x53,x54,x56⟩:=HK.out w5 hz.bel;clear hz))
  | (go_at_call 153;((with_reducible refine(Lr.out w5 sp _ _ _ _ _ HL.out.2.2.1 (by simp) R5.out).mono ?_);rintro e w6 ⟨rfl,kv6,xv6,hz⟩;have R6:=Hj hz;obtain⟨x60,x61,x62,x63,x64,x66⟩:=HK.out w6 hz.bel;clear hz))
  | (go_at_call 153;((with_reducible refine(Lr.out w6 nm _ _ _ _ _ HL.out.2.2.2 (by simp) R6.out).mono ?_);rintro e w7 ⟨rfl,kv7,xv7,hz⟩;have R7:=Hj hz;obtain⟨x70,x71,x72,x73,x74,x76⟩:=HK.out w7 hz.bel;clear hz))
  | (go_at_call 154;((refine(La R7.out rev HL.out.2.1 (by simp)).mono ?_);rintro e w8 ⟨rfl,kv8,xv8,hz⟩;have R8:=Hj hz;obtain⟨x80,x81,x82,x83,x84,x86⟩:=HK.out w8 hz.bel;clear hz))
  | (go_at_call 153;((with_reducible refine(oJ R8.out none 0 0 [] (RB.nil _ _) (by decide) (by simp[maxLen]) (by decide) (by simp)).mono ?_);rintro e w9 ⟨rfl,kv9,xv9,hz⟩;have R9:=Hj hz;obtain⟨x90,x91,x92,x93,x94,x96⟩:=HK.out w9 hz.bel;clear hz;have HF:Hid ((([]:List (List UInt8×Value))++[(bG 10 (dY 2),xv4)]++[(bG 10 (dY kind),xv5)]++[(bG 4 sp.data.toList,xv6)]++[(bG 4 nm.data.toList,xv7)]++[(bG 2 (dY rev),xv8)]++[(bG 4 ([]:List UInt8),xv9)]).map (fun x=>x.1)=U1 2 kind rev sp.data.toList nm.data.toList []):=Hj (by simp[U1]);have YG:=Hj (xP (what:=2) (kind:=kind) (rev:=rev) (space:=sp.data.toList) (name:=nm.data.toList) (data:=[]) (by decide) (by have:=HL.out;omega) HL.out.2.1 (by have:=HL.out;simp;omega) (by have:=HL.out;simp;omega) (by simp))))
  | (go_at_call 155;((refine(Bv R9.out (by rw[HF.out];have:=YG.out;omega)).mono ?_);rintro e w10 ⟨rfl,dv,hz⟩;rw[HF.out] at hz;have R10:=Hj (show KR wb w10 (w.heap.size+1) q o cq dv (E5 2 kind rev sp.data.toList nm.data.toList []) from hz);clear hz))
  | (go_at_call 156;((refine(FB R10.out (by have:=YG.out;have:=bM 48 YG.out (by omega);unfold E5;omega)).mono ?_);rintro e Xr ⟨YH,c11,rfl,yH,yI⟩;have YJ:=Hj yH;have B11:=Hj yI;clear yH yI))
  | fail)
 go_ret2
 exact⟨YH,c11,rfl,OB.mono YJ.out (Cz BB.out.size R10.out.bel.size),BB.out.trans ((R10.out.bel.trans (B11.out.mono R10.out.bel.size)).mono BB.out.size)⟩
open SO
def qZ (c:UInt8):Bool:=(decide (97≤c.toNat)&&decide (c.toNat≤122))||(decide (48≤c.toNat)&&decide (c.toNat≤57))
def eF (l:List UInt8):Bool:=decide (0<l.length)&&(decide (l.length≤24)&&(!(Lib.hasPrefix l [45])&&(!(Lib.hasSuffix l [45])&&l.all fun c=>(c==45)||qZ c)))
theorem Ho {l:List UInt8} (h:eF l=true):0<l.length∧l.length≤24:=by
 unfold eF at h
 rw[jA,jA] at h
 exact⟨rG h.1,rG h.2.1⟩
/-- A number's figures, the last one first. -/
def sG (n:Nat):List UInt8:=if h:n<10 then [UInt8.ofNat (48+n)] else UInt8.ofNat (48+n % 10)::sG (n / 10)
termination_by n
decreasing_by exact Nat.div_lt_self (by omega) (by omega)
theorem lW {n:Nat} (h:n<10):sG n=[UInt8.ofNat (48+n)]:=by rw[sG,dif_pos h]
theorem BN {n:Nat} (h:¬n<10):sG n=UInt8.ofNat (48+n % 10)::sG (n / 10):=by rw[sG,dif_neg h]
def jh (k:Int):List UInt8:=if k<0 then [] else (sG k.toNat).reverse
def fV (kind:Int):Bool:=decide (kind=5)||decide (kind=6)
def dJ (kind:Int) (space name:ByteArray):Bool:=
 (if fV kind=true then eF space.data.toList else decide (space.size=0))&&(decide (1≤kind)&&(decide (kind≤7)&&eF name.data.toList))
def gU (kind:Int) (space:ByteArray):List UInt8:=jh kind++[47]++space.data.toList++[47]
def dG (l:List UInt8):ByteArray:=⟨l.toArray⟩
def jr (kind:Int) (space name:ByteArray):ByteArray:=dG (gU kind space++name.data.toList)
theorem aO (l:List UInt8):(dG l).toList=l:=PS l
theorem NC (l:List UInt8):(dG l).data.toList=l:=by simp[dG]
theorem Fb (a b:List UInt8):dG a++dG b=dG (a++b):=kG (by simp[dG])
theorem size_data (s:ByteArray):s.data.toList.length=s.size:=by rw[pY];rfl
structure aC where
 kind:Nat
 space:ByteArray
 name:ByteArray
 ver:Nat
 data:List UInt8
def aW (o:aC):ByteArray:=jr (o.kind:Int) o.space o.name
structure aC.Ok (o:aC):Prop where
 named:dJ (o.kind:Int) o.space o.name=true
 data:o.data.length≤8192
theorem oz {kind:Int} {space name:ByteArray} (h:dJ kind space name=true):1≤kind∧kind≤7∧space.size≤24∧1≤name.size∧name.size≤24:=by
 unfold dJ at h
 rw[jA,jA,jA] at h
 obtain⟨h1,h2,h3,h4⟩:=h
 have h4:=Ho h4
 rw[size_data] at h4
 refine⟨rG h2,rG h3,?_,h4.1,h4.2⟩
 split at h1
 ·have:=Ho h1
  rw[size_data] at this
  exact this.2
 ·have:=rG h1
  omega
theorem aC.Ok.parts {o:aC} (h:o.Ok):1≤o.kind∧o.kind≤7∧o.space.size≤24∧1≤o.name.size∧o.name.size≤24:=by
 have:=oz h.named
 omega
structure bQ where
 rev:Nat
 base:Nat
 tab:List (ByteArray×aC)
 evs:List (Bool×aC)
/-- A change's bytes. -/
def jV (e:Bool×aC):List UInt8:=E5 (if e.1 then 2 else 1) e.2.kind e.2.ver e.2.space.data.toList e.2.name.data.toList (if e.1 then [] else e.2.data)
def bQ.was (M:bQ) (k:ByteArray):List UInt8:=match look aS k M.tab with | some x=>x.data | none=>[]
/-- What a change makes of a store. -/
def bQ.app (M:bQ) (e:Bool×aC):bQ:=
 if e.1=true then ⟨e.2.ver,M.base,rem aS (aW e.2) M.tab,M.evs++[(true,{e.2 with data:=M.was (aW e.2)})]⟩
 else ⟨e.2.ver,M.base,ins aS (aW e.2) e.2 M.tab,M.evs++[(false,e.2)]⟩
def bQ.play (M:bQ) (es:List (Bool×aC)):bQ:=es.foldl bQ.app M
/-- A change that can be done. -/
structure bQ.Can (M:bQ) (e:Bool×aC):Prop where
 ok:e.2.Ok
 ver:e.2.ver=M.rev+1
 most:e.2.ver≤1099511627776
 del:e.1=true→e.2.data=[]∧(look aS (aW e.2) M.tab).isSome=true
def bQ.Ov:bQ→List (Bool×aC)→Prop
 | _,[]=>True
 | M,e::es=>M.Can e∧(M.app e).Ov es
theorem Ov.snoc {e:Bool×aC}:∀{es:List (Bool×aC)} {M:bQ},M.Ov es→(M.play es).Can e→M.Ov (es++[e])
 | [],_,_,h=>⟨h,trivial⟩
 | _::es,_,h,k=>⟨h.1,Ov.snoc (es:=es) h.2 k⟩
theorem ES (M:bQ) (e:Bool×aC):(M.app e).base=M.base:=by
 unfold bQ.app
 split
 ·rfl
 ·rfl
theorem xI (M:bQ) (e:Bool×aC):(M.app e).rev=e.2.ver:=by
 unfold bQ.app
 split
 ·rfl
 ·rfl
structure wu (rev:Nat) (tab:List (ByteArray×aC)):Prop where
 tH:aT aS tab
 each:∀x∈tab,x.1=aW x.2∧x.2.Ok∧1≤x.2.ver∧x.2.ver≤rev
theorem wu.nil (rev:Nat):wu rev []:=⟨List.Pairwise.nil,fun _ h=>by cases h⟩
structure bQ.Ok (M:bQ):Prop where
 tab:wu M.rev M.tab
 le:M.base≤M.rev
 most:M.rev≤1099511627776
 num:M.rev=M.base+M.evs.length
 evs:∀i e,M.evs[i]?=some e→e.2.ver=M.base+1+i∧e.2.Ok
theorem Hw {k:ByteArray} {o:aC}:∀{l:List (ByteArray×aC)},look aS k l=some o→∃k',(k',o)∈l
 | [],h=>by simp[look] at h
 | x::l,h=>by
  unfold look at h
  split at h
  ·cases h
  ·split at h
   ·obtain ⟨k',hk⟩:=Hw h
    exact⟨k',gK _ hk⟩
   ·injection h with h
    subst h
    exact⟨x.1,by simp⟩
theorem bQ.Ok.app {M:bQ} (h:M.Ok) {e:Bool×aC} (c:M.Can e):(M.app e).Ok:=by
 have hv:=c.ver
 have hl:=h.le
 have hn:=h.num
 have each:∀x∈M.tab,x.1=aW x.2∧x.2.Ok∧1≤x.2.ver∧x.2.ver≤e.2.ver:=fun x hx=>by
  obtain⟨a,b,d,f⟩:=h.tab.each x hx
  exact⟨a,b,d,by omega⟩
 unfold bQ.app
 split
 ·rename_i hd
  refine⟨⟨vF h.tab.tH,fun x hx=>each x (mM.subset hx)⟩,by show M.base≤e.2.ver;omega,c.most,by show e.2.ver=M.base+(M.evs++[_]).length;simp;omega,fun i x hx=> ?_⟩
  by_cases hi:i<M.evs.length
  ·rw [tJ hi] at hx
   exact h.evs i x hx
  ·rw [vW (by omega)] at hx
   obtain⟨h1,h2⟩:=fA.1 hx
   have h1':i-M.evs.length<1:=h1
   have e0:i-M.evs.length=0:=by omega
   simp[e0] at hx
   subst hx
   refine⟨by show e.2.ver=M.base+1+i;omega,c.ok.named,?_⟩
   show (M.was (aW e.2)).length≤8192
   unfold bQ.was
   split
   ·rename_i o ho
    obtain⟨k',hk⟩:=Hw ho
    exact(h.tab.each _ hk).2.1.data
   ·simp
 ·rename_i hd
  refine⟨⟨nU dh h.tab.tH,fun x hx=> ?_⟩,by show M.base≤e.2.ver;omega,c.most,by show e.2.ver=M.base+(M.evs++[_]).length;simp;omega,fun i x hx=> ?_⟩
  ·rcases tu hx with hx | hx
   ·subst hx
    exact⟨rfl,c.ok,by show 1≤e.2.ver;omega,bZ _⟩
   ·exact each x hx
  ·by_cases hi:i<M.evs.length
   ·rw [tJ hi] at hx
    exact h.evs i x hx
   ·rw [vW (by omega)] at hx
    obtain⟨h1,h2⟩:=fA.1 hx
    have h1':i-M.evs.length<1:=h1
    have e0:i-M.evs.length=0:=by omega
    simp[e0] at hx
    subst hx
    exact⟨by show e.2.ver=M.base+1+i;omega,c.ok⟩
theorem Ok.play:∀{es:List (Bool×aC)} {M:bQ},M.Ok→M.Ov es→(M.play es).Ok
 | [],_,h,_=>h
 | _::es,_,h,c=>Ok.play (es:=es) (h.app c.1) c.2
/-- A snapshot's text. -/
def bY (base:Nat) (tab:List (ByteArray×aC)):List UInt8:=bG 2 (dY base)++tab.flatMap fun x=>jV (false,x.2)
/-- A store as it is behind its snapshot. -/
def bQ.at (base:Nat) (tab:List (ByteArray×aC)):bQ:=⟨base,base,tab,[]⟩
theorem bQ.Bo {base:Nat} {tab:List (ByteArray×aC)} (h:wu base tab) (hb:base≤1099511627776):(bQ.at base tab).Ok:=⟨h,bZ _,hb,rfl,fun i e he=>by cases he⟩
def st0:bQ:=⟨0,0,[],[]⟩
/-- What a store's state is for who asks. -/
def bQ.fresh (M:bQ):bQ:=bQ.at M.rev M.tab
section
variable {m m':DM} {L L':LM} {M M':bQ} {e:Bool×aC} {n E:Nat}
/-- What a change does: the number and the error's that are answered, the store, the log and the disk behind it. -/
def Nb (M:bQ) (L:LM) (m:DM) (e:Bool×aC) (n E:Nat) (M':bQ) (L':LM) (m':DM):Prop:=
 (1099511627776≤M.rev∧n=0∧E=26∧M'=M∧L'=L∧m'=m)∨
 (M.rev<1099511627776∧
  ((L.yj m (jV e)=0∧n=e.2.ver∧E=0∧M'=M.app e∧L'=L.app m (jV e)∧m'=L.uS m (jV e))∨
   (L.yj m (jV e)=26∧
    ((L.zW m (bY M.rev M.tab)=26∧n=0∧E=26∧M'=M∧L'=L∧m'=m)∨
    (L.zW m (bY M.rev M.tab)=0∧∃L1 m1,L1=L.cp m (bY M.rev M.tab)∧m1=L.zV m (bY M.rev M.tab)∧
     ((L1.yj m1 (jV e)=0∧n=e.2.ver∧E=0∧M'=M.fresh.app e∧L'=L1.app m1 (jV e)∧m'=L1.uS m1 (jV e))∨
      (L1.yj m1 (jV e)=26∧n=0∧E=26∧M'=M.fresh∧L'=L1∧m'=m1)))))))
theorem qK (h:e.2.Ok) (hv:e.2.ver≤1099511627776):(jV e).length≤10504:=by
 obtain⟨h1,h2,h3,h4,h5⟩:=h.parts
 have hd:(if e.1 then ([]:List UInt8) else e.2.data).length≤10000:=by
  have:=h.data
  split
  ·simp
  ·omega
 have hw:(if e.1 then 2 else 1:Nat)<4611686018427387904:=by split<;>omega
 exact bM 48 (xP hw (by omega) (by omega) (by rw[size_data];omega) (by rw[size_data];omega) hd) (by omega)
theorem qL (c:M.Can e):M.fresh.Can e:=⟨c.ok,c.ver,c.most,c.del⟩
end
end Go.Proofs.YtdhbpajamlfacaaGreatDoor
